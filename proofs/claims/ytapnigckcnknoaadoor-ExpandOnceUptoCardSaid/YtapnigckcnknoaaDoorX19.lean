/-
  One text of the proof (own work): contracts of functions of the program, by the abstract machine.
-/
import Derived.Shelf.SlMaps.Copy
import Derived.Test.YtapnigckcnknoaaDoorX12
import Derived.Test.YtapnigckcnknoaaDoorX15
import Derived.Test.YtapnigckcnknoaaDoorX18
set_option linter.unusedVariables false
set_option linter.unusedSimpArgs false
namespace Go.Ab
set_option maxRecDepth 4000
abbrev Sq := List UInt8 × Int × Int
def Rs (a b : Sq) : Prop := a.1 < b.1 ∨ (a.1 = b.1 ∧ a.2.2 < b.2.1)
def Cov (l : List Sq) (p : List UInt8) (n : Int) : Prop := ∃ s ∈ l, s.1 = p ∧ s.2.1 ≤ n ∧ n < s.2.2
structure Canon (l : List Sq) : Prop where
  pw : l.Pairwise Rs
  ne : ∀ s ∈ l, s.2.1 < s.2.2
theorem bs_irr (a : List UInt8) : ¬ a < a := List.lt_irrefl a
theorem Rs.trans {a b c : Sq} (h : Rs a b) (k : Rs b c) (hb : b.2.1 < b.2.2) : Rs a c := by
  rcases h with h | ⟨h1, h2⟩ <;> rcases k with k | ⟨k1, k2⟩
  · exact .inl (List.lt_trans h k)
  · exact .inl (k1 ▸ h)
  · exact .inl (h1 ▸ k)
  · exact .inr ⟨h1.trans k1, by omega⟩
theorem Rs.irr {a : Sq} (h : Rs a a) (ha : a.2.1 < a.2.2) : False := by
  rcases h with h | ⟨_, h⟩
  · exact bs_irr _ h
  · omega
theorem Canon.tail {a : Sq} {l : List Sq} (h : Canon (a :: l)) : Canon l := ⟨(List.pairwise_cons.1 h.pw).2, fun s hs => h.ne s (by simp [hs])⟩
theorem Canon.two {l : List Sq} (h : Canon l) {a b : Sq} (ha : a ∈ l) (hb : b ∈ l) : a = b ∨ Rs a b ∨ Rs b a := by
  induction l with
  | nil => cases ha
  | cons x l ih =>
    have h1 := (List.pairwise_cons.1 h.pw).1
    rcases List.mem_cons.1 ha with rfl | ha2 <;> rcases List.mem_cons.1 hb with rfl | hb2
    · exact .inl rfl
    · exact .inr (.inl (h1 _ hb2))
    · exact .inr (.inr (h1 _ ha2))
    · exact ih h.tail ha2 hb2
structure Mx (l : List Sq) (s : Sq) : Prop where
  ne : s.2.1 < s.2.2
  all : ∀ n, s.2.1 ≤ n → n < s.2.2 → Cov l s.1 n
  lo : ¬ Cov l s.1 (s.2.1 - 1)
  hi : ¬ Cov l s.1 s.2.2
theorem Canon.same {l : List Sq} (h : Canon l) {a b : Sq} (ha : a ∈ l) (hb : b ∈ l) (hp : a.1 = b.1) : a = b ∨ a.2.2 < b.2.1 ∨ b.2.2 < a.2.1 := by
  rcases h.two ha hb with e | (k | ⟨_, k⟩) | (k | ⟨_, k⟩)
  · exact .inl e
  · rw [hp] at k; exact absurd k (bs_irr _)
  · exact .inr (.inl k)
  · rw [hp] at k; exact absurd k (bs_irr _)
  · exact .inr (.inr k)
theorem Canon.mx {l : List Sq} (h : Canon l) {s : Sq} : s ∈ l ↔ Mx l s := by
  constructor
  · intro hs
    have hne := h.ne s hs
    refine ⟨hne, fun n h1 h2 => ⟨s, hs, rfl, h1, h2⟩, ?_, ?_⟩
    · rintro ⟨t, ht, hp, h1, h2⟩
      rcases h.same hs ht hp.symm with e | k | k
      · subst e; omega
      · omega
      · omega
    · rintro ⟨t, ht, hp, h1, h2⟩
      rcases h.same hs ht hp.symm with e | k | k
      · subst e; omega
      · omega
      · have := h.ne t ht; omega
  · rintro ⟨hne, h1, h2, h3⟩
    obtain ⟨t, ht, hp, k1, k2⟩ := h1 s.2.1 (Int.le_refl _) hne
    have e1 : t.2.1 = s.2.1 := by
      rcases Int.lt_or_eq_of_le k1 with k | k
      · exact absurd ⟨t, ht, hp, by omega, by omega⟩ h2
      · exact k
    have e2 : t.2.2 = s.2.2 := by
      by_cases hlt : t.2.2 < s.2.2
      · obtain ⟨u, hu, hpu, u1, u2⟩ := h1 t.2.2 (by omega) hlt
        rcases h.same ht hu (hp.trans hpu.symm) with e | k | k
        · subst e; omega
        · omega
        · have := h.ne t ht; omega
      · by_cases hgt : s.2.2 < t.2.2
        · exact absurd ⟨t, ht, hp, by omega, hgt⟩ h3
        · omega
    have : t = s := Prod.ext hp (Prod.ext e1 e2)
    rwa [← this]
theorem pw_eq {R : Sq → Sq → Prop} : ∀ (l m : List Sq), (∀ a ∈ l, ¬ R a a) → (∀ a ∈ l, ∀ b ∈ l, R a b → R b a → False) → l.Pairwise R → m.Pairwise R → (∀ s, s ∈ l ↔ s ∈ m) → l = m
  | [], [], _, _, _, _, _ => rfl
  | [], y :: m, _, _, _, _, h => absurd ((h y).2 (by simp)) (by simp)
  | x :: l, [], _, _, _, _, h => absurd ((h x).1 (by simp)) (by simp)
  | x :: l, y :: m, hi, ha, hl, hm, h => by
    obtain ⟨l1, l2⟩ := List.pairwise_cons.1 hl
    obtain ⟨m1, m2⟩ := List.pairwise_cons.1 hm
    have hxy : x = y := by
      rcases List.mem_cons.1 ((h x).1 (by simp)) with e | hx
      · exact e
      · rcases List.mem_cons.1 ((h y).2 (by simp)) with e | hy
        · exact e.symm
        · exact (ha x (by simp) y (by simp [hy]) (l1 y hy) (m1 x hx)).elim
    subst hxy
    rw [pw_eq l m (fun a h => hi a (by simp [h])) (fun a h b k => ha a (by simp [h]) b (by simp [k])) l2 m2 fun s => ?_]
    constructor
    · intro hs
      rcases List.mem_cons.1 ((h s).1 (by simp [hs])) with e | k
      · subst e; exact absurd (l1 s hs) (hi s (by simp))
      · exact k
    · intro hs
      rcases List.mem_cons.1 ((h s).2 (by simp [hs])) with e | k
      · subst e; exact absurd (m1 s hs) (hi s (by simp))
      · exact k
theorem canon_eq {l m : List Sq} (hl : Canon l) (hm : Canon m) (h : ∀ p n, Cov l p n ↔ Cov m p n) : l = m := by
  refine pw_eq l m (fun a ha k => k.irr (hl.ne a ha)) (fun a ha b hb k1 k2 => (k1.trans k2 (hl.ne b hb)).irr (hl.ne a ha)) hl.pw hm.pw fun s => ?_
  rw [hl.mx, hm.mx]
  constructor
  · rintro ⟨h1, h2, h3, h4⟩
    exact ⟨h1, fun n a b => (h _ _).1 (h2 n a b), fun k => h3 ((h _ _).2 k), fun k => h4 ((h _ _).2 k)⟩
  · rintro ⟨h1, h2, h3, h4⟩
    exact ⟨h1, fun n a b => (h _ _).2 (h2 n a b), fun k => h3 ((h _ _).1 k), fun k => h4 ((h _ _).1 k)⟩
def tch (s x : Sq) : Bool := s.1 == x.1 && (decide (s.2.1 ≤ x.2.2) && decide (x.2.1 ≤ s.2.2))
def mrg (s x : Sq) : Sq := (x.1, min x.2.1 s.2.1, max x.2.2 s.2.2)
def aft (s x : Sq) : Bool := decide (x.1 < s.1) || (s.1 == x.1 && decide (s.2.1 > x.2.2))
def addD (x : Sq) : List Sq → List Sq
  | [] => []
  | s :: r => if tch s x then addD (mrg s x) r else s :: addD x r
def addN (x : Sq) : List Sq → List Sq
  | [] => [x]
  | s :: r => if tch s x then addN (mrg s x) r else if aft s x then x :: s :: addD x r else s :: addN x r
theorem tch_iff (s x : Sq) : tch s x = true ↔ s.1 = x.1 ∧ s.2.1 ≤ x.2.2 ∧ x.2.1 ≤ s.2.2 := by
  unfold tch
  simp only [Bool.and_eq_true, beq_iff_eq, decide_eq_true_eq]
theorem aft_iff (s x : Sq) : aft s x = true ↔ Rs x s := by
  unfold aft Rs
  simp only [Bool.or_eq_true, Bool.and_eq_true, beq_iff_eq, decide_eq_true_eq]
  constructor
  · rintro (h | ⟨h1, h2⟩)
    · exact .inl h
    · exact .inr ⟨h1.symm, h2⟩
  · rintro (h | ⟨h1, h2⟩)
    · exact .inl h
    · exact .inr ⟨h1.symm, h2⟩
theorem addD_eq (x : Sq) : ∀ l, (∀ s ∈ l, Rs x s) → addD x l = l
  | [], _ => rfl
  | s :: r, h => by
    have h1 : tch s x = false := by
      rw [Bool.eq_false_iff]
      intro k
      rw [tch_iff] at k
      rcases h s (by simp) with q | ⟨_, q⟩
      · rw [k.1] at q; exact bs_irr _ q
      · omega
    rw [addD, h1, addD_eq x r (fun s hs => h s (by simp [hs]))]
    rfl
theorem Cov.cons {a : Sq} {l : List Sq} {p : List UInt8} {n : Int} : Cov (a :: l) p n ↔ (a.1 = p ∧ a.2.1 ≤ n ∧ n < a.2.2) ∨ Cov l p n := by
  constructor
  · rintro ⟨s, hs, h⟩
    rcases List.mem_cons.1 hs with rfl | hs
    · exact .inl h
    · exact .inr ⟨s, hs, h⟩
  · rintro (h | ⟨s, hs, h⟩)
    · exact ⟨a, by simp, h⟩
    · exact ⟨s, by simp [hs], h⟩
theorem cov_nil {p : List UInt8} {n : Int} : ¬ Cov [] p n := by
  rintro ⟨s, hs, _⟩
  cases hs
theorem mrg_cov {s x : Sq} (h : tch s x = true) (hs : s.2.1 < s.2.2) (hx : x.2.1 < x.2.2) (p : List UInt8) (n : Int) :
    ((mrg s x).1 = p ∧ (mrg s x).2.1 ≤ n ∧ n < (mrg s x).2.2) ↔ (x.1 = p ∧ x.2.1 ≤ n ∧ n < x.2.2) ∨ (s.1 = p ∧ s.2.1 ≤ n ∧ n < s.2.2) := by
  rw [tch_iff] at h
  obtain ⟨h1, h2, h3⟩ := h
  unfold mrg
  dsimp only
  rw [h1]
  constructor
  · rintro ⟨rfl, k1, k2⟩
    by_cases hn : x.2.1 ≤ n ∧ n < x.2.2
    · exact .inl ⟨rfl, hn⟩
    · exact .inr ⟨rfl, by omega, by omega⟩
  · rintro (⟨rfl, k1, k2⟩ | ⟨rfl, k1, k2⟩)
    · exact ⟨rfl, by omega, by omega⟩
    · exact ⟨rfl, by omega, by omega⟩
theorem lt_path {s x : Sq} (h1 : tch s x = false) (h2 : aft s x = false) : Rs s x := by
  by_cases hp : s.1 = x.1
  · refine .inr ⟨hp, ?_⟩
    have h3 : ¬ Rs x s := fun k => by rw [(aft_iff s x).2 k] at h2; cases h2
    have h4 : ¬ x.2.2 < s.2.1 := fun k => h3 (.inr ⟨hp.symm, k⟩)
    have h5 : ¬ (s.1 = x.1 ∧ s.2.1 ≤ x.2.2 ∧ x.2.1 ≤ s.2.2) := fun k => by rw [(tch_iff s x).2 k] at h1; cases h1
    by_cases h6 : s.2.2 < x.2.1
    · exact h6
    · exact absurd ⟨hp, by omega, by omega⟩ h5
  · by_cases hl : s.1 < x.1
    · exact .inl hl
    · have h3 : x.1 < s.1 := by
        have := List.not_lt.1 hl
        by_cases hq : x.1 < s.1
        · exact hq
        · exact absurd (List.le_antisymm (List.not_lt.1 hq) this) hp
      rw [(aft_iff s x).2 (.inl h3)] at h2
      cases h2
theorem addN_ok : ∀ (l : List Sq) (x : Sq), Canon l → x.2.1 < x.2.2 → Canon (addN x l) ∧ (∀ p n, Cov (addN x l) p n ↔ (x.1 = p ∧ x.2.1 ≤ n ∧ n < x.2.2) ∨ Cov l p n) ∧ ∀ y, Rs y x → (∀ s ∈ l, Rs y s) → ∀ z ∈ addN x l, Rs y z
  | [], x, _, hx => ⟨⟨by simp [addN], fun s hs => by simp [addN] at hs; rw [hs]; exact hx⟩, fun p n => by rw [addN, Cov.cons], fun y h _ z hz => by simp [addN] at hz; rw [hz]; exact h⟩
  | s :: r, x, hl, hx => by
    have hs := hl.ne s (by simp)
    have hsr := (List.pairwise_cons.1 hl.pw).1
    rw [addN]
    cases h1 : tch s x
    case true =>
      simp only [if_true]
      have ht := (tch_iff s x).1 h1
      obtain ⟨i1, i2, i3⟩ := addN_ok r (mrg s x) hl.tail (by unfold mrg; dsimp only; omega)
      refine ⟨i1, fun p n => ?_, fun y hy hall z hz => i3 y ?_ (fun t ht => hall t (by simp [ht])) z hz⟩
      · rw [i2, mrg_cov h1 hs hx, Cov.cons, or_assoc]
      · rcases hy with q | ⟨q1, q2⟩
        · exact .inl q
        · rcases hall s (by simp) with q | ⟨q3, q4⟩
          · refine .inl ?_
            show y.1 < x.1
            rw [← ht.1]; exact q
          · exact .inr ⟨q1, by unfold mrg; dsimp only; omega⟩
    case false =>
      cases h2 : aft s x
      case true =>
        simp only [Bool.false_eq_true, if_false, if_true]
        have hxs := (aft_iff s x).1 h2
        have hxr : ∀ t ∈ r, Rs x t := fun t ht => hxs.trans (hsr t ht) hs
        rw [addD_eq x r hxr]
        refine ⟨⟨List.pairwise_cons.2 ⟨fun t ht => ?_, hl.pw⟩, fun t ht => ?_⟩, fun p n => by rw [Cov.cons], fun y hy hall z hz => ?_⟩
        · rcases List.mem_cons.1 ht with rfl | ht
          · exact hxs
          · exact hxr t ht
        · rcases List.mem_cons.1 ht with rfl | ht
          · exact hx
          · exact hl.ne t ht
        · rcases List.mem_cons.1 hz with rfl | hz
          · exact hy
          · exact hall z hz
      case false =>
        simp only [Bool.false_eq_true, if_false]
        have hsx := lt_path h1 h2
        obtain ⟨i1, i2, i3⟩ := addN_ok r x hl.tail hx
        refine ⟨⟨List.pairwise_cons.2 ⟨fun z hz => i3 s hsx hsr z hz, i1.pw⟩, fun t ht => ?_⟩, fun p n => ?_, fun y hy hall z hz => ?_⟩
        · rcases List.mem_cons.1 ht with rfl | ht
          · exact hs
          · exact i1.ne t ht
        · rw [Cov.cons, i2, Cov.cons]
          exact or_left_comm
        · rcases List.mem_cons.1 hz with rfl | hz
          · exact hall _ (by simp)
          · exact i3 y hy (fun t ht => hall t (by simp [ht])) z hz
def full (s : Sq) : Bool := decide (s.2.1 < s.2.2)
def setG (l : List Sq) : List Sq := (l.filter full).foldl (fun a s => addN s a) []
theorem fold_ok : ∀ (l a : List Sq), (∀ s ∈ l, s.2.1 < s.2.2) → Canon a → Canon (l.foldl (fun a s => addN s a) a) ∧ ∀ p n, Cov (l.foldl (fun a s => addN s a) a) p n ↔ Cov a p n ∨ Cov l p n
  | [], a, _, ha => ⟨ha, fun p n => by simp [cov_nil]⟩
  | s :: l, a, h, ha => by
    obtain ⟨h1, h2, _⟩ := addN_ok a s ha (h s (by simp))
    obtain ⟨i1, i2⟩ := fold_ok l (addN s a) (fun t ht => h t (by simp [ht])) h1
    refine ⟨i1, fun p n => ?_⟩
    show Cov (l.foldl (fun a s => addN s a) (addN s a)) p n ↔ _
    rw [i2, h2, Cov.cons, or_assoc, or_left_comm]
theorem canon_nil : Canon [] := ⟨.nil, fun s hs => by cases hs⟩
theorem setG_ok (l : List Sq) : Canon (setG l) ∧ ∀ p n, Cov (setG l) p n ↔ Cov l p n := by
  obtain ⟨h1, h2⟩ := fold_ok (l.filter full) [] (fun s hs => by simpa [full] using (List.mem_filter.1 hs).2) canon_nil
  refine ⟨h1, fun p n => ?_⟩
  unfold setG
  rw [h2]
  constructor
  · rintro (h | ⟨s, hs, h⟩)
    · exact absurd h cov_nil
    · exact ⟨s, (List.mem_filter.1 hs).1, h⟩
  · rintro ⟨s, hs, h⟩
    exact .inr ⟨s, List.mem_filter.2 ⟨hs, by unfold full; exact decide_eq_true (by omega)⟩, h⟩
def Le (a b : Sq) : Prop := a.1 < b.1 ∨ (a.1 = b.1 ∧ a.2.1 ≤ b.2.1)
def mg : Sq → List Sq → List Sq
  | c, [] => [c]
  | c, s :: r => if c.1 == s.1 && decide (c.2.2 ≥ s.2.1) then mg (c.1, c.2.1, max c.2.2 s.2.2) r else c :: mg s r
def mgL : List Sq → List Sq
  | [] => []
  | s :: r => mg s r
theorem mg_mem : ∀ (r : List Sq) (c z : Sq), z ∈ mg c r → ∃ t ∈ c :: r, z.1 = t.1 ∧ z.2.1 = t.2.1
  | [], c, z, h => by
    simp only [mg, List.mem_singleton] at h
    exact ⟨c, by simp, by rw [h], by rw [h]⟩
  | s :: r, c, z, h => by
    rw [mg] at h
    split at h
    · obtain ⟨t, ht, h1, h2⟩ := mg_mem r _ z h
      rcases List.mem_cons.1 ht with rfl | ht
      · exact ⟨c, by simp, h1, h2⟩
      · exact ⟨t, by simp [ht], h1, h2⟩
    · rcases List.mem_cons.1 h with rfl | h
      · exact ⟨z, by simp, rfl, rfl⟩
      · obtain ⟨t, ht, h1, h2⟩ := mg_mem r s z h
        exact ⟨t, by simp only [List.mem_cons] at ht ⊢; exact .inr ht, h1, h2⟩
theorem mg_ok : ∀ (r : List Sq) (c : Sq), (∀ t ∈ r, Le c t) → r.Pairwise Le → c.2.1 < c.2.2 → (∀ t ∈ r, t.2.1 < t.2.2) → Canon (mg c r) ∧ ∀ p n, Cov (mg c r) p n ↔ Cov (c :: r) p n
  | [], c, _, _, hc, _ => ⟨⟨by simp [mg], fun s hs => by simp [mg] at hs; rw [hs]; exact hc⟩, fun p n => by rw [mg]⟩
  | s :: r, c, h, hp, hc, hr => by
    obtain ⟨p1, p2⟩ := List.pairwise_cons.1 hp
    have hcs := h s (by simp)
    have hs := hr s (by simp)
    rw [mg]
    cases h1 : (c.1 == s.1 && decide (c.2.2 ≥ s.2.1))
    case true =>
      simp only [Bool.and_eq_true, beq_iff_eq, decide_eq_true_eq] at h1
      obtain ⟨e1, e2⟩ := h1
      simp only [if_true]
      have hle : c.2.1 ≤ s.2.1 := by
        rcases hcs with k | ⟨_, k⟩
        · rw [e1] at k; exact absurd k (bs_irr _)
        · exact k
      obtain ⟨i1, i2⟩ := mg_ok r (c.1, c.2.1, max c.2.2 s.2.2) (fun t ht => h t (by simp [ht])) p2 (by dsimp only; omega) (fun t ht => hr t (by simp [ht]))
      refine ⟨i1, fun p n => ?_⟩
      rw [i2, Cov.cons, Cov.cons, Cov.cons, ← or_assoc]
      refine or_congr ?_ Iff.rfl
      dsimp only
      rw [← e1]
      constructor
      · rintro ⟨rfl, k1, k2⟩
        by_cases hn : n < c.2.2
        · exact .inl ⟨rfl, k1, hn⟩
        · exact .inr ⟨rfl, by omega, by omega⟩
      · rintro (⟨rfl, k1, k2⟩ | ⟨rfl, k1, k2⟩)
        · exact ⟨rfl, k1, by omega⟩
        · exact ⟨rfl, by omega, by omega⟩
    case false =>
      simp only [Bool.false_eq_true, if_false]
      obtain ⟨i1, i2⟩ := mg_ok r s p1 p2 hs (fun t ht => hr t (by simp [ht]))
      have hRs : Rs c s := by
        rcases hcs with k | ⟨k1, k2⟩
        · exact .inl k
        · refine .inr ⟨k1, ?_⟩
          by_cases hq : c.2.2 < s.2.1
          · exact hq
          · have : (c.1 == s.1 && decide (c.2.2 ≥ s.2.1)) = true := by
              simp only [Bool.and_eq_true, beq_iff_eq, decide_eq_true_eq]
              exact ⟨k1, by omega⟩
            rw [this] at h1; cases h1
      refine ⟨⟨List.pairwise_cons.2 ⟨fun z hz => ?_, i1.pw⟩, fun t ht => ?_⟩, fun p n => by rw [Cov.cons, i2, ← Cov.cons]⟩
      · obtain ⟨t, ht, k1, k2⟩ := mg_mem r s z hz
        have : Rs c t := by
          rcases List.mem_cons.1 ht with rfl | ht
          · exact hRs
          · rcases p1 t ht with q | ⟨q1, q2⟩ <;> rcases hRs with w | ⟨w1, w2⟩
            · exact .inl (List.lt_trans w q)
            · exact .inl (w1 ▸ q)
            · exact .inl (q1 ▸ w)
            · exact .inr ⟨w1.trans q1, by omega⟩
        unfold Rs at this ⊢
        rw [k1, k2]
        exact this
      · rcases List.mem_cons.1 ht with rfl | ht
        · exact hc
        · exact i1.ne t ht
theorem setG_eq {l m : List Sq} (hp : m.Perm (l.filter full)) (hs : m.Pairwise Le) : mgL m = setG l := by
  have hne : ∀ t ∈ m, t.2.1 < t.2.2 := fun t ht => by simpa [full] using (List.mem_filter.1 (hp.mem_iff.1 ht)).2
  obtain ⟨g1, g2⟩ := setG_ok l
  have hcov : ∀ p n, Cov m p n ↔ Cov l p n := fun p n => by
    constructor
    · rintro ⟨s, hs, h⟩
      exact ⟨s, (List.mem_filter.1 (hp.mem_iff.1 hs)).1, h⟩
    · rintro ⟨s, hs, h⟩
      exact ⟨s, hp.mem_iff.2 (List.mem_filter.2 ⟨hs, by unfold full; exact decide_eq_true (by omega)⟩), h⟩
  cases m with
  | nil =>
    refine canon_eq canon_nil g1 fun p n => ?_
    rw [g2, ← hcov]
    exact Iff.rfl
  | cons s r =>
    obtain ⟨p1, p2⟩ := List.pairwise_cons.1 hs
    obtain ⟨i1, i2⟩ := mg_ok r s p1 p2 (hne s (by simp)) (fun t ht => hne t (by simp [ht]))
    refine canon_eq i1 g1 fun p n => ?_
    rw [show mgL (s :: r) = mg s r from rfl, i2, hcov, g2]
end Go.Ab
namespace Go.Ab
open Go Go.RowKit Go.Proofs
open Go.WideElems (Fit rd rg rd_key rd_val rg_of)
def trueR : Value → Option (DataW Unit × List MemPlace)
  | .bool true => some (.lit (.bool true), [])
  | _ => none
theorem trueR_inv {v : Value} {z : DataW Unit × List MemPlace} (h : trueR v = some z) : v = .bool true := by
  unfold trueR at h
  split at h
  · rfl
  · cases h
def OwnsS (P : Program) (kt : TypeId) (w : World) (b n : Nat) (p : List UInt8 → Bool) : Prop :=
  ∃ D, w.ownsMap P kt trueR b n D ∧ ∀ s, Maps.has D (.string s) = p s
section
variable {P : Program} {kt : TypeId} {w : World} {b n : Nat}
theorem key_str (hk : P.underlying kt = some .string) {s : List UInt8} (hs : s.length ≤ maxLen) : keyOf P kt (.string ⟨s.toArray⟩) = some (.string s) := by
  rw [keyOf_string hk]
  unfold mapKey
  rw [hk]
  have : (⟨s.toArray⟩ : ByteArray).size = s.length := by simp [ByteArray.size]
  simp only [this, hs, if_true]
theorem key_str_inv (hk : P.underlying kt = some .string) {v : Value} {l : Lit} (h : keyOf P kt v = some l) : ∃ s : List UInt8, v = .string ⟨s.toArray⟩ ∧ l = .string s := by
  rw [keyOf_string hk] at h
  unfold mapKey at h
  rw [hk] at h
  cases v <;> simp only [] at h
  all_goals try cases h
  rename_i x
  split at h
  · simp only [Option.some.injEq] at h
    exact ⟨x.data.toList, by simp, h.symm⟩
  · cases h
theorem has_rows (K : Maps.Keyed P kt) (hk : P.underlying kt = some .string) {es : Array MapEntry} {clock : Nat} (F : Fit P kt trueR es clock) (s : List UInt8) :
    Maps.has (.map ((es.toList.map (rg P kt trueR)).foldr DataW.insert [])) (.string s) = true ↔ ∃ e ∈ es.toList, e.key = .string ⟨s.toArray⟩ := by
  rw [Maps.has_eq, List.any_eq_true]
  constructor
  · rintro ⟨p, hp, h⟩
    obtain ⟨e, he, rfl⟩ := List.mem_map.1 (mem_sorted.1 hp)
    obtain ⟨y, hy⟩ := F.reads e he
    rw [rg_of hy] at h
    obtain ⟨s2, h1, h2⟩ := key_str_inv hk (rd_key hy)
    rw [h2] at h
    have h3 := WideAt.sameKey_eq h
    simp only [Lit.string.injEq] at h3
    exact ⟨e, he, by rw [h1, h3]⟩
  · rintro ⟨e, he, h⟩
    obtain ⟨y, hy⟩ := F.reads e he
    refine ⟨rg P kt trueR e, mem_sorted.2 (List.mem_map.2 ⟨e, he, rfl⟩), ?_⟩
    rw [rg_of hy]
    obtain ⟨s2, h1, h2⟩ := key_str_inv hk (rd_key hy)
    rw [h] at h1
    have h3 : s = s2 := by
      simp only [Value.string.injEq, ByteArray.mk.injEq] at h1
      simpa using congrArg Array.toList h1
    rw [h2, ← h3]
    exact WideAt.sameKey_self trivial
theorem owns_of (hk : P.underlying kt = some .string) {B : Nat → Prop} {ss : List (List UInt8)} {v : Value} (hs : ∀ s ∈ ss, s.length ≤ maxLen) (hn : ss.length ≤ maxLen) (h : DR w B (.set ss) v) :
    ∃ b, v = .map (some b) ∧ B b ∧ OwnsS P kt w b ss.length (fun s => ss.contains s) := by
  cases h with
  | set _ b clock es hb hw hst ho =>
    obtain ⟨h1, h2, h3, h4⟩ := ho
    refine ⟨b, rfl, hb, ?_⟩
    have F : Fit P kt trueR es clock := ⟨by omega, ⟨hst.1, hst.2, h1⟩, fun e he => by
      obtain ⟨s, hs2, k1, k2⟩ := h3 e he
      refine ⟨(.string s, .lit (.bool true)), ?_⟩
      unfold rd
      rw [k1, key_str hk (hs s hs2), k2]
      rfl⟩
    refine ⟨_, ⟨es, clock, hw, F, h2, rfl⟩, fun s => ?_⟩
    rw [Bool.eq_iff_iff, has_rows (Maps.string_keyed hk) hk F, List.contains_iff_mem]
    constructor
    · rintro ⟨e, he, k⟩
      obtain ⟨s2, hs2, k1, _⟩ := h3 e he
      rw [k] at k1
      have : s = s2 := by
        simp only [Value.string.injEq, ByteArray.mk.injEq] at k1
        simpa using congrArg Array.toList k1
      rw [this]; exact hs2
    · intro hs2
      exact h4 s hs2
theorem nd_len {α : Type} [BEq α] [LawfulBEq α] : ∀ (h L : List α), h.Nodup → (∀ s ∈ h, s ∈ L) → h.length ≤ L.length
  | [], _, _, _ => Nat.zero_le _
  | x :: h, L, nd, hs => by
    obtain ⟨n1, n2⟩ := List.nodup_cons.1 nd
    have h1 := hs x (by simp)
    have := nd_len h (L.erase x) n2 (fun s hs2 => (List.mem_erase_of_ne (fun e => n1 (by rw [← e]; exact hs2))).2 (hs s (by simp [hs2])))
    rw [List.length_erase_of_mem h1] at this
    have := List.length_pos_of_mem h1
    simp only [List.length_cons]
    omega
theorem OwnsS.reads {p : List UInt8 → Bool} (hk : P.underlying kt = some .string) {B : Nat → Prop} {ss : List (List UInt8)} (h : OwnsS P kt w b n p) (hp : ∀ s, p s = true ↔ s ∈ ss) (hB : B b) : DR w B (.set ss) (.map (some b)) := by
  obtain ⟨D, ⟨es, clock, hw, F, hn, rfl⟩, hh⟩ := h
  have hK := Maps.string_keyed hk
  have hkeys : ∀ e ∈ es.toList, ∃ s ∈ ss, e.key = .string ⟨s.toArray⟩ ∧ e.val = .bool true := fun e he => by
    obtain ⟨y, hy⟩ := F.reads e he
    obtain ⟨s, h1, _⟩ := key_str_inv hk (rd_key hy)
    obtain ⟨z, h2, _⟩ := rd_val hy
    refine ⟨s, ?_, h1, trueR_inv h2⟩
    rw [← hp, ← hh, has_rows hK hk F]
    exact ⟨e, he, h1⟩
  refine .set ss b clock es hB hw ⟨F.stamped.1, F.stamped.2.1⟩ ⟨F.stamped.2.2, ?_, hkeys, fun s hs => ?_⟩
  · have hnd : (es.toList.map (·.key)).Nodup := F.stamped.2.2
    have hinj : (es.toList.map (fun e => match e.key with | .string x => x.data.toList | _ => [])).Nodup := by
      rw [List.nodup_iff_pairwise_ne, List.pairwise_map] at hnd ⊢
      refine List.Pairwise.imp_of_mem ?_ hnd
      intro a c ha hc hne
      obtain ⟨s1, _, k1, _⟩ := hkeys a ha
      obtain ⟨s2, _, k2, _⟩ := hkeys c hc
      rw [k1, k2] at hne ⊢
      intro e
      exact hne (by simp only at e; rw [show s1 = s2 from e])
    have := nd_len _ ss hinj (fun s hs => by
      obtain ⟨e, he, rfl⟩ := List.mem_map.1 hs
      obtain ⟨s1, h1, k1, _⟩ := hkeys e he
      rw [k1]
      exact h1)
    simpa using this
  · rw [← hp, ← hh, has_rows hK hk F] at hs
    exact hs
theorem OwnsS.merge {D D' : DataW Unit} {s : List UInt8} (K : Maps.Keyed P kt) {n' b' : Nat} {w' : World} (h : w.ownsMap P kt trueR b n D) (h' : w'.ownsMap P kt trueR b' n' D') : Maps.has (Lib.mergeD D D') (.string s) = (Maps.has D (.string s) || Maps.has D' (.string s)) := by
  obtain ⟨es, rfl, _, hk⟩ := h'.entries K
  obtain ⟨ds, rfl, _, _⟩ := h.entries K
  exact Maps.has_foldPut _ _ _ ⟨_, rfl⟩ hk
theorem OwnsS.size {p : List UInt8 → Bool} {D : DataW Unit} (h : w.ownsMap P kt trueR b n D) : Maps.size D ≤ n := by
  obtain ⟨es, clock, _, F, hn, rfl⟩ := h
  rw [Maps.size_eq, length_sorted, List.length_map]
  simpa using hn
end
end Go.Ab
namespace Go.Ab
open Go Go.RowKit Go.Proofs Go.Shelf
set_option maxRecDepth 100000
set_option maxHeartbeats 4000000
def shRenX : Ren := ⟨fun | 5 => 41 | n => n, fun | 23 => 54 | 24 => 54 | 26 => 9 | 27 => 4 | n => n, fun | n => n⟩
theorem layX5 : SlLaysX.n5 Tryd.prog shRenX := {
  mixed := by kernel_rfl
  f5 := ⟨"maps.Copy[map[string]bool,map[string]bool,string,bool]", by decide, by kernel_rfl⟩
  t0 := by kernel_rfl
  a0 := by intro w; kernel_rfl
  z0 := by intro w; kernel_rfl
  v0 := by intro w; kernel_rfl
  t4 := by kernel_rfl
  a4 := by intro w; kernel_rfl
  z4 := by intro w; kernel_rfl
  v4 := by intro w; kernel_rfl
  t23 := by kernel_rfl
  a23 := by intro w; kernel_rfl
  z23 := by intro w; kernel_rfl
  v23 := by intro w; kernel_rfl
  t24 := by kernel_rfl
  a24 := by intro w; kernel_rfl
  z24 := by intro w; kernel_rfl
  v24 := by intro w; kernel_rfl
  a26 := by intro w; kernel_rfl
  z26 := by intro w; kernel_rfl
  a27 := by intro w; kernel_rfl
  z27 := by intro w; kernel_rfl }
def bothB (a b : List Bs) : List Bs := b.foldl (fun out s => if out.contains s then out else out ++ [s]) a
def hidD : List Bs → D
  | [] => .map [] []
  | s :: r => .set (s :: r)
theorem keyed9 : Maps.Keyed Tryd.prog 9 := Maps.string_keyed (by kernel_rfl)
def SrcS (w : World) (ps : Option Nat) (n : Nat) (p : Bs → Bool) : Prop := (ps = none ∧ p = fun _ => false) ∨ ∃ b, ps = some b ∧ OwnsS Tryd.prog 9 w b n p
theorem copy_calls {w : World} {bd nd n : Nat} {ps : Option Nat} {p q : Bs → Bool} (hd : OwnsS Tryd.prog 9 w bd nd p) (hs : SrcS w ps n q) (hne : ps ≠ some bd) (hroom : nd + n ≤ maxLen) :
    Calls Tryd.prog 41 #[.map (some bd), .map ps] w fun e w' => e = .returned (.tuple #[]) ∧ OwnsS Tryd.prog 9 w' bd (nd + n) (fun s => p s || q s) ∧ w.grownBy w' (some bd) := by
  obtain ⟨D, hD, hp⟩ := hd
  have hs' : ∃ Ds, SrcOf Tryd.prog (shRenX.t 26) trueR w ps Ds ∧ Maps.size Ds ≤ n ∧ ∀ s, Maps.has (Lib.mergeD D Ds) (.string s) = (p s || q s) := by
    rcases hs with ⟨rfl, rfl⟩ | ⟨b, rfl, Ds, hDs, hq⟩
    · exact ⟨.nil, .inl ⟨rfl, rfl⟩, Nat.zero_le _, fun s => by
        show Maps.has D (.string s) = _
        rw [hp, Bool.or_false]⟩
    · exact ⟨Ds, .inr ⟨b, n, rfl, hDs⟩, OwnsS.size (p := q) hDs, fun s => by rw [OwnsS.merge keyed9 hD hDs, hp, hq]⟩
  obtain ⟨Ds, h1, h2, h3⟩ := hs'
  refine (AnyX.maps_Copy_opt layX5 keyed9 trueR bd nd ps D Ds w hD h1 hne (by omega)).mono ?_
  rintro e w' ⟨k1, k2, k3⟩
  exact ⟨k1, ⟨_, k2.mono (by omega), h3⟩, k3⟩
theorem SrcS.kept {w w' : World} {row : Option Nat} {ps : Option Nat} {n : Nat} {p : Bs → Bool} (h : SrcS w ps n p) (hg : w.grownBy w' row) (hne : ps ≠ row ∨ ps = none) : SrcS w' ps n p := by
  rcases h with h | ⟨b, rfl, D, hD, hp⟩
  · exact .inl h
  · exact .inr ⟨b, rfl, D, hD.kept hg (hne.resolve_right (by simp)), hp⟩
theorem src_hid {w : World} {B : Nat → Prop} {h : List Bs} {v : Value} (hs : ∀ s ∈ h, s.length ≤ maxLen) (hn : h.length ≤ maxLen) (hd : DR w B (hidD h) v) : ∃ ps, v = .map ps ∧ (∀ b, ps = some b → B b) ∧ SrcS w ps h.length (fun s => h.contains s) := by
  cases h with
  | nil =>
    cases (show DR w B (.map [] []) v from hd) with
    | nilmap => exact ⟨none, rfl, fun b hb => (by cases hb), .inl ⟨rfl, by funext s; rfl⟩⟩
    | map _ _ b clock es hb hw hk hv hst h1 h2 =>
      refine ⟨some b, rfl, fun b' hb' => by cases hb'; exact hb, .inr ⟨b, rfl, .map [], ?_, fun s => rfl⟩⟩
      have hz : es = #[] := Array.eq_empty_of_size_eq_zero hk
      subst hz
      exact ⟨#[], clock, hw, ⟨by simp, ⟨by simp, by simp, by simp⟩, by simp⟩, Nat.zero_le _, rfl⟩
  | cons s r =>
    obtain ⟨b, rfl, hb, ho⟩ := owns_of (kt := 9) (P := Tryd.prog) (by kernel_rfl) hs hn (show DR w B (.set (s :: r)) v from hd)
    exact ⟨some b, rfl, fun b' hb' => by cases hb'; exact hb, .inr ⟨b, rfl, ho⟩⟩
theorem src_one {w : World} {B : Nat → Prop} {nm : Bs} {v : Value} (hs : nm.length ≤ maxLen) (hd : DR w B (.map [.str nm] [.bool true]) v) : ∃ ps, v = .map ps ∧ (∀ b, ps = some b → B b) ∧ SrcS w ps 1 (fun s => [nm].contains s) := by
  cases hd with
  | map _ _ b clock es hb hw hk hv hst h1 h2 =>
    have hz : es.size = 1 := hk
    have e0 := Array.getElem?_eq_getElem (xs := es) (i := 0) (by omega)
    have k1 := (h1 0 (by simp) _ e0).str_eq
    have k2 := (h2 0 (by simp) _ e0).bool_eq
    have hset : DR w B (.set [nm]) (.map (some b)) := by
      have hmem : ∀ e ∈ es.toList, e = es[0] := fun e he => by
        obtain ⟨i, hi, rfl⟩ := List.mem_iff_getElem.1 he
        simp only [Array.length_toList] at hi
        have : i = 0 := by omega
        subst this
        simp
      refine .set _ b clock es hb hw hst ⟨?_, by simp [hz], fun e he => ?_, fun s hs => ?_⟩
      · have hl : (es.toList.map (·.key)).length = 1 := by simp [hz]
        obtain ⟨x, hx⟩ := List.length_eq_one_iff.1 hl
        rw [hx]
        simp
      · rw [hmem e he]
        exact ⟨nm, by simp, k1, k2⟩
      · simp only [List.mem_singleton] at hs
        subst hs
        exact ⟨es[0], by simp, k1⟩
    obtain ⟨b', h3, hb3, ho⟩ := owns_of (kt := 9) (P := Tryd.prog) (by kernel_rfl) (ss := [nm]) (fun s hs2 => by simp only [List.mem_singleton] at hs2; rw [hs2]; exact hs) (by simp [maxLen]) hset
    cases h3
    exact ⟨some b, rfl, fun b' hb' => by cases hb'; exact hb, .inr ⟨b, rfl, ho⟩⟩
theorem heap_new (w : World) (o : Go.Obj) : (w.alloc o).heap[w.heap.size]? = some o := by
  show (w.heap.push o)[w.heap.size]? = some o
  simp
theorem resultsW {W' : World} {tmps : Array Value} {b : Nat} {k : Int} {t : Bs} {v : Value} (hp : tmps.getD 4 undef = .pointer (some ⟨b, 0, none⟩)) (c0 : W'.cell? ⟨b, 0, none⟩ = some (.int .i64 k)) (c1 : W'.cell? ⟨b, 1, none⟩ = some (.string ⟨t.toArray⟩)) (c2 : W'.cell? ⟨b, 2, none⟩ = some v) :
    (results Tryd.f23 tmps).run Tryd.prog W' = .ok (.agg #[.int .i64 k, .string ⟨t.toArray⟩, v]) W' := by
  have h : Tryd.f23.results = #[.cell 4 56] := rfl
  have hp2 : tmps[4]?.getD undef = .pointer (some ⟨b, 0, none⟩) := by simpa using hp
  simp only [results, h]
  simp [Sem.run_bind, hp2, go_sem, c0, c1, c2]
theorem below_grown0 {A B : World} (h : Below A.heap.size A B) : A.grownBy B none := ⟨h.os, h.tape, h.output, h.size, fun k hk _ => h.block k hk⟩
structure WS (W w : World) (k : Int) (t : Bs) (pm : Option Nat) (n : Nat) (p : Bs → Bool) : Prop where
  own : OwnsS Tryd.prog 9 w (W.heap.size + 1 + 1) n p
  a : w.heap[W.heap.size]? = some (.cells #[.int .i64 k, .string ⟨t.toArray⟩, .map pm] 56 (0, 0))
  b : w.heap[W.heap.size + 1]? = some (.cells #[.int .i64 0, .string ⟨#[]⟩, .map none] 56 (0, 0))
  bel : Below W.heap.size W w
theorem OwnsS.lt {w : World} {b n : Nat} {p : Bs → Bool} (h : OwnsS Tryd.prog 9 w b n p) : b < w.heap.size := by
  obtain ⟨D, hD, _⟩ := h
  exact hD.lt
theorem WS.step {W w w' : World} {k : Int} {t : Bs} {pm : Option Nat} {n n' : Nat} {p p' : Bs → Bool} (h : WS W w k t pm n p) (ho : OwnsS Tryd.prog 9 w' (W.heap.size + 1 + 1) n' p') (hg : w.grownBy w' (some (W.heap.size + 1 + 1))) : WS W w' k t pm n' p' := by
  have hl := h.own.lt
  refine ⟨ho, ?_, ?_, h.bel.grown hg (by omega) (fun k hk => by cases hk; omega)⟩
  · rw [hg.block _ (by omega) (fun e => by have := Option.some.inj e; omega)]
    exact h.a
  · rw [hg.block _ (by omega) (fun e => by have := Option.some.inj e; omega)]
    exact h.b
theorem WS.call {W w : World} {k : Int} {t : Bs} {pm ps : Option Nat} {n m : Nat} {p q : Bs → Bool} (h : WS W w k t pm n p) (hs : SrcS W ps m q) (hl : ∀ b, ps = some b → b < W.heap.size) (hroom : n + m ≤ maxLen) :
    Calls Tryd.prog 41 #[.map (some (W.heap.size + 1 + 1)), .map ps] w fun e w' => e = .returned (.tuple #[]) ∧ WS W w' k t pm (n + m) (fun s => p s || q s) := by
  have hs' := hs.kept (below_grown0 h.bel) (by cases ps <;> simp)
  refine (copy_calls h.own hs' (fun e => by have := hl _ e; omega) hroom).mono ?_
  rintro e w' ⟨e1, e2, e3⟩
  exact ⟨e1, h.step e2 e3⟩
theorem WS.start (W : World) (k : Int) (t : Bs) (pm : Option Nat) : WS W (((W.alloc (.cells #[.int .i64 k, .string ⟨t.toArray⟩, .map pm] 56)).alloc (.cells #[.int .i64 0, .string ⟨#[]⟩, .map none] 56)).alloc (.map #[] 0)) k t pm 0 (fun _ => false) := by
  refine ⟨?_, ?_, ?_, (((Below.refl _ W).alloc (Nat.le_refl _) _).alloc (by rw [World.size_alloc]; omega) _).alloc (by rw [World.size_alloc, World.size_alloc]; omega) _⟩
  · have := World.ownsMap_made ((W.alloc (.cells #[.int .i64 k, .string ⟨t.toArray⟩, .map pm] 56)).alloc (.cells #[.int .i64 0, .string ⟨#[]⟩, .map none] 56)) Tryd.prog 9 trueR
    rw [World.size_alloc, World.size_alloc] at this
    exact ⟨_, this, fun s => rfl⟩
  · rw [Below.heap_alloc _ _ _ (by rw [World.size_alloc, World.size_alloc]; omega), Below.heap_alloc _ _ _ (by rw [World.size_alloc]; omega)]
    exact heap_new _ _
  · rw [Below.heap_alloc _ _ _ (by rw [World.size_alloc, World.size_alloc]; omega)]
    have := heap_new (W.alloc (.cells #[.int .i64 k, .string ⟨t.toArray⟩, .map pm] 56)) (.cells #[.int .i64 0, .string ⟨#[]⟩, .map none] 56)
    rw [World.size_alloc] at this
    exact this
structure WS2 (W A B : World) (k : Int) (t : Bs) : Prop where
  c0 : B.cell? ⟨W.heap.size + 1, 0, none⟩ = some (.int .i64 k)
  c1 : B.cell? ⟨W.heap.size + 1, 1, none⟩ = some (.string ⟨t.toArray⟩)
  c2 : B.cell? ⟨W.heap.size + 1, 2, none⟩ = some (.map (some (W.heap.size + 1 + 1)))
  bel : Below W.heap.size A B
  blk : B.heap[W.heap.size + 1 + 1]? = A.heap[W.heap.size + 1 + 1]?
  sz : B.heap.size = A.heap.size
theorem WS2.lt {W A B : World} {k : Int} {t : Bs} (h : WS2 W A B k t) (h2 : W.heap.size + 1 + 1 < A.heap.size) : W.heap.size + 1 + 1 < B.heap.size := by rw [h.sz]; exact h2
theorem WS2.own {W A B : World} {k : Int} {t : Bs} {n n' : Nat} {p : Bs → Bool} (h : WS2 W A B k t) (hn : n ≤ n') (ho : OwnsS Tryd.prog 9 A (W.heap.size + 1 + 1) n p) : OwnsS Tryd.prog 9 B (W.heap.size + 1 + 1) n' p := by
  obtain ⟨D, ⟨es, clock, hw, F, hz, hD⟩, hp⟩ := ho
  exact ⟨D, ⟨es, clock, h.blk.trans hw, F, by omega, hD⟩, hp⟩
theorem heap_set {w : World} {b i : Nat} {v : Value} {c : Array Value} {t : TypeId} {fr : Nat × Nat} (h : w.heap[b]? = some (.cells c t fr)) : (w.setCell ⟨b, i, none⟩ v).heap[b]? = some (.cells (c.setIfInBounds i v) t fr) := by
  simp [World.setCell, Array.getElem?_modify, h]
theorem with_calls {W : World} {k : Int} {t : Bs} {pm p1 p2 : Option Nat} {n0 n1 n2 cap : Nat} {q0 q1 q2 : Bs → Bool} {a : Addr} (h0 : SrcS W pm n0 q0) (h1 : SrcS W p1 n1 q1) (h2 : SrcS W p2 n2 q2)
    (l0 : ∀ b, pm = some b → b < W.heap.size) (l1 : ∀ b, p1 = some b → b < W.heap.size) (l2 : ∀ b, p2 = some b → b < W.heap.size) (c1 : W.cell? a = some (.map p1)) (c2 : W.cell? ⟨a.block, a.off + 1, none⟩ = some (.map p2)) (ha : a.block < W.heap.size) (hroom : n0 + n1 + n2 ≤ maxLen) :
    Calls Tryd.prog 23 #[.agg #[.int .i64 k, .string ⟨t.toArray⟩, .map pm], .slice (some a) 2 cap] W fun e W' => (∃ b, e = .returned (.agg #[.int .i64 k, .string ⟨t.toArray⟩, .map (some b)]) ∧ W.heap.size ≤ b ∧ b < W'.heap.size ∧ OwnsS Tryd.prog 9 W' b (n0 + n1 + n2) (fun s => (q0 s || q1 s) || q2 s)) ∧ Below W.heap.size W W' := by
  have hmm := @run_makeMap Tryd.prog
  have hst := WS.start W k t pm
  have a0 := h0
  go_enter Tryd.func23, Tryd.ntmps23
  go_wp2_with fail
  generalize hW3 : (((W.alloc (.cells #[.int .i64 k, .string ⟨t.toArray⟩, .map pm] 56)).alloc (.cells #[.int .i64 0, .string ⟨#[]⟩, .map none] 56)).alloc (.map #[] 0)) = W3 at *
  clear hW3
  refine (hst.call h0 l0 (by omega)).mono ?_
  rintro e W4 ⟨rfl, hs4⟩
  clear hst W3
  have k1 := (hs4.bel.cell (p := a) ha).trans c1
  have k2 := (hs4.bel.cell (p := ⟨a.block, a.off + 1, none⟩) ha).trans c2
  go_wp2_with fail
  refine wp_loop_rounds 3 ?_
  rw [rounds_succ]
  go_wp2_with fail
  refine (hs4.call h1 l1 (by omega)).mono ?_
  rintro e W5 ⟨rfl, hs5⟩
  clear hs4 k1 k2 W4
  have k2 := (hs5.bel.cell (p := ⟨a.block, a.off + 1, none⟩) ha).trans c2
  go_wp2_with fail
  rw [rounds_succ]
  go_wp2_with fail
  refine (hs5.call h2 l2 (by omega)).mono ?_
  rintro e W6 ⟨rfl, hs6⟩
  clear hs5 k2 W5
  obtain ⟨ho, ha6, hb6, hbel⟩ := hs6
  have d0 : W6.cell? ⟨W.heap.size, 0, none⟩ = some (.int .i64 k) := by simp [World.cell?, ha6]
  have d1 : W6.cell? ⟨W.heap.size, 1, none⟩ = some (.string ⟨t.toArray⟩) := by simp [World.cell?, ha6]
  have d2 : W6.cell? ⟨W.heap.size, 2, none⟩ = some (.map pm) := by simp [World.cell?, ha6]
  have d3 : W6.frozen? ⟨W.heap.size, 2, none⟩ = false := by simp [World.frozen?, ha6]
  have e0 : W6.cell? ⟨W.heap.size + 1, 0, none⟩ = some (.int .i64 0) := by simp [World.cell?, hb6]
  have e1 : W6.cell? ⟨W.heap.size + 1, 1, none⟩ = some (.string ⟨#[]⟩) := by simp [World.cell?, hb6]
  have e2 : W6.cell? ⟨W.heap.size + 1, 2, none⟩ = some (.map none) := by simp [World.cell?, hb6]
  have g0 : W6.frozen? ⟨W.heap.size + 1, 0, none⟩ = false := by simp [World.frozen?, hb6]
  have g1 : W6.frozen? ⟨W.heap.size + 1, 1, none⟩ = false := by simp [World.frozen?, hb6]
  have g2 : W6.frozen? ⟨W.heap.size + 1, 2, none⟩ = false := by simp [World.frozen?, hb6]
  go_wp2_with fail
  rw [rounds_succ]
  go_wp2_with fail
  generalize hW7 : ((((W6.setCell ⟨W.heap.size, 2, none⟩ (.map (some (W.heap.size + 1 + 1)))).setCell ⟨W.heap.size + 1, 0, none⟩ (.int .i64 k)).setCell ⟨W.heap.size + 1, 1, none⟩ (.string ⟨t.toArray⟩)).setCell ⟨W.heap.size + 1, 2, none⟩ (.map (some (W.heap.size + 1 + 1)))) = W7
  have hK : WS2 W W6 W7 k t := by
    subst hW7
    have b1 : (W6.setCell ⟨W.heap.size, 2, none⟩ (.map (some (W.heap.size + 1 + 1)))).heap[W.heap.size + 1]? = some (.cells #[.int .i64 0, .string ⟨#[]⟩, .map none] 56 (0, 0)) := by
      rw [Below.heap_setCell _ _ _ _ (by simp)]
      exact hb6
    have b2 := heap_set (i := 2) (v := .map (some (W.heap.size + 1 + 1))) (heap_set (i := 1) (v := .string ⟨t.toArray⟩) (heap_set (i := 0) (v := .int .i64 k) b1))
    refine ⟨by unfold World.cell?; rw [b2]; rfl, by unfold World.cell?; rw [b2]; rfl, by unfold World.cell?; rw [b2]; rfl, ?_, ?_, ?_⟩
    · exact ((((Below.refl _ W6).setCell (p := ⟨W.heap.size, 2, none⟩) (Nat.le_refl _) _).setCell (p := ⟨W.heap.size + 1, 0, none⟩) (Nat.le_succ _) _).setCell (p := ⟨W.heap.size + 1, 1, none⟩) (Nat.le_succ _) _).setCell (p := ⟨W.heap.size + 1, 2, none⟩) (Nat.le_succ _) _
    · rw [Below.heap_setCell _ _ _ _ (by simp), Below.heap_setCell _ _ _ _ (by simp), Below.heap_setCell _ _ _ _ (by simp), Below.heap_setCell _ _ _ _ (by dsimp only; omega)]
    · simp [World.setCell]
  refine bodyPost_ret (resultsW rfl hK.c0 hK.c1 hK.c2) rfl ?_
  exact ⟨⟨_, rfl, by omega, hK.lt (ho.lt), hK.own (by omega) ho⟩, hbel.trans hK.bel⟩
noncomputable def g_with : List D → Option D := encSpec (fun x : (Int × Bs) × List Bs × Bs × List Bs => [.agg [.int .i64 x.1.1, .str x.1.2, hidD x.2.1], .list [.map [.str x.2.2.1] [.bool true], hidD x.2.2.2]])
  (fun x => (∀ s ∈ x.2.1, s.length ≤ 1099511627776) ∧ x.2.1.length ≤ 1099511627776 ∧ x.2.2.1.length ≤ 1099511627776 ∧ (∀ s ∈ x.2.2.2, s.length ≤ 1099511627776) ∧ x.2.2.2.length ≤ 1099511627776) (fun x => .agg [.int .i64 x.1.1, .str x.1.2, .set (bothB (bothB [x.2.2.1] x.2.2.2) x.2.1)])
theorem hid_inj : ∀ (a b : List Bs), hidD a = hidD b → a = b
  | [], [], _ => rfl
  | [], _ :: _, h => by cases h
  | _ :: _, [], h => by cases h
  | s :: r, t :: q, h => by
    simp only [hidD, D.set.injEq] at h
    exact h
theorem g_with_eq {k : Int} {t : Bs} {hw h : List Bs} {nm : Bs} (d1 : ∀ s ∈ hw, s.length ≤ 1099511627776) (d2 : hw.length ≤ 1099511627776) (d3 : nm.length ≤ 1099511627776) (d4 : ∀ s ∈ h, s.length ≤ 1099511627776) (d5 : h.length ≤ 1099511627776) :
    g_with [.agg [.int .i64 k, .str t, hidD hw], .list [.map [.str nm] [.bool true], hidD h]] = some (.agg [.int .i64 k, .str t, .set (bothB (bothB [nm] h) hw)]) := encSpec_eq (x := ((k, t), hw, nm, h)) ⟨d1, d2, d3, d4, d5⟩ fun y hy => by
  obtain ⟨⟨y1, y2⟩, y3, y4, y5⟩ := y
  simp only [List.cons.injEq, and_true, D.agg.injEq, D.int.injEq, D.str.injEq, D.list.injEq, D.map.injEq, true_and] at hy
  obtain ⟨⟨rfl, rfl, h1⟩, rfl, h2⟩ := hy
  rw [hid_inj _ _ h1, hid_inj _ _ h2]
theorem both_mem : ∀ (b a : List Bs) (s : Bs), s ∈ bothB a b ↔ s ∈ a ∨ s ∈ b
  | [], a, s => by simp [bothB]
  | x :: b, a, s => by
    unfold bothB
    rw [List.foldl_cons]
    by_cases hx : a.contains x = true
    · rw [if_pos hx]
      have := both_mem b a s
      unfold bothB at this
      rw [this, List.mem_cons]
      constructor
      · rintro (k | k)
        · exact .inl k
        · exact .inr (.inr k)
      · rintro (k | rfl | k)
        · exact .inl k
        · exact .inl (by simpa using hx)
        · exact .inr k
    · rw [if_neg hx]
      have := both_mem b (a ++ [x]) s
      unfold bothB at this
      rw [this, List.mem_append, List.mem_singleton, List.mem_cons, or_assoc]
theorem f_with_ok : PureOK Tryd.prog 23 false g_with := by
  intro ds d hd
  obtain ⟨⟨⟨k, t⟩, hw, nm, h⟩, rfl, ⟨d1, d2, d3, d4, d5⟩, rfl⟩ := encSpec_some hd
  refine ⟨fun h => (by cases h), fun w B vs hB hz hvs => ⟨⟨Tryd.f23, Tryd.func23, by kernel_rfl, by kernel_rfl⟩, ?_⟩⟩
  have hz2 : vs.size = 2 := hz
  have z0 : 0 < vs.size := by omega
  have z1 : 1 < vs.size := by omega
  have hv0 := hvs 0 (by simp) (vs[0]'z0) (Array.getElem?_eq_getElem z0)
  have hv1 := hvs 1 (by simp) (vs[1]'z1) (Array.getElem?_eq_getElem z1)
  have e : vs = #[vs[0]'z0, vs[1]'z1] := Array.ext hz2 fun i i1 i2 => by
    match i, i2 with
    | 0, _ => rfl
    | 1, _ => rfl
  rw [e]
  generalize vs[0]'z0 = v0 at hv0
  generalize vs[1]'z1 = v1 at hv1
  clear e hvs hz hz2 z0 z1
  dsimp only [List.getElem_cons_zero, List.getElem_cons_succ] at hv0 hv1 d1 d2 d3 d4 d5
  obtain ⟨us, u, rfl, hus, _, hu, hr⟩ := hv0.agg_inv
  have hus3 : us.size = 3 := hus
  have r0 := (hr 0 (by simp)).int_eq
  have r1 := (hr 1 (by simp)).str_eq
  obtain ⟨pm, r2, l0, h0⟩ := src_hid (fun s hs => Nat.le_trans (d1 s hs) (by decide)) (Nat.le_trans d2 (by decide)) (hr 2 (by simp))
  have eu : us = #[u 0, u 1, u 2] := by
    apply Array.ext_getElem?
    intro i
    match i with
    | 0 => rw [hu 0 (by simp)]; rfl
    | 1 => rw [hu 1 (by simp)]; rfl
    | 2 => rw [hu 2 (by simp)]; rfl
    | i + 3 => rw [Array.getElem?_eq_none (by omega), Array.getElem?_eq_none (by simp)]
  rw [eu, r0, r1, r2]
  cases (show DR w B (.list [.map [.str nm] [.bool true], hidD h]) v1 from hv1) with
  | list _ a cap sz x hb hc hs ho hm hx =>
    have hfl : flat [.map [.str nm] [.bool true], hidD h] = [.map [.str nm] [.bool true], hidD h] := by cases h <;> rfl
    rw [hfl] at hm hx
    obtain ⟨p1, x0, l1, h1⟩ := src_one (Nat.le_trans d3 (by decide)) (hx 0 (by simp))
    obtain ⟨p2, x1, l2, h2⟩ := src_hid (fun s hs => Nat.le_trans (d4 s hs) (by decide)) (Nat.le_trans d5 (by decide)) (hx 1 (by simp))
    have m0 := hm 0 (by simp)
    have m1 := hm 1 (by simp)
    rw [x0] at m0
    rw [x1] at m1
    refine (with_calls (k := k) (t := t) (cap := cap) h0 h1 h2 (fun b hb2 => hB b (l0 b hb2)) (fun b hb2 => hB b (l1 b hb2)) (fun b hb2 => hB b (l2 b hb2)) m0 m1 (hB _ hb) (by unfold maxLen; omega)).mono ?_
    rintro e w' ⟨⟨b, rfl, k1, k2, k3⟩, k4⟩
    refine ⟨_, rfl, .agg _ _ (fun i => (#[Value.int .i64 k, .string ⟨t.toArray⟩, .map (some b)] : Array Value).getD i undef) rfl (by simp [D.one]) (fun i hi => ?_) (fun i hi => ?_), k4⟩
    · match i, hi with
      | 0, _ => rfl
      | 1, _ => rfl
      | 2, _ => rfl
    · match i, hi with
      | 0, _ => exact .int _ _
      | 1, _ => exact .str _
      | 2, _ =>
        refine k3.reads (by kernel_rfl) (fun s => ?_) (.inr ⟨k1, k2⟩)
        rw [both_mem, both_mem]
        simp only [Bool.or_eq_true, List.contains_iff_mem]
        constructor
        · rintro ((q | q) | q)
          · exact .inr q
          · exact .inl (.inl q)
          · exact .inl (.inr q)
        · rintro ((q | q) | q)
          · exact .inl (.inr q)
          · exact .inr q
          · exact .inl (.inl q)
end Go.Ab
namespace Go.Ab
open Go Go.RowKit Go.Proofs
set_option maxRecDepth 4000
abbrev Wd := Tk × List Bs
def eWd (w : Wd) : D := .agg [i64 w.1.1, .str w.1.2, hidD w.2]
def eWr (w : Wd) : D := .agg [i64 w.1.1, .str w.1.2, .list (w.2.map .str)]
def isSy (w : Wd) (s : Bs) : Bool := w.1.1 == 3 && w.1.2 == s
def meantB (us : List Mc) (w : Wd) : Option Mc := if w.1.1 != 1 || w.2.contains w.1.2 then none else us.find? (fun m => m.name == w.1.2)
def findG (us : List Mc) : List Wd → Option (Nat × Mc)
  | [] => none
  | w :: r => match meantB us w with
    | some m => some (0, m)
    | none => (findG us r).map fun p => (p.1 + 1, p.2)
def argsGo : Nat → List Wd → List (List Wd) → List Wd → Option (List (List Wd) × List Wd)
  | _, _, _, [] => none
  | d, one, out, w :: r => if d == 0 && (isSy w [41] || isSy w [44])
    then (if one.isEmpty then none else if isSy w [41] then some (out ++ [one], r) else argsGo 0 [] (out ++ [one]) r)
    else argsGo (if isSy w [40] then d + 1 else if isSy w [41] then d - 1 else d) (one ++ [w]) out r
def argsG : List Wd → Option (List (List Wd) × List Wd)
  | [] => none
  | w :: r => if isSy w [40] then argsGo 0 [] [] r else none
def argsE (m : Mc) (rest : List Wd) : (List (List Wd) × List Wd) × Int :=
  if m.params.isEmpty then (([], rest), 0) else match argsG rest with
    | none => (([], []), 4)
    | some (a, r) => if a.length == m.params.length then ((a, r), 0) else (([], []), 9)
def atG (m : Mc) (t : Tk) : Option Nat := if t.1 == 1 then m.params.findIdx? (fun p => p == t.2) else none
def substG (m : Mc) (args : List (List Wd)) (hid : List Bs) (t : Tk) : List Wd := match atG m t with
  | none => [(t, hid)]
  | some k => (args.getD k []).map fun a => (a.1, bothB hid a.2)
def nowG (m : Mc) (l : List Wd) (i : Nat) (args : List (List Wd)) (rest : List Wd) (body : List Tk) : List Wd :=
  l.take i ++ (body.flatMap (substG m args (bothB [m.name] (l.getD i ((0, []), [])).2)) ++ rest)
def replG (fs : List Fl) (m : Mc) (l : List Wd) (i : Nat) : List Wd × Int :=
  if (argsE m (l.drop (i + 1))).2 == 0 then
    (if (bodyB fs m.body).2 == 0 then
      (if decide (((nowG m l i (argsE m (l.drop (i + 1))).1.1 (argsE m (l.drop (i + 1))).1.2 (bodyB fs m.body).1).length : Int) > 256) then ([], 10)
       else (nowG m l i (argsE m (l.drop (i + 1))).1.1 (argsE m (l.drop (i + 1))).1.2 (bodyB fs m.body).1, 0))
     else ([], (bodyB fs m.body).2))
  else ([], (argsE m (l.drop (i + 1))).2)
def loopG (fs : List Fl) (us : List Mc) : Nat → List Wd → List Sp → (List Wd × List Sp) × Int
  | k, l, rd => match findG us l with
    | none => ((l, rd), 0)
    | some (i, m) => match k with
      | 0 => (([], []), 10)
      | k + 1 => if (replG fs m l i).2 == 0 then loopG fs us k (replG fs m l i).1 (rd ++ [m.body]) else (([], []), (replG fs m l i).2)
def lineG (fs : List Fl) (us : List Mc) (l : List Tk) : (List Tk × List Sp) × Int :=
  if (printE l).2 == 0 then (((loopG fs us 256 (l.map fun t => (t, [])) []).1.1.map (·.1), setG (loopG fs us 256 (l.map fun t => (t, [])) []).1.2), (loopG fs us 256 (l.map fun t => (t, [])) []).2)
  else (([], []), (printE l).2)
theorem loopG_eq (fs : List Fl) (us : List Mc) (k : Nat) (l : List Wd) (rd : List Sp) : loopG fs us k l rd = match findG us l with
    | none => ((l, rd), 0)
    | some (i, m) => match k with
      | 0 => (([], []), 10)
      | k + 1 => if (replG fs m l i).2 == 0 then loopG fs us k (replG fs m l i).1 (rd ++ [m.body]) else (([], []), (replG fs m l i).2) := by
  rw [loopG.eq_def]
theorem findG_none {us : List Mc} {l : List Wd} : findG us l = none ↔ ∀ w ∈ l, meantB us w = none := by
  induction l with
  | nil => simp [findG]
  | cons w r ih =>
    rw [findG]
    cases h : meantB us w with
    | none => simp [h, ih]
    | some m => simp [h]
theorem findG_at {us : List Mc} : ∀ {l : List Wd} {i : Nat} {m : Mc} (hi : i < l.length), (∀ w ∈ l.take i, meantB us w = none) → meantB us l[i] = some m → findG us l = some (i, m)
  | w :: r, 0, m, _, _, h => by
    rw [findG, show meantB us w = some m from h]
  | w :: r, i + 1, m, hi, hp, h => by
    rw [findG, hp w (by simp)]
    have := findG_at (l := r) (i := i) (m := m) (by simpa using hi) (fun x hx => hp x (by simp [hx])) h
    simp only [this, Option.map_some]
theorem findG_some {us : List Mc} : ∀ {l : List Wd} {i : Nat} {m : Mc}, findG us l = some (i, m) → ∃ h : i < l.length, meantB us l[i] = some m ∧ ∀ w ∈ l.take i, meantB us w = none
  | [], _, _, h => by cases h
  | w :: r, i, m, h => by
    rw [findG] at h
    cases hm : meantB us w with
    | some m' =>
      rw [hm] at h
      simp only [Option.some.injEq, Prod.mk.injEq] at h
      obtain ⟨rfl, rfl⟩ := h
      exact ⟨by simp, hm, by simp⟩
    | none =>
      rw [hm] at h
      simp only [Option.map_eq_some_iff] at h
      obtain ⟨⟨j, m'⟩, h1, h2⟩ := h
      simp only [Prod.mk.injEq] at h2
      obtain ⟨rfl, rfl⟩ := h2
      obtain ⟨k1, k2, k3⟩ := findG_some h1
      exact ⟨by simp; omega, k2, fun x hx => by
        rw [List.take_succ_cons, List.mem_cons] at hx
        rcases hx with rfl | hx
        · exact hm
        · exact k3 x hx⟩
structure HidOK (us : List Mc) (h : List Bs) : Prop where
  nd : h.Nodup
  mem : ∀ s ∈ h, s ∈ us.map (·.name)
theorem both_ok : ∀ (b a : List Bs), a.Nodup → (bothB a b).Nodup ∧ ∀ s, s ∈ bothB a b ↔ s ∈ a ∨ s ∈ b
  | [], a, h => ⟨h, fun s => by simp [bothB]⟩
  | x :: b, a, h => by
    unfold bothB
    rw [List.foldl_cons]
    by_cases hx : a.contains x = true
    · rw [if_pos hx]
      obtain ⟨i1, i2⟩ := both_ok b a h
      refine ⟨i1, fun s => ?_⟩
      have := i2 s
      unfold bothB at this
      rw [this, List.mem_cons]
      constructor
      · rintro (k | k)
        · exact .inl k
        · exact .inr (.inr k)
      · rintro (k | rfl | k)
        · exact .inl k
        · exact .inl (by simpa using hx)
        · exact .inr k
    · rw [if_neg hx]
      have hx2 : x ∉ a := by simpa using hx
      obtain ⟨i1, i2⟩ := both_ok b (a ++ [x]) (List.nodup_append.2 ⟨h, by simp, by
        intro y hy z hz e
        simp only [List.mem_singleton] at hz
        subst hz e
        exact hx2 hy⟩)
      refine ⟨i1, fun s => ?_⟩
      have := i2 s
      unfold bothB at this
      rw [this, List.mem_append, List.mem_singleton, List.mem_cons, or_assoc]
theorem HidOK.both {us : List Mc} {a b : List Bs} (ha : HidOK us a) (hb : HidOK us b) : HidOK us (bothB a b) := by
  obtain ⟨h1, h2⟩ := both_ok b a ha.nd
  exact ⟨h1, fun s hs => ((h2 s).1 hs).elim (ha.mem s) (hb.mem s)⟩
theorem HidOK.one {us : List Mc} {m : Mc} (h : m ∈ us) : HidOK us [m.name] := ⟨by simp, fun s hs => by
  simp only [List.mem_singleton] at hs
  rw [hs]
  exact List.mem_map.2 ⟨m, h, rfl⟩⟩
theorem HidOK.len {us : List Mc} {h : List Bs} (hh : HidOK us h) : h.length ≤ us.length := by
  have := nd_len h (us.map (·.name)) hh.nd hh.mem
  rwa [List.length_map] at this
end Go.Ab
namespace Go.Ab
open Go Go.RowKit Go.Proofs
set_option maxRecDepth 10000
set_option maxHeartbeats 16000000
def eU (us : List Mc) : D := .agg [.str [], .list [], .list (us.map eMc), .list [], .list [], .list []]
@[go_sem] theorem eU_eq (us : List Mc) : eU us = .agg [.str [], .list [], .list (us.map eMc), .list [], .list [], .list []] := rfl
theorem eU_e (a b : List Mc) : (eU a = eU b) = (a = b) := propext ⟨fun h => by
  simp only [eU, D.agg.injEq, List.cons.injEq, D.list.injEq, and_true, true_and] at h
  exact (map_ie eMc_inj _ _).mp h, fun h => by rw [h]⟩
theorem eq_sp (a c e g : Int) (s t : Bs) : eqAgg Tryd.prog 33 [.str s, .int .i64 a, .int .i64 c] [.str t, .int .i64 e, .int .i64 g] = some ((s == t) && ((a == e) && (c == g))) := by
  have hu : Program.underlying Tryd.prog 33 = some (.struct #[⟨"Path", 9, 0, false, "", "", 0⟩, ⟨"From", 3, 1, false, "", "", 16⟩, ⟨"To", 3, 2, false, "", "", 24⟩]) := by kernel_rfl
  have hg : (Tryd.prog.stoodInHeld 33 || Tryd.prog.eqGuardType Tryd.prog.depth 33) = false := by kernel_rfl
  unfold eqAgg
  rw [hu]
  simp only [hg, Bool.false_eq_true, if_false]
  simp [eqFlds, keyKind, keyEq, ty_und3, ty_agg3, ty_und9, ty_agg9]
end Go.Ab
