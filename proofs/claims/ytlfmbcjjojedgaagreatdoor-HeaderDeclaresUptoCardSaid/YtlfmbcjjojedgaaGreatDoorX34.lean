/-
  One text of the proof (own work): contracts of functions of the program, by the abstract machine.
-/
import Derived.Test.YtlfmbcjjojedgaaGreatDoorX33
import Derived.Test.YtlfmbcjjojedgaaGreatDoorX27
import Derived.Test.YtlfmbcjjojedgaaGreatDoorX19
import Derived.Test.YtlfmbcjjojedgaaGreatDoorX23
set_option linter.unusedVariables false
set_option linter.unusedSimpArgs false
namespace Go.Ab
open Go Go.RowKit Go.Proofs
set_option maxRecDepth 10000
set_option maxHeartbeats 4000000
inductive Tk where
  | w (b : List UInt8)
  | p (c : UInt8)
def pun (c : UInt8) : Prop := c = 40 ∨ c = 41 ∨ c = 43
inductive Lay : List Tk → List UInt8 → Prop where
  | nil : Lay [] []
  | bl {l : List Tk} {t : List UInt8} (h : Lay l t) : Lay l (32 :: t)
  | p {c : UInt8} {l : List Tk} {t : List UInt8} (hc : pun c) (h : Lay l t) : Lay (.p c :: l) (c :: t)
  | w {b : List UInt8} {l : List Tk} {t : List UInt8} (hb : b ≠ []) (ha : b.all letter = true) (ht : ∀ x r, t = x :: r → letter x = false) (h : Lay l t) : Lay (.w b :: l) (b ++ t)
theorem letter_bl {x : UInt8} (h : letter x = true) : isBl x = false := by
  cases hx : isBl x with
  | false => rfl
  | true =>
    have e : x = 32 := by
      apply UInt8.toNat_inj.1
      have : (x.toNat : Int) = 32 := eq_of_beq hx
      show x.toNat = 32
      omega
    subst e
    exact absurd h (by decide)
theorem pun_bl {c : UInt8} (h : pun c) : isBl c = false ∧ letter c = false := by
  rcases h with rfl | rfl | rfl <;> decide
theorem lay_nil {L : List Tk} {t : List UInt8} (h : Lay L t) : L = [] → t.dropWhile isBl = [] := by
  induction h with
  | nil => intro _; rfl
  | bl h ih => intro e; rw [List.dropWhile_cons, if_pos (by decide)]; exact ih e
  | p hc h ih => intro e; cases e
  | w hb ha ht h ih => intro e; cases e
theorem lay_p {L : List Tk} {t : List UInt8} (h : Lay L t) {c : UInt8} {l : List Tk} : L = .p c :: l → pun c ∧ ∃ t', t.dropWhile isBl = c :: t' ∧ Lay l t' := by
  induction h with
  | nil => intro e; cases e
  | bl h ih => intro e; rw [List.dropWhile_cons, if_pos (by decide)]; exact ih e
  | @p c' l' t' hc h ih =>
    intro e
    cases e
    exact ⟨hc, t', by rw [List.dropWhile_cons, if_neg (by rw [(pun_bl hc).1]; decide)], h⟩
  | w hb ha ht h ih => intro e; cases e
theorem lay_w {L : List Tk} {t : List UInt8} (h : Lay L t) {b : List UInt8} {l : List Tk} : L = .w b :: l → (b ≠ [] ∧ b.all letter = true) ∧ ∃ t', t.dropWhile isBl = b ++ t' ∧ (∀ x r, t' = x :: r → letter x = false) ∧ Lay l t' := by
  induction h with
  | nil => intro e; cases e
  | bl h ih => intro e; rw [List.dropWhile_cons, if_pos (by decide)]; exact ih e
  | p hc h ih => intro e; cases e
  | @w b' l' t' hb ha ht h ih =>
    intro e
    cases e
    refine ⟨⟨hb, ha⟩, t', ?_, ht, h⟩
    cases b with
    | nil => exact absurd rfl hb
    | cons x r =>
      rw [List.all_cons, Bool.and_eq_true] at ha
      rw [List.cons_append, List.dropWhile_cons, if_neg (by rw [letter_bl ha.1]; decide)]
def At (s : List UInt8) (a : Nat) (l : List Tk) : Prop := a ≤ s.length ∧ Lay l (s.drop a)
def headW : List Tk → List UInt8
  | .w b :: _ => b
  | _ => []
def isP (l : List Tk) (c : UInt8) : Bool := match l with
  | .p c' :: _ => c' == c
  | _ => false
theorem drop_tw {α : Type} (p : α → Bool) (l : List α) : l.drop (l.takeWhile p).length = l.dropWhile p := by
  conv => lhs; arg 2; rw [← List.takeWhile_append_dropWhile (p := p) (l := l)]
  rw [List.drop_left]
theorem drop_skip (s : List UInt8) (a : Nat) : s.drop (skipN s a) = (s.drop a).dropWhile isBl := by
  show s.drop (a + _) = _
  rw [← List.drop_drop, drop_tw]
theorem skip_le {s : List UInt8} {a : Nat} (h : a ≤ s.length) : a ≤ skipN s a ∧ skipN s a ≤ s.length := runN_le h
theorem lay_dw {l : List Tk} {t : List UInt8} (h : Lay l t) : Lay l (t.dropWhile isBl) := by
  induction h with
  | nil => exact .nil
  | bl h ih => rw [List.dropWhile_cons, if_pos (by decide)]; exact ih
  | p hc h ih => rw [List.dropWhile_cons, if_neg (by rw [(pun_bl hc).1]; decide)]; exact .p hc h
  | @w b l t hb ha ht h ih =>
    cases b with
    | nil => exact absurd rfl hb
    | cons x r =>
      have ha' := ha
      rw [List.all_cons, Bool.and_eq_true] at ha
      rw [List.cons_append, List.dropWhile_cons, if_neg (by rw [letter_bl ha.1]; decide)]
      exact .w (b := x :: r) hb ha' ht h
theorem skip_idem (s : List UInt8) (a : Nat) : skipN s (skipN s a) = skipN s a := by
  show skipN s a + ((s.drop (skipN s a)).takeWhile isBl).length = skipN s a
  rw [drop_skip]
  have : ∀ l : List UInt8, (l.dropWhile isBl).takeWhile isBl = [] := by
    intro l
    induction l with
    | nil => rfl
    | cons x r ih =>
      rw [List.dropWhile_cons]
      split
      · exact ih
      · rename_i h
        rw [List.takeWhile_cons, if_neg h]
  rw [this]
  rfl
theorem at_skip {s : List UInt8} {a : Nat} {l : List Tk} (h : At s a l) : At s (skipN s a) l := ⟨(skip_le h.1).2, by rw [drop_skip]; exact lay_dw h.2⟩
theorem tw_all {b t : List UInt8} (hb : b.all letter = true) (ht : ∀ x r, t = x :: r → letter x = false) : (b ++ t).takeWhile letter = b := by
  induction b with
  | nil =>
    cases t with
    | nil => rfl
    | cons x r => rw [List.nil_append, List.takeWhile_cons, if_neg (by rw [ht x r rfl]; decide)]
  | cons x b ih =>
    rw [List.all_cons, Bool.and_eq_true] at hb
    rw [List.cons_append, List.takeWhile_cons, if_pos hb.1, ih hb.2]
theorem at_word {s : List UInt8} {a : Nat} {l : List Tk} (h : At s a l) : wordN s (skipN s a) = headW l := by
  unfold wordN
  rw [drop_skip]
  cases l with
  | nil => rw [lay_nil h.2 rfl]; rfl
  | cons k l =>
    cases k with
    | p c =>
      obtain ⟨hc, t', h1, _⟩ := lay_p h.2 rfl
      rw [h1, List.takeWhile_cons, if_neg (by rw [(pun_bl hc).2]; decide)]
      rfl
    | w b =>
      obtain ⟨⟨_, hb⟩, t', h1, h2, _⟩ := lay_w h.2 rfl
      rw [h1, tw_all hb h2]
      rfl
theorem isAt_drop {s : List UInt8} {i : Nat} {c : UInt8} : isAtI s i (c.toNat : Int) = true ↔ ∃ r, s.drop i = c :: r := by
  rw [isAtI_iff]
  constructor
  · intro h
    obtain ⟨hi, rfl⟩ := List.getElem?_eq_some_iff.1 h
    exact ⟨_, List.drop_eq_getElem_cons hi⟩
  · rintro ⟨r, h⟩
    have := congrArg (fun l => l[0]?) h
    simpa using this
theorem at_pun {s : List UInt8} {a : Nat} {l : List Tk} (h : At s a l) {c : UInt8} (hc : pun c) : isAtI s (skipN s a) (c.toNat : Int) = isP l c := by
  rw [Bool.eq_iff_iff, isAt_drop, drop_skip]
  cases l with
  | nil => rw [lay_nil h.2 rfl]; constructor <;> intro h' <;> first | (obtain ⟨r, h'⟩ := h'; cases h') | cases h'
  | cons k l =>
    cases k with
    | p c' =>
      obtain ⟨hc', t', h1, _⟩ := lay_p h.2 rfl
      rw [h1]
      show _ ↔ (c' == c) = true
      constructor
      · rintro ⟨r, h2⟩; cases h2; exact beq_self_eq_true _
      · intro h2; rw [eq_of_beq h2]; exact ⟨_, rfl⟩
    | w b =>
      obtain ⟨⟨hb0, hb⟩, t', h1, h2, _⟩ := lay_w h.2 rfl
      rw [h1]
      show _ ↔ false = true
      constructor
      · rintro ⟨r, h3⟩
        cases b with
        | nil => exact absurd rfl hb0
        | cons x b =>
          rw [List.all_cons, Bool.and_eq_true] at hb
          cases h3
          rw [(pun_bl hc).2] at hb
          exact hb.1
      · intro h3; cases h3
def Tk.len : Tk → Nat
  | .w b => b.length
  | .p _ => 1
theorem at_tail {s : List UInt8} {a : Nat} {k : Tk} {l : List Tk} (h : At s a (k :: l)) : At s (skipN s a + k.len) l := by
  have hle := (skip_le h.1).2
  have hlen := congrArg List.length (drop_skip s a)
  rw [List.length_drop] at hlen
  cases k with
  | p c =>
    obtain ⟨hc', t', h1, h2⟩ := lay_p h.2 rfl
    rw [h1] at hlen
    simp only [List.length_cons] at hlen
    refine ⟨by show skipN s a + 1 ≤ _; omega, ?_⟩
    rw [← List.drop_drop, drop_skip, h1]
    exact h2
  | w b =>
    obtain ⟨⟨hb0, hb⟩, t', h1, h3, h2⟩ := lay_w h.2 rfl
    rw [h1] at hlen
    simp only [List.length_append] at hlen
    refine ⟨by show skipN s a + b.length ≤ _; omega, ?_⟩
    rw [← List.drop_drop, drop_skip, h1]
    show Lay l ((b ++ t').drop b.length)
    rw [List.drop_left]
    exact h2
theorem at_end {s : List UInt8} {a : Nat} (h : At s a []) : skipN s a = s.length := by
  have hle := (skip_le h.1).2
  have hlen := congrArg List.length (drop_skip s a)
  rw [List.length_drop, lay_nil h.2 rfl] at hlen
  simp only [List.length_nil] at hlen
  omega
def wWith : List UInt8 := [119, 105, 116, 104]
def wAnd : List UInt8 := [97, 110, 100]
def wOr : List UInt8 := [111, 114]
def Fo0 (l : List Tk) : Prop := headW l ≠ wWith ∧ isP l 43 = false
def Fo1 (l : List Tk) : Prop := Fo0 l ∧ headW l ≠ wAnd
def Fo2 (l : List Tk) : Prop := Fo1 l ∧ headW l ≠ wOr
def Reads (fo : List Tk → Prop) (f : List UInt8 → Nat → Res) (x : LX) (l : List Tk) : Prop :=
  ∀ s a rest, At s a (l ++ rest) → fo rest → ∃ b, f s a = ⟨x, b, 0⟩ ∧ At s b rest
theorem name_at {s w : List UInt8} {a : Nat} {l : List Tk} (h : At s a (.w w :: l)) (hn : isNameB w = true) : rName s a = ⟨.mk 0 w [] [], skipN s a + w.length, 0⟩ :=
  rName_ok (at_word h) (lay_w h.2 rfl).1.1 hn
def par1 (l : List Tk) : List Tk := .p 40 :: (l ++ [.p 41])
theorem rd_paren {d : Nat} {x : LX} {l : List Tk} (h : Reads Fo2 (fun s => rOrs s (rAtom s d)) x l) : Reads Fo0 (fun s => rAtom s (d + 1)) x (par1 l) := by
  intro s a rest ha _
  have e : par1 l ++ rest = .p 40 :: (l ++ (.p 41 :: rest)) := by simp [par1]
  rw [e] at ha
  have h1 : isAtI s (skipN s a) 40 = true := at_pun ha (c := 40) (.inl rfl)
  obtain ⟨b, h2, h3⟩ := h s _ _ (at_tail ha) ⟨⟨⟨by simp [headW, wWith], rfl⟩, by simp [headW, wAnd]⟩, by simp [headW, wOr]⟩
  have h4 : isAtI s (skipN s b) 41 = true := at_pun h3 (c := 41) (.inr (.inl rfl))
  refine ⟨skipN s b + 1, ?_, at_tail h3⟩
  show rAtomF s (some (rOrs s (rAtom s d))) a = _
  unfold rAtomF
  dsimp only at h2 ⊢
  rw [show (skipN s a + Tk.len (.p 40)) = skipN s a + 1 from rfl] at h2
  rw [h2, if_pos h1]
  dsimp only
  rw [if_neg (by decide), if_pos h4]
theorem rd_leaf (d : Nat) {x : LX} (hf : formE x = 0) (hk : x.kind = 0 ∨ x.kind = 1) :
    Reads Fo0 (fun s => rAtom s d) x (if x.kind == 0 then (if !(x.exc == []) then [.w x.name, .w wWith, .w x.exc] else [.w x.name]) else [.w x.name, .p 43]) := by
  intro s a rest ha hfo
  rcases node_cases (formE_node hf) with ⟨_, hkids, hn, he⟩ | ⟨h, _⟩
  · have hx := x.eta
    show ∃ b, rAtom s d a = _ ∧ _
    have hr : ∃ i, rAtom s d a = rAtomF s i a := by cases d <;> exact ⟨_, rfl⟩
    obtain ⟨i, hr⟩ := hr
    rw [hr]
    unfold rAtomF
    rcases hk with hk | hk
    · rw [if_pos (by rw [hk]; rfl)] at ha
      by_cases hx0 : x.exc = []
      · rw [if_neg (by rw [hx0]; decide)] at ha
        have h1 : isAtI s (skipN s a) 40 = false := at_pun ha (c := 40) (.inl rfl)
        have h2 := name_at (at_skip ha) hn
        rw [skip_idem] at h2
        have h3 := at_tail ha
        change At s (skipN s a + x.name.length) rest at h3
        have h4 : isAtI s (skipN s (skipN s a + x.name.length)) 43 = false := (at_pun h3 (c := 43) (.inr (.inr rfl))).trans hfo.2
        have h5 := at_word h3
        refine ⟨skipN s a + x.name.length, ?_, h3⟩
        rw [if_neg (by rw [h1]; decide), h2]
        dsimp only
        rw [if_neg (by decide), if_neg (by rw [h4]; decide), if_neg (by rw [h5]; simpa [wWith] using hfo.1)]
        rw [← hx, hk, hx0, hkids]
        rfl
      · rw [if_pos (by simpa using hx0)] at ha
        have he2 : isNameB x.exc = true := by
          rcases he with he | he
          · exact absurd he hx0
          · exact he.2
        have h1 : isAtI s (skipN s a) 40 = false := at_pun ha (c := 40) (.inl rfl)
        have h2 := name_at (at_skip ha) hn
        rw [skip_idem] at h2
        have h3 := at_tail ha
        change At s (skipN s a + x.name.length) (.w wWith :: .w x.exc :: rest) at h3
        have h4 : isAtI s (skipN s (skipN s a + x.name.length)) 43 = false := at_pun h3 (c := 43) (.inr (.inr rfl))
        have h5 : wordN s (skipN s (skipN s a + x.name.length)) = [119, 105, 116, 104] := at_word h3
        have h6 := at_tail h3
        change At s (skipN s (skipN s a + x.name.length) + 4) (.w x.exc :: rest) at h6
        have h7 := name_at h6 he2
        have h8 := at_tail h6
        refine ⟨_, ?_, h8⟩
        rw [if_neg (by rw [h1]; decide), h2]
        dsimp only
        rw [if_neg (by decide), if_neg (by rw [h4]; decide), if_pos (by rw [h5]; rfl), h7]
        dsimp only
        rw [if_neg (by decide)]
        conv => rhs; rw [← hx, hk, hkids]
        rfl
    · rw [if_neg (by rw [hk]; decide)] at ha
      have hx0 : x.exc = [] := by
        rcases he with he | he
        · exact he
        · exact absurd (hk.symm.trans he.1) (by decide)
      have h1 : isAtI s (skipN s a) 40 = false := at_pun ha (c := 40) (.inl rfl)
      have h2 := name_at (at_skip ha) hn
      rw [skip_idem] at h2
      have h3 := at_tail ha
      change At s (skipN s a + x.name.length) (.p 43 :: rest) at h3
      have h4 : isAtI s (skipN s (skipN s a + x.name.length)) 43 = true := at_pun h3 (c := 43) (.inr (.inr rfl))
      have h6 := at_tail h3
      refine ⟨_, ?_, h6⟩
      rw [if_neg (by rw [h1]; decide), h2]
      dsimp only
      rw [if_neg (by decide), if_pos h4]
      conv => rhs; rw [← hx, hk, hx0, hkids]
      rfl
  · rcases h with h | h <;> rcases hk with hk | hk <;> exact absurd (h.symm.trans hk) (by decide)
def joinK (w : List UInt8) : List (List Tk) → List Tk
  | [] => []
  | [x] => x
  | x :: y :: r => x ++ .w w :: joinK w (y :: r)
def listX (kind : Int) : List LX → LX
  | [x] => x
  | l => .mk kind [] [] l
theorem rd_loop {f : List UInt8 → Nat → Res} {fo : List Tk → Prop} {kind : Int} {w : List UInt8} (hw : w ≠ []) (hg : ∀ s a, a ≤ s.length → GoodR s a (f s a)) (hfo : ∀ l, fo (.w w :: l)) (s : List UInt8) (rest : List Tk) (h1 : fo rest) (h2 : headW rest ≠ w) :
    ∀ (ps : List (LX × List Tk)), ps ≠ [] → (∀ p ∈ ps, Reads fo f p.1 p.2) → ∀ (n a : Nat) (acc : List LX), s.length < n + a → At s a (joinK w (ps.map (·.2)) ++ rest) →
      ∃ b, rLoop (f s) s kind w n a acc = ⟨listX kind (acc ++ ps.map (·.1)), b, 0⟩ ∧ At s b rest ∧ skipN s b = b
  | [], hne, _, _, _, _, _, _ => absurd rfl hne
  | [p], _, hp, 0, a, acc, hn, ha => by have := ha.1; omega
  | [p], _, hp, n + 1, a, acc, hn, ha => by
    obtain ⟨b, h3, h4⟩ := hp p (by simp) s a rest ha h1
    rw [rLoop, h3]
    dsimp only
    rw [if_neg (by decide), at_word h4, if_neg (by simpa using h2)]
    refine ⟨skipN s b, ?_, at_skip h4, skip_idem s b⟩
    cases acc with
    | nil => rfl
    | cons y r =>
      rw [if_neg (by simp)]
      cases r <;> rfl
  | p :: q :: r, _, hp, 0, a, acc, hn, ha => by have := ha.1; omega
  | p :: q :: r, _, hp, n + 1, a, acc, hn, ha => by
    have e : joinK w ((p :: q :: r).map (·.2)) ++ rest = p.2 ++ (.w w :: (joinK w ((q :: r).map (·.2)) ++ rest)) := by simp [joinK]
    rw [e] at ha
    obtain ⟨b, h3, h4⟩ := hp p (by simp) s a _ ha (hfo _)
    have hgd := hg s a ha.1
    rw [h3] at hgd
    have hlt := hgd.lt rfl
    dsimp only at hlt
    have h5 := at_tail h4
    have h6 := (skip_le h4.1).1
    obtain ⟨b', h7, h8⟩ := rd_loop hw hg hfo s rest h1 h2 (q :: r) (by simp) (fun z hz => hp z (by simp [hz])) n _ (acc ++ [p.1]) (by
      show s.length < n + (skipN s b + w.length)
      have : 1 ≤ w.length := List.length_pos_iff.2 hw
      have h6' : b ≤ skipN s b := h6
      omega) h5
    refine ⟨b', ?_, h8⟩
    rw [rLoop, h3]
    dsimp only
    rw [if_neg (by decide), at_word h4, if_pos (by show (w == w) = true; exact beq_self_eq_true _)]
    refine h7.trans ?_
    simp
theorem good_atom' (d : Nat) (s : List UInt8) (a : Nat) (h : a ≤ s.length) : GoodR s a (rAtom s d a) := good_atom d h
theorem good_ands' (d : Nat) (s : List UInt8) (a : Nat) (h : a ≤ s.length) : GoodR s a (rAnds s (rAtom s d) a) := good_ands (fun _ h => good_atom d h) h
def ReadsE (fo : List Tk → Prop) (f : List UInt8 → Nat → Res) (x : LX) (l : List Tk) : Prop :=
  ∀ s a rest, At s a (l ++ rest) → fo rest → ∃ b, f s a = ⟨x, b, 0⟩ ∧ At s b rest ∧ skipN s b = b
theorem ReadsE.r {fo : List Tk → Prop} {f : List UInt8 → Nat → Res} {x : LX} {l : List Tk} (h : ReadsE fo f x l) : Reads fo f x l := fun s a rest h1 h2 => by
  obtain ⟨b, h3, h4, _⟩ := h s a rest h1 h2
  exact ⟨b, h3, h4⟩
theorem rd_ands {d : Nat} (ps : List (LX × List Tk)) (hne : ps ≠ []) (hp : ∀ p ∈ ps, Reads Fo0 (fun s => rAtom s d) p.1 p.2) : ReadsE Fo1 (fun s => rAnds s (rAtom s d)) (listX 2 (ps.map (·.1))) (joinK wAnd (ps.map (·.2))) := by
  intro s a rest ha hfo
  exact rd_loop (f := fun s => rAtom s d) (by decide) (good_atom' d) (fun l => ⟨by simp [headW, wAnd, wWith], rfl⟩) s rest hfo.1 hfo.2 ps hne hp (s.length + 1) a [] (by omega) ha
theorem rd_ors {d : Nat} (ps : List (LX × List Tk)) (hne : ps ≠ []) (hp : ∀ p ∈ ps, Reads Fo1 (fun s => rAnds s (rAtom s d)) p.1 p.2) : ReadsE Fo2 (fun s => rOrs s (rAtom s d)) (listX 3 (ps.map (·.1))) (joinK wOr (ps.map (·.2))) := by
  intro s a rest ha hfo
  exact rd_loop (f := fun s => rAnds s (rAtom s d)) (by decide) (good_ands' d) (fun l => ⟨⟨by simp [headW, wOr, wWith], rfl⟩, by simp [headW, wOr, wAnd]⟩) s rest hfo.1 hfo.2 ps hne hp (s.length + 1) a [] (by omega) ha
end Go.Ab
namespace Go.Ab
open Go Go.RowKit Go.Proofs
set_option maxRecDepth 10000
set_option maxHeartbeats 8000000
end Go.Ab
namespace Go.Ab
open Go Go.RowKit Go.Proofs
set_option maxRecDepth 10000
set_option maxHeartbeats 8000000
noncomputable def g_textP (h : Nat) : List D → Option D := encSpec (fun x : LX => [eX x]) (fun x : LX => x.hgt ≤ h ∧ x.Bd 1099511627776 ∧ TxOK x) (fun x : LX => .str (textX x))
theorem g_textP_eq {h : Nat} {x : LX} (hd : x.hgt ≤ h ∧ x.Bd 1099511627776 ∧ TxOK x) : g_textP h [.agg [.int .i64 x.kind, .str x.name, .str x.exc, .list (x.kids.map eX)]] = some (.str (textX x)) := by
  have e : g_textP h [eX x] = some (.str (textX x)) := encSpec_eq (x := x) hd fun y hy => by
    simp only [List.cons.injEq, and_true, true_and, D.str.injEq, D.int.injEq, D.list.injEq, D.bool.injEq, D.agg.injEq, D.clo.injEq, Int.natCast_inj, inj_ie, lx_ie] at hy
    rw [hy]
  exact (congrArg (g_textP h) (by rw [← eX_eq x])).trans e
theorem f_textP_ok : ∀ h : Nat, PureOK Tryz.prog 67 true (g_textP h)
 | 0 => pure_void (by
    rintro x ⟨hx, _⟩
    (try dsimp only at hx)
    have := x.hgt_pos
    omega)
 | h + 1 => by
  have ih := f_textP_ok h
  have hΓ := Γp ih (Γp f_join_ok (Γn))
  refine pure_enc (n := 66) (rs := [.tmp 2]) Tryz.func67 (by kernel_rfl) rfl (by kernel_rfl) (by kernel_rfl) ?_
  rintro x hd
  (try dsimp only at hd ⊢)
  refine ⟨fun _ => by (repeat (first | exact .int _ _ | exact .bool _ | exact .str _ | (refine .tup _ (fun d hd => ?_); simp only [List.mem_cons, List.not_mem_nil, or_false] at hd; rcases hd with rfl | hd))), fun k hz0 => ?_⟩
  have hbd := hd.2.1
  have hn := hbd.n
  have hee := hbd.e
  have hz := hbd.z
  have hl := x.len_le
  have hkc := node_cases (formE_node hd.2.2.2)
  rw [textX_eq]
  rw [start_frame (by simp)]; simp only [enumV, go_sem, emptyH]
  rcases hkc with ⟨hk, h1, h2, h3⟩ | ⟨hk, h1, h2, h3⟩
  · have hl := isNameB_len h2
    rcases hk with hk | hk
    · rw [hk]
      have he : x.exc.length ≤ 32 := by
        rcases h3 with h3 | h3
        · rw [h3]; exact Nat.zero_le _
        · exact isNameB_len h3.2
      have hl2 : (x.name ++ [32, 119, 105, 116, 104, 32]).length ≤ 64 := by simp only [List.length_append, List.length_cons, List.length_nil]; omega
      generalize hc : (x.exc == []) = c
      cases c
      · repeat (first
        | (apply axJ; (focus ((with_reducible constructor) <;> rfl)))
        | (apply awT mixedOK hΓ (by kernel_rfl); (simp (disch := omega) only [go_sem, ↓reduceIte, dk, Int.reduceBEq, Int.reduceBNe, Bool.true_bne, Bool.false_bne, Bool.not_true, Bool.not_false, hk, hc] <;> with_reducible rfl))
        | ((first | apply awR hΓ | apply awG | apply awH mixedOK hΓ rfl (by kernel_rfl) | apply ovE rfl); (simp (disch := omega) only [go_sem, ↓reduceIte, dk, Int.reduceBEq, Int.reduceBNe, Bool.true_bne, Bool.false_bne, Bool.not_true, Bool.not_false, hk, hc] <;> with_reducible rfl); exact trivial)
        | rfl)
        try rfl
      · repeat (first
        | (apply axJ; (focus ((with_reducible constructor) <;> rfl)))
        | (apply awT mixedOK hΓ (by kernel_rfl); (simp (disch := omega) only [go_sem, ↓reduceIte, dk, Int.reduceBEq, Int.reduceBNe, Bool.true_bne, Bool.false_bne, Bool.not_true, Bool.not_false, hk, hc] <;> with_reducible rfl))
        | ((first | apply awR hΓ | apply awG | apply awH mixedOK hΓ rfl (by kernel_rfl) | apply ovE rfl); (simp (disch := omega) only [go_sem, ↓reduceIte, dk, Int.reduceBEq, Int.reduceBNe, Bool.true_bne, Bool.false_bne, Bool.not_true, Bool.not_false, hk, hc] <;> with_reducible rfl); exact trivial)
        | rfl)
        try rfl
    · rw [hk]
      repeat (first
        | (apply axJ; (focus ((with_reducible constructor) <;> rfl)))
        | (apply awT mixedOK hΓ (by kernel_rfl); (simp (disch := omega) only [go_sem, ↓reduceIte, dk, Int.reduceBEq, Int.reduceBNe, Bool.true_bne, Bool.false_bne, Bool.not_true, Bool.not_false, hk] <;> with_reducible rfl))
        | ((first | apply awR hΓ | apply awG | apply awH mixedOK hΓ rfl (by kernel_rfl) | apply ovE rfl); (simp (disch := omega) only [go_sem, ↓reduceIte, dk, Int.reduceBEq, Int.reduceBNe, Bool.true_bne, Bool.false_bne, Bool.not_true, Bool.not_false, hk] <;> with_reducible rfl); exact trivial)
        | rfl)
      try rfl
  · obtain ⟨hk0, hk1, hk23⟩ : (x.kind == 0) = false ∧ (x.kind == 1) = false ∧ sepX x.kind = (if x.kind == 3 then [32, 111, 114, 32] else [32, 97, 110, 100, 32]) := by
      rcases hk with hk | hk <;> (rw [hk]; exact ⟨rfl, rfl, rfl⟩)
    rw [hk0, hk1]
    generalize hc2 : (x.kind == 3) = c2 at *
    repeat (first
      | (apply axJ; (focus ((with_reducible constructor) <;> rfl)))
      | (apply awT mixedOK hΓ (by kernel_rfl); (simp (disch := omega) only [go_sem, ↓reduceIte, dk, Int.reduceBEq, Int.reduceBNe, Bool.true_bne, Bool.false_bne, Bool.not_true, Bool.not_false, hk0, hk1, hc2] <;> with_reducible rfl))
      | ((first | apply awR hΓ | apply awG | apply awH mixedOK hΓ rfl (by kernel_rfl) | apply ovE rfl); (simp (disch := omega) only [go_sem, ↓reduceIte, dk, Int.reduceBEq, Int.reduceBNe, Bool.true_bne, Bool.false_bne, Bool.not_true, Bool.not_false, hk0, hk1, hc2] <;> with_reducible rfl); exact trivial)
      | rfl)
    refine awp_mid (fun _ : Unit => (frame 66 [(1, .ptr 0 0), (3, .data (.str (sepX x.kind)))])) (fun _ => [(0, .box [.data (.int .i64 x.kind), .data (.str x.name), .data (.str x.exc), .data (.list (x.kids.map eX))])]) 40 (fun _ => True) ?_ ?_
    · cases c2
      · rw [if_neg (by decide)] at hk23
        repeat (first
          | (apply axJ; (focus ((with_reducible constructor) <;> rfl)))
          | (apply awT mixedOK hΓ (by kernel_rfl); (simp (disch := omega) only [go_sem, ↓reduceIte, dk, Int.reduceBEq, Int.reduceBNe, Bool.true_bne, Bool.false_bne, Bool.not_true, Bool.not_false] <;> with_reducible rfl))
          | ((first | apply awR hΓ | apply awG | apply awH mixedOK hΓ rfl (by kernel_rfl) | apply ovE rfl); (simp (disch := omega) only [go_sem, ↓reduceIte, dk, Int.reduceBEq, Int.reduceBNe, Bool.true_bne, Bool.false_bne, Bool.not_true, Bool.not_false] <;> with_reducible rfl); exact trivial)
          | rfl)
        exact ⟨(), trivial, Weak.v (by (simp [ConvF, lookV, Conv, ints, hk23]; done)) (by (simp (disch := omega) only [TabSub, look, if_pos, if_neg, Obj.refsOK, refsOKs, AV.refsOK, decide_eq_true_eq, Bool.and_true, Bool.and_self, hk23] ) <;> ((repeat' apply And.intro) <;> first | exact True.intro | omega | (simp; done) | rfl))⟩
      · rw [if_pos rfl] at hk23
        repeat (first
          | (apply axJ; (focus ((with_reducible constructor) <;> rfl)))
          | (apply awT mixedOK hΓ (by kernel_rfl); (simp (disch := omega) only [go_sem, ↓reduceIte, dk, Int.reduceBEq, Int.reduceBNe, Bool.true_bne, Bool.false_bne, Bool.not_true, Bool.not_false] <;> with_reducible rfl))
          | ((first | apply awR hΓ | apply awG | apply awH mixedOK hΓ rfl (by kernel_rfl) | apply ovE rfl); (simp (disch := omega) only [go_sem, ↓reduceIte, dk, Int.reduceBEq, Int.reduceBNe, Bool.true_bne, Bool.false_bne, Bool.not_true, Bool.not_false] <;> with_reducible rfl); exact trivial)
          | rfl)
        exact ⟨(), trivial, Weak.v (by (simp [ConvF, lookV, Conv, ints, hk23]; done)) (by (simp (disch := omega) only [TabSub, look, if_pos, if_neg, Obj.refsOK, refsOKs, AV.refsOK, decide_eq_true_eq, Bool.and_true, Bool.and_self, hk23] ) <;> ((repeat' apply And.intro) <;> first | exact True.intro | omega | (simp; done) | rfl))⟩
    intro _ _
    repeat (first
      | (apply axJ; (focus ((with_reducible constructor) <;> rfl)))
      | (apply awT mixedOK hΓ (by kernel_rfl); (simp (disch := omega) only [go_sem, ↓reduceIte, dk, Int.reduceBEq, Int.reduceBNe, Bool.true_bne, Bool.false_bne, Bool.not_true, Bool.not_false, ↓lk] <;> with_reducible rfl))
      | ((first | apply awR hΓ | apply awG | apply awH mixedOK hΓ rfl (by kernel_rfl) | apply ovE rfl); (simp (disch := omega) only [go_sem, ↓reduceIte, dk, Int.reduceBEq, Int.reduceBNe, Bool.true_bne, Bool.false_bne, Bool.not_true, Bool.not_false, ↓lk] <;> with_reducible rfl); exact trivial)
      | rfl)
    refine awp_weak (Weak.nilrowF (i := 4) 9 (sz := 1) (by omega) (by omega) rfl) ?_
    have hsl : (sepX x.kind).length ≤ 5 := by unfold sepX; split <;> simp
    refine awp_loop_at (X := Nat) (fun i => (frame 66 [(1, .ptr 0 0), (3, .data (.str (sepX x.kind))), (4, .row 45 (textXs x.kind (x.kids.take i)).length), (32, .data (.list (x.kids.map eX))), (33, .data (i64 x.kids.length)), (34, .data (i64 i))])) (fun i => [(0, .box [.data (.int .i64 x.kind), .data (.str x.name), .data (.str x.exc), .data (.list (x.kids.map eX))]), (45, .row 9 1 ((textXs x.kind (x.kids.take i)).map .str))]) 46
      (fun i => i ≤ x.kids.length) (fun i => x.kids.length - i) 0 (Nat.zero_le _) (Weak.v (by (simp [ConvF, lookV, Conv, ints, textXs]; done)) (by (simp (disch := omega) only [TabSub, look, if_pos, if_neg, Obj.refsOK, refsOKs, AV.refsOK, decide_eq_true_eq, Bool.and_true, Bool.and_self, textXs] ) <;> ((repeat' apply And.intro) <;> first | exact True.intro | omega | (simp; done) | rfl))) ?_
    intro i hi
    have hln : (textXs x.kind (x.kids.take i)).length = i := by rw [textXs_map, List.length_map, List.length_take]; omega
    by_cases hi2 : i < x.kids.length
    · have e := g_textP_eq (h := h) (x := x.kids[i]) ⟨(kid_at hi2 ⟨hd.1, hbd⟩).1, (kid_at hi2 ⟨hd.1, hbd⟩).2, hd.2.2.kid hi2⟩
      have htn := text_len x.kids[i] (hd.2.2.kid hi2).2
      have htz := (hd.2.2.kid hi2).1
      have hnx := textXs_take hi2
      have hpar : pText x.kind x.kids[i] = if ((x.kids[i]).kind == x.kind) || (((x.kids[i]).kind == 3) && (x.kind == 2)) then [40] ++ textX x.kids[i] ++ [41] else textX x.kids[i] := rfl
      generalize hy : x.kids[i] = y at *
      generalize textXs x.kind (x.kids.take i) = ts at *
      generalize hts : textXs x.kind (x.kids.take (i + 1)) = ts' at *
      have htx : (textX y).length ≤ 104857600 := by omega
      generalize textX y = tx at *
      have hlen1 : ([40] ++ tx).length ≤ 104857701 := by rw [List.length_append]; simp; omega
      generalize hb1 : (y.kind == x.kind) = b1 at *
      generalize hb3 : (y.kind == 3) = b3 at *
      generalize hb2 : (x.kind == 2) = b2 at *
      cases hp : (b1 || (b3 && b2)) with
      | true =>
        rw [if_pos hp] at hpar
        rw [hpar] at hnx
        cases b1
        · cases b3
          · cases hp
          · cases b2
            · cases hp
            · repeat (first
              | (apply axJ; (focus ((with_reducible constructor) <;> rfl)))
              | (apply awT mixedOK hΓ (by kernel_rfl); (simp (disch := omega) only [go_sem, ↓reduceIte, dk, Int.reduceBEq, Int.reduceBNe, Bool.true_bne, Bool.false_bne, Bool.not_true, Bool.not_false, ↓lk, hy, hb1, hb2, hb3, e] <;> with_reducible rfl))
              | ((first | apply awR hΓ | apply awG | apply awH mixedOK hΓ rfl (by kernel_rfl) | apply ovE rfl); (simp (disch := omega) only [go_sem, ↓reduceIte, dk, Int.reduceBEq, Int.reduceBNe, Bool.true_bne, Bool.false_bne, Bool.not_true, Bool.not_false, ↓lk, hy, hb1, hb2, hb3, e] <;> with_reducible rfl); exact trivial)
              | rfl)
              exact ⟨i + 1, by omega, by omega, Weak.v (by (simp [ConvF, lookV, Conv, ints, hts, hnx, hln]; done)) (by (simp (disch := omega) only [TabSub, look, if_pos, if_neg, Obj.refsOK, refsOKs, AV.refsOK, decide_eq_true_eq, Bool.and_true, Bool.and_self, hts, hnx, hln] ) <;> ((repeat' apply And.intro) <;> first | exact True.intro | omega | (simp; done) | rfl))⟩
        · repeat (first
          | (apply axJ; (focus ((with_reducible constructor) <;> rfl)))
          | (apply awT mixedOK hΓ (by kernel_rfl); (simp (disch := omega) only [go_sem, ↓reduceIte, dk, Int.reduceBEq, Int.reduceBNe, Bool.true_bne, Bool.false_bne, Bool.not_true, Bool.not_false, ↓lk, hy, hb1, hb2, hb3, e] <;> with_reducible rfl))
          | ((first | apply awR hΓ | apply awG | apply awH mixedOK hΓ rfl (by kernel_rfl) | apply ovE rfl); (simp (disch := omega) only [go_sem, ↓reduceIte, dk, Int.reduceBEq, Int.reduceBNe, Bool.true_bne, Bool.false_bne, Bool.not_true, Bool.not_false, ↓lk, hy, hb1, hb2, hb3, e] <;> with_reducible rfl); exact trivial)
          | rfl)
          exact ⟨i + 1, by omega, by omega, Weak.v (by (simp [ConvF, lookV, Conv, ints, hts, hnx, hln]; done)) (by (simp (disch := omega) only [TabSub, look, if_pos, if_neg, Obj.refsOK, refsOKs, AV.refsOK, decide_eq_true_eq, Bool.and_true, Bool.and_self, hts, hnx, hln] ) <;> ((repeat' apply And.intro) <;> first | exact True.intro | omega | (simp; done) | rfl))⟩
      | false =>
        rw [if_neg (by rw [hp]; decide)] at hpar
        rw [hpar] at hnx
        cases b1
        · cases b3
          · repeat (first
            | (apply axJ; (focus ((with_reducible constructor) <;> rfl)))
            | (apply awT mixedOK hΓ (by kernel_rfl); (simp (disch := omega) only [go_sem, ↓reduceIte, dk, Int.reduceBEq, Int.reduceBNe, Bool.true_bne, Bool.false_bne, Bool.not_true, Bool.not_false, ↓lk, hy, hb1, hb2, hb3, e] <;> with_reducible rfl))
            | ((first | apply awR hΓ | apply awG | apply awH mixedOK hΓ rfl (by kernel_rfl) | apply ovE rfl); (simp (disch := omega) only [go_sem, ↓reduceIte, dk, Int.reduceBEq, Int.reduceBNe, Bool.true_bne, Bool.false_bne, Bool.not_true, Bool.not_false, ↓lk, hy, hb1, hb2, hb3, e] <;> with_reducible rfl); exact trivial)
            | rfl)
            exact ⟨i + 1, by omega, by omega, Weak.v (by (simp [ConvF, lookV, Conv, ints, hts, hnx, hln]; done)) (by (simp (disch := omega) only [TabSub, look, if_pos, if_neg, Obj.refsOK, refsOKs, AV.refsOK, decide_eq_true_eq, Bool.and_true, Bool.and_self, hts, hnx, hln] ) <;> ((repeat' apply And.intro) <;> first | exact True.intro | omega | (simp; done) | rfl))⟩
          · cases b2
            · repeat (first
              | (apply axJ; (focus ((with_reducible constructor) <;> rfl)))
              | (apply awT mixedOK hΓ (by kernel_rfl); (simp (disch := omega) only [go_sem, ↓reduceIte, dk, Int.reduceBEq, Int.reduceBNe, Bool.true_bne, Bool.false_bne, Bool.not_true, Bool.not_false, ↓lk, hy, hb1, hb2, hb3, e] <;> with_reducible rfl))
              | ((first | apply awR hΓ | apply awG | apply awH mixedOK hΓ rfl (by kernel_rfl) | apply ovE rfl); (simp (disch := omega) only [go_sem, ↓reduceIte, dk, Int.reduceBEq, Int.reduceBNe, Bool.true_bne, Bool.false_bne, Bool.not_true, Bool.not_false, ↓lk, hy, hb1, hb2, hb3, e] <;> with_reducible rfl); exact trivial)
              | rfl)
              exact ⟨i + 1, by omega, by omega, Weak.v (by (simp [ConvF, lookV, Conv, ints, hts, hnx, hln]; done)) (by (simp (disch := omega) only [TabSub, look, if_pos, if_neg, Obj.refsOK, refsOKs, AV.refsOK, decide_eq_true_eq, Bool.and_true, Bool.and_self, hts, hnx, hln] ) <;> ((repeat' apply And.intro) <;> first | exact True.intro | omega | (simp; done) | rfl))⟩
            · cases hp
        · cases hp
    · have hi' : i = x.kids.length := by omega
      subst hi'
      have htl := tails_len hd.2.2 x.kids.length
      rw [List.take_length] at htl hln ⊢
      have ej := g_join_eq (l := textXs x.kind x.kids) (s := sepX x.kind) ⟨by omega, by omega⟩
      refine awp_weak (Weak.freeze (o := 45) rfl) ?_
      repeat (first
        | (apply axJ; (focus ((with_reducible constructor) <;> rfl)))
        | (apply awT mixedOK hΓ (by kernel_rfl); (simp (disch := omega) only [go_sem, ↓reduceIte, dk, ↓lk, hln, ej] <;> with_reducible rfl))
        | ((first | apply awR hΓ | apply awG | apply awH mixedOK hΓ rfl (by kernel_rfl) | apply ovE rfl); (simp (disch := omega) only [go_sem, ↓reduceIte, dk, ↓lk, hln, ej] <;> with_reducible rfl); exact trivial)
        | rfl)
      try rfl
end Go.Ab
