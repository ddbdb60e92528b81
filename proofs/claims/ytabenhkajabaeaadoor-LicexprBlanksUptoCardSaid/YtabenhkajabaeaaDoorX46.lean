/-
  One text of the proof (own work): contracts of functions of the program, by the abstract machine.
-/
import Derived.Test.YtabenhkajabaeaaDoorX39
import Derived.Test.YtabenhkajabaeaaDoorX42
import Derived.Test.YtabenhkajabaeaaDoorX44
set_option linter.unusedVariables false
set_option linter.unusedSimpArgs false
namespace Go.Ab
open Go Go.RowKit Go.Proofs
set_option maxRecDepth 10000
set_option maxHeartbeats 4000000
inductive Tk where
  | w (b : List UInt8)
  | p (c : UInt8)
def pun (c : UInt8) : Prop := c = 40 ∨ c = 41 ∨ c = 43
inductive Lay : List Tk → List UInt8 → Prop where
  | nil : Lay [] []
  | bl {l : List Tk} {t : List UInt8} (h : Lay l t) : Lay l (32 :: t)
  | p {c : UInt8} {l : List Tk} {t : List UInt8} (hc : pun c) (h : Lay l t) : Lay (.p c :: l) (c :: t)
  | w {b : List UInt8} {l : List Tk} {t : List UInt8} (hb : b ≠ []) (ha : b.all letter = true) (ht : ∀ x r, t = x :: r → letter x = false) (h : Lay l t) : Lay (.w b :: l) (b ++ t)
theorem letter_bl {x : UInt8} (h : letter x = true) : isBl x = false := by
  cases hx : isBl x with
  | false => rfl
  | true =>
    have e : x = 32 := by
      apply UInt8.toNat_inj.1
      have : (x.toNat : Int) = 32 := eq_of_beq hx
      show x.toNat = 32
      omega
    subst e
    exact absurd h (by decide)
theorem pun_bl {c : UInt8} (h : pun c) : isBl c = false ∧ letter c = false := by
  rcases h with rfl | rfl | rfl <;> decide
theorem lay_nil {L : List Tk} {t : List UInt8} (h : Lay L t) : L = [] → t.dropWhile isBl = [] := by
  induction h with
  | nil => intro _; rfl
  | bl h ih => intro e; rw [List.dropWhile_cons, if_pos (by decide)]; exact ih e
  | p hc h ih => intro e; cases e
  | w hb ha ht h ih => intro e; cases e
theorem lay_p {L : List Tk} {t : List UInt8} (h : Lay L t) {c : UInt8} {l : List Tk} : L = .p c :: l → pun c ∧ ∃ t', t.dropWhile isBl = c :: t' ∧ Lay l t' := by
  induction h with
  | nil => intro e; cases e
  | bl h ih => intro e; rw [List.dropWhile_cons, if_pos (by decide)]; exact ih e
  | @p c' l' t' hc h ih =>
    intro e
    cases e
    exact ⟨hc, t', by rw [List.dropWhile_cons, if_neg (by rw [(pun_bl hc).1]; decide)], h⟩
  | w hb ha ht h ih => intro e; cases e
theorem lay_w {L : List Tk} {t : List UInt8} (h : Lay L t) {b : List UInt8} {l : List Tk} : L = .w b :: l → (b ≠ [] ∧ b.all letter = true) ∧ ∃ t', t.dropWhile isBl = b ++ t' ∧ (∀ x r, t' = x :: r → letter x = false) ∧ Lay l t' := by
  induction h with
  | nil => intro e; cases e
  | bl h ih => intro e; rw [List.dropWhile_cons, if_pos (by decide)]; exact ih e
  | p hc h ih => intro e; cases e
  | @w b' l' t' hb ha ht h ih =>
    intro e
    cases e
    refine ⟨⟨hb, ha⟩, t', ?_, ht, h⟩
    cases b with
    | nil => exact absurd rfl hb
    | cons x r =>
      rw [List.all_cons, Bool.and_eq_true] at ha
      rw [List.cons_append, List.dropWhile_cons, if_neg (by rw [letter_bl ha.1]; decide)]
def At (s : List UInt8) (a : Nat) (l : List Tk) : Prop := a ≤ s.length ∧ Lay l (s.drop a)
def headW : List Tk → List UInt8
  | .w b :: _ => b
  | _ => []
def isP (l : List Tk) (c : UInt8) : Bool := match l with
  | .p c' :: _ => c' == c
  | _ => false
theorem drop_tw {α : Type} (p : α → Bool) (l : List α) : l.drop (l.takeWhile p).length = l.dropWhile p := by
  conv => lhs; arg 2; rw [← List.takeWhile_append_dropWhile (p := p) (l := l)]
  rw [List.drop_left]
theorem drop_skip (s : List UInt8) (a : Nat) : s.drop (skipN s a) = (s.drop a).dropWhile isBl := by
  show s.drop (a + _) = _
  rw [← List.drop_drop, drop_tw]
theorem skip_le {s : List UInt8} {a : Nat} (h : a ≤ s.length) : a ≤ skipN s a ∧ skipN s a ≤ s.length := runN_le h
theorem lay_dw {l : List Tk} {t : List UInt8} (h : Lay l t) : Lay l (t.dropWhile isBl) := by
  induction h with
  | nil => exact .nil
  | bl h ih => rw [List.dropWhile_cons, if_pos (by decide)]; exact ih
  | p hc h ih => rw [List.dropWhile_cons, if_neg (by rw [(pun_bl hc).1]; decide)]; exact .p hc h
  | @w b l t hb ha ht h ih =>
    cases b with
    | nil => exact absurd rfl hb
    | cons x r =>
      have ha' := ha
      rw [List.all_cons, Bool.and_eq_true] at ha
      rw [List.cons_append, List.dropWhile_cons, if_neg (by rw [letter_bl ha.1]; decide)]
      exact .w (b := x :: r) hb ha' ht h
theorem skip_idem (s : List UInt8) (a : Nat) : skipN s (skipN s a) = skipN s a := by
  show skipN s a + ((s.drop (skipN s a)).takeWhile isBl).length = skipN s a
  rw [drop_skip]
  have : ∀ l : List UInt8, (l.dropWhile isBl).takeWhile isBl = [] := by
    intro l
    induction l with
    | nil => rfl
    | cons x r ih =>
      rw [List.dropWhile_cons]
      split
      · exact ih
      · rename_i h
        rw [List.takeWhile_cons, if_neg h]
  rw [this]
  rfl
theorem at_skip {s : List UInt8} {a : Nat} {l : List Tk} (h : At s a l) : At s (skipN s a) l := ⟨(skip_le h.1).2, by rw [drop_skip]; exact lay_dw h.2⟩
theorem tw_all {b t : List UInt8} (hb : b.all letter = true) (ht : ∀ x r, t = x :: r → letter x = false) : (b ++ t).takeWhile letter = b := by
  induction b with
  | nil =>
    cases t with
    | nil => rfl
    | cons x r => rw [List.nil_append, List.takeWhile_cons, if_neg (by rw [ht x r rfl]; decide)]
  | cons x b ih =>
    rw [List.all_cons, Bool.and_eq_true] at hb
    rw [List.cons_append, List.takeWhile_cons, if_pos hb.1, ih hb.2]
theorem at_word {s : List UInt8} {a : Nat} {l : List Tk} (h : At s a l) : wordN s (skipN s a) = headW l := by
  unfold wordN
  rw [drop_skip]
  cases l with
  | nil => rw [lay_nil h.2 rfl]; rfl
  | cons k l =>
    cases k with
    | p c =>
      obtain ⟨hc, t', h1, _⟩ := lay_p h.2 rfl
      rw [h1, List.takeWhile_cons, if_neg (by rw [(pun_bl hc).2]; decide)]
      rfl
    | w b =>
      obtain ⟨⟨_, hb⟩, t', h1, h2, _⟩ := lay_w h.2 rfl
      rw [h1, tw_all hb h2]
      rfl
theorem isAt_drop {s : List UInt8} {i : Nat} {c : UInt8} : isAtI s i (c.toNat : Int) = true ↔ ∃ r, s.drop i = c :: r := by
  rw [isAtI_iff]
  constructor
  · intro h
    obtain ⟨hi, rfl⟩ := List.getElem?_eq_some_iff.1 h
    exact ⟨_, List.drop_eq_getElem_cons hi⟩
  · rintro ⟨r, h⟩
    have := congrArg (fun l => l[0]?) h
    simpa using this
theorem at_pun {s : List UInt8} {a : Nat} {l : List Tk} (h : At s a l) {c : UInt8} (hc : pun c) : isAtI s (skipN s a) (c.toNat : Int) = isP l c := by
  rw [Bool.eq_iff_iff, isAt_drop, drop_skip]
  cases l with
  | nil => rw [lay_nil h.2 rfl]; constructor <;> intro h' <;> first | (obtain ⟨r, h'⟩ := h'; cases h') | cases h'
  | cons k l =>
    cases k with
    | p c' =>
      obtain ⟨hc', t', h1, _⟩ := lay_p h.2 rfl
      rw [h1]
      show _ ↔ (c' == c) = true
      constructor
      · rintro ⟨r, h2⟩; cases h2; exact beq_self_eq_true _
      · intro h2; rw [eq_of_beq h2]; exact ⟨_, rfl⟩
    | w b =>
      obtain ⟨⟨hb0, hb⟩, t', h1, h2, _⟩ := lay_w h.2 rfl
      rw [h1]
      show _ ↔ false = true
      constructor
      · rintro ⟨r, h3⟩
        cases b with
        | nil => exact absurd rfl hb0
        | cons x b =>
          rw [List.all_cons, Bool.and_eq_true] at hb
          cases h3
          rw [(pun_bl hc).2] at hb
          exact hb.1
      · intro h3; cases h3
def Tk.len : Tk → Nat
  | .w b => b.length
  | .p _ => 1
theorem at_tail {s : List UInt8} {a : Nat} {k : Tk} {l : List Tk} (h : At s a (k :: l)) : At s (skipN s a + k.len) l := by
  have hle := (skip_le h.1).2
  have hlen := congrArg List.length (drop_skip s a)
  rw [List.length_drop] at hlen
  cases k with
  | p c =>
    obtain ⟨hc', t', h1, h2⟩ := lay_p h.2 rfl
    rw [h1] at hlen
    simp only [List.length_cons] at hlen
    refine ⟨by show skipN s a + 1 ≤ _; omega, ?_⟩
    rw [← List.drop_drop, drop_skip, h1]
    exact h2
  | w b =>
    obtain ⟨⟨hb0, hb⟩, t', h1, h3, h2⟩ := lay_w h.2 rfl
    rw [h1] at hlen
    simp only [List.length_append] at hlen
    refine ⟨by show skipN s a + b.length ≤ _; omega, ?_⟩
    rw [← List.drop_drop, drop_skip, h1]
    show Lay l ((b ++ t').drop b.length)
    rw [List.drop_left]
    exact h2
theorem at_end {s : List UInt8} {a : Nat} (h : At s a []) : skipN s a = s.length := by
  have hle := (skip_le h.1).2
  have hlen := congrArg List.length (drop_skip s a)
  rw [List.length_drop, lay_nil h.2 rfl] at hlen
  simp only [List.length_nil] at hlen
  omega
def wWith : List UInt8 := [119, 105, 116, 104]
def wAnd : List UInt8 := [97, 110, 100]
def wOr : List UInt8 := [111, 114]
def Fo0 (l : List Tk) : Prop := headW l ≠ wWith ∧ isP l 43 = false
def Fo1 (l : List Tk) : Prop := Fo0 l ∧ headW l ≠ wAnd
def Fo2 (l : List Tk) : Prop := Fo1 l ∧ headW l ≠ wOr
def Reads (fo : List Tk → Prop) (f : List UInt8 → Nat → Res) (x : LX) (l : List Tk) : Prop :=
  ∀ s a rest, At s a (l ++ rest) → fo rest → ∃ b, f s a = ⟨x, b, 0⟩ ∧ At s b rest
theorem name_at {s w : List UInt8} {a : Nat} {l : List Tk} (h : At s a (.w w :: l)) (hn : isNameB w = true) : rName s a = ⟨.mk 0 w [] [], skipN s a + w.length, 0⟩ :=
  rName_ok (at_word h) (lay_w h.2 rfl).1.1 hn
def par1 (l : List Tk) : List Tk := .p 40 :: (l ++ [.p 41])
theorem rd_paren {d : Nat} {x : LX} {l : List Tk} (h : Reads Fo2 (fun s => rOrs s (rAtom s d)) x l) : Reads Fo0 (fun s => rAtom s (d + 1)) x (par1 l) := by
  intro s a rest ha _
  have e : par1 l ++ rest = .p 40 :: (l ++ (.p 41 :: rest)) := by simp [par1]
  rw [e] at ha
  have h1 : isAtI s (skipN s a) 40 = true := at_pun ha (c := 40) (.inl rfl)
  obtain ⟨b, h2, h3⟩ := h s _ _ (at_tail ha) ⟨⟨⟨by simp [headW, wWith], rfl⟩, by simp [headW, wAnd]⟩, by simp [headW, wOr]⟩
  have h4 : isAtI s (skipN s b) 41 = true := at_pun h3 (c := 41) (.inr (.inl rfl))
  refine ⟨skipN s b + 1, ?_, at_tail h3⟩
  show rAtomF s (some (rOrs s (rAtom s d))) a = _
  unfold rAtomF
  dsimp only at h2 ⊢
  rw [show (skipN s a + Tk.len (.p 40)) = skipN s a + 1 from rfl] at h2
  rw [h2, if_pos h1]
  dsimp only
  rw [if_neg (by decide), if_pos h4]
theorem rd_leaf (d : Nat) {x : LX} (hf : formE x = 0) (hk : x.kind = 0 ∨ x.kind = 1) :
    Reads Fo0 (fun s => rAtom s d) x (if x.kind == 0 then (if !(x.exc == []) then [.w x.name, .w wWith, .w x.exc] else [.w x.name]) else [.w x.name, .p 43]) := by
  intro s a rest ha hfo
  rcases node_cases (formE_node hf) with ⟨_, hkids, hn, he⟩ | ⟨h, _⟩
  · have hx := x.eta
    show ∃ b, rAtom s d a = _ ∧ _
    have hr : ∃ i, rAtom s d a = rAtomF s i a := by cases d <;> exact ⟨_, rfl⟩
    obtain ⟨i, hr⟩ := hr
    rw [hr]
    unfold rAtomF
    rcases hk with hk | hk
    · rw [if_pos (by rw [hk]; rfl)] at ha
      by_cases hx0 : x.exc = []
      · rw [if_neg (by rw [hx0]; decide)] at ha
        have h1 : isAtI s (skipN s a) 40 = false := at_pun ha (c := 40) (.inl rfl)
        have h2 := name_at (at_skip ha) hn
        rw [skip_idem] at h2
        have h3 := at_tail ha
        change At s (skipN s a + x.name.length) rest at h3
        have h4 : isAtI s (skipN s (skipN s a + x.name.length)) 43 = false := (at_pun h3 (c := 43) (.inr (.inr rfl))).trans hfo.2
        have h5 := at_word h3
        refine ⟨skipN s a + x.name.length, ?_, h3⟩
        rw [if_neg (by rw [h1]; decide), h2]
        dsimp only
        rw [if_neg (by decide), if_neg (by rw [h4]; decide), if_neg (by rw [h5]; simpa [wWith] using hfo.1)]
        rw [← hx, hk, hx0, hkids]
        rfl
      · rw [if_pos (by simpa using hx0)] at ha
        have he2 : isNameB x.exc = true := by
          rcases he with he | he
          · exact absurd he hx0
          · exact he.2
        have h1 : isAtI s (skipN s a) 40 = false := at_pun ha (c := 40) (.inl rfl)
        have h2 := name_at (at_skip ha) hn
        rw [skip_idem] at h2
        have h3 := at_tail ha
        change At s (skipN s a + x.name.length) (.w wWith :: .w x.exc :: rest) at h3
        have h4 : isAtI s (skipN s (skipN s a + x.name.length)) 43 = false := at_pun h3 (c := 43) (.inr (.inr rfl))
        have h5 : wordN s (skipN s (skipN s a + x.name.length)) = [119, 105, 116, 104] := at_word h3
        have h6 := at_tail h3
        change At s (skipN s (skipN s a + x.name.length) + 4) (.w x.exc :: rest) at h6
        have h7 := name_at h6 he2
        have h8 := at_tail h6
        refine ⟨_, ?_, h8⟩
        rw [if_neg (by rw [h1]; decide), h2]
        dsimp only
        rw [if_neg (by decide), if_neg (by rw [h4]; decide), if_pos (by rw [h5]; rfl), h7]
        dsimp only
        rw [if_neg (by decide)]
        conv => rhs; rw [← hx, hk, hkids]
        rfl
    · rw [if_neg (by rw [hk]; decide)] at ha
      have hx0 : x.exc = [] := by
        rcases he with he | he
        · exact he
        · exact absurd (hk.symm.trans he.1) (by decide)
      have h1 : isAtI s (skipN s a) 40 = false := at_pun ha (c := 40) (.inl rfl)
      have h2 := name_at (at_skip ha) hn
      rw [skip_idem] at h2
      have h3 := at_tail ha
      change At s (skipN s a + x.name.length) (.p 43 :: rest) at h3
      have h4 : isAtI s (skipN s (skipN s a + x.name.length)) 43 = true := at_pun h3 (c := 43) (.inr (.inr rfl))
      have h6 := at_tail h3
      refine ⟨_, ?_, h6⟩
      rw [if_neg (by rw [h1]; decide), h2]
      dsimp only
      rw [if_neg (by decide), if_pos h4]
      conv => rhs; rw [← hx, hk, hx0, hkids]
      rfl
  · rcases h with h | h <;> rcases hk with hk | hk <;> exact absurd (h.symm.trans hk) (by decide)
def joinK (w : List UInt8) : List (List Tk) → List Tk
  | [] => []
  | [x] => x
  | x :: y :: r => x ++ .w w :: joinK w (y :: r)
def listX (kind : Int) : List LX → LX
  | [x] => x
  | l => .mk kind [] [] l
theorem rd_loop {f : List UInt8 → Nat → Res} {fo : List Tk → Prop} {kind : Int} {w : List UInt8} (hw : w ≠ []) (hg : ∀ s a, a ≤ s.length → GoodR s a (f s a)) (hfo : ∀ l, fo (.w w :: l)) (s : List UInt8) (rest : List Tk) (h1 : fo rest) (h2 : headW rest ≠ w) :
    ∀ (ps : List (LX × List Tk)), ps ≠ [] → (∀ p ∈ ps, Reads fo f p.1 p.2) → ∀ (n a : Nat) (acc : List LX), s.length < n + a → At s a (joinK w (ps.map (·.2)) ++ rest) →
      ∃ b, rLoop (f s) s kind w n a acc = ⟨listX kind (acc ++ ps.map (·.1)), b, 0⟩ ∧ At s b rest ∧ skipN s b = b
  | [], hne, _, _, _, _, _, _ => absurd rfl hne
  | [p], _, hp, 0, a, acc, hn, ha => by have := ha.1; omega
  | [p], _, hp, n + 1, a, acc, hn, ha => by
    obtain ⟨b, h3, h4⟩ := hp p (by simp) s a rest ha h1
    rw [rLoop, h3]
    dsimp only
    rw [if_neg (by decide), at_word h4, if_neg (by simpa using h2)]
    refine ⟨skipN s b, ?_, at_skip h4, skip_idem s b⟩
    cases acc with
    | nil => rfl
    | cons y r =>
      rw [if_neg (by simp)]
      cases r <;> rfl
  | p :: q :: r, _, hp, 0, a, acc, hn, ha => by have := ha.1; omega
  | p :: q :: r, _, hp, n + 1, a, acc, hn, ha => by
    have e : joinK w ((p :: q :: r).map (·.2)) ++ rest = p.2 ++ (.w w :: (joinK w ((q :: r).map (·.2)) ++ rest)) := by simp [joinK]
    rw [e] at ha
    obtain ⟨b, h3, h4⟩ := hp p (by simp) s a _ ha (hfo _)
    have hgd := hg s a ha.1
    rw [h3] at hgd
    have hlt := hgd.lt rfl
    dsimp only at hlt
    have h5 := at_tail h4
    have h6 := (skip_le h4.1).1
    obtain ⟨b', h7, h8⟩ := rd_loop hw hg hfo s rest h1 h2 (q :: r) (by simp) (fun z hz => hp z (by simp [hz])) n _ (acc ++ [p.1]) (by
      show s.length < n + (skipN s b + w.length)
      have : 1 ≤ w.length := List.length_pos_iff.2 hw
      have h6' : b ≤ skipN s b := h6
      omega) h5
    refine ⟨b', ?_, h8⟩
    rw [rLoop, h3]
    dsimp only
    rw [if_neg (by decide), at_word h4, if_pos (by show (w == w) = true; exact beq_self_eq_true _)]
    refine h7.trans ?_
    simp
theorem good_atom' (d : Nat) (s : List UInt8) (a : Nat) (h : a ≤ s.length) : GoodR s a (rAtom s d a) := good_atom d h
theorem good_ands' (d : Nat) (s : List UInt8) (a : Nat) (h : a ≤ s.length) : GoodR s a (rAnds s (rAtom s d) a) := good_ands (fun _ h => good_atom d h) h
def ReadsE (fo : List Tk → Prop) (f : List UInt8 → Nat → Res) (x : LX) (l : List Tk) : Prop :=
  ∀ s a rest, At s a (l ++ rest) → fo rest → ∃ b, f s a = ⟨x, b, 0⟩ ∧ At s b rest ∧ skipN s b = b
theorem ReadsE.r {fo : List Tk → Prop} {f : List UInt8 → Nat → Res} {x : LX} {l : List Tk} (h : ReadsE fo f x l) : Reads fo f x l := fun s a rest h1 h2 => by
  obtain ⟨b, h3, h4, _⟩ := h s a rest h1 h2
  exact ⟨b, h3, h4⟩
theorem rd_ands {d : Nat} (ps : List (LX × List Tk)) (hne : ps ≠ []) (hp : ∀ p ∈ ps, Reads Fo0 (fun s => rAtom s d) p.1 p.2) : ReadsE Fo1 (fun s => rAnds s (rAtom s d)) (listX 2 (ps.map (·.1))) (joinK wAnd (ps.map (·.2))) := by
  intro s a rest ha hfo
  exact rd_loop (f := fun s => rAtom s d) (by decide) (good_atom' d) (fun l => ⟨by simp [headW, wAnd, wWith], rfl⟩) s rest hfo.1 hfo.2 ps hne hp (s.length + 1) a [] (by omega) ha
theorem rd_ors {d : Nat} (ps : List (LX × List Tk)) (hne : ps ≠ []) (hp : ∀ p ∈ ps, Reads Fo1 (fun s => rAnds s (rAtom s d)) p.1 p.2) : ReadsE Fo2 (fun s => rOrs s (rAtom s d)) (listX 3 (ps.map (·.1))) (joinK wOr (ps.map (·.2))) := by
  intro s a rest ha hfo
  exact rd_loop (f := fun s => rAnds s (rAtom s d)) (by decide) (good_ands' d) (fun l => ⟨⟨by simp [headW, wOr, wWith], rfl⟩, by simp [headW, wOr, wAnd]⟩) s rest hfo.1 hfo.2 ps hne hp (s.length + 1) a [] (by omega) ha
end Go.Ab
namespace Go.Ab
open Go Go.RowKit Go.Proofs
set_option maxRecDepth 10000
set_option maxHeartbeats 4000000
def wordK (k : Int) : List UInt8 := if k == 3 then wOr else wAnd
mutual
def tks : LX → List Tk
  | .mk k n e l => if k == 0 then (if !(e == []) then [.w n, .w wWith, .w e] else [.w n]) else if k == 1 then [.w n, .p 43] else joinK (wordK k) (tkss k l)
def tkss (k : Int) : List LX → List (List Tk)
  | [] => []
  | x :: l => (if par k x then par1 (tks x) else tks x) :: tkss k l
end
def pTks (k : Int) (x : LX) : List Tk := if par k x then par1 (tks x) else tks x
theorem tks_eq (x : LX) : tks x = if x.kind == 0 then (if !(x.exc == []) then [.w x.name, .w wWith, .w x.exc] else [.w x.name]) else if x.kind == 1 then [.w x.name, .p 43] else joinK (wordK x.kind) (tkss x.kind x.kids) := by cases x; rw [tks]; rfl
theorem tkss_map (k : Int) (l : List LX) : tkss k l = l.map (pTks k) := by
  induction l with
  | nil => rfl
  | cons x l ih => rw [tkss, ih]; rfl
theorem rd_one {d : Nat} {x : LX} {l : List Tk} (h : Reads Fo0 (fun s => rAtom s d) x l) : ReadsE Fo1 (fun s => rAnds s (rAtom s d)) x l :=
  rd_ands [(x, l)] (by simp) (fun p hp => by rw [List.mem_singleton.1 hp]; exact h)
theorem rd_one2 {d : Nat} {x : LX} {l : List Tk} (h : Reads Fo1 (fun s => rAnds s (rAtom s d)) x l) : ReadsE Fo2 (fun s => rOrs s (rAtom s d)) x l :=
  rd_ors [(x, l)] (by simp) (fun p hp => by rw [List.mem_singleton.1 hp]; exact h)
def ReadsX (x : LX) : Prop := formE x = 0 → ∀ d, x.hgt ≤ d + 1 → ReadsE Fo2 (fun s => rOrs s (rAtom s d)) x (tks x) ∧ (x.kind ≠ 3 → ReadsE Fo1 (fun s => rAnds s (rAtom s d)) x (tks x)) ∧ (x.kind ≠ 2 → x.kind ≠ 3 → Reads Fo0 (fun s => rAtom s d) x (tks x))
theorem listX_two {k : Int} {l : List LX} (h : 2 ≤ l.length) : listX k l = .mk k [] [] l := by
  match l, h with
  | x :: y :: r, _ => rfl
theorem map_pairs {α β : Type} (f : α → β) (l : List α) : (l.map (fun y => (y, f y))).map (·.1) = l ∧ (l.map (fun y => (y, f y))).map (·.2) = l.map f := by
  constructor
  · rw [List.map_map]; exact List.map_id' _
  · rw [List.map_map]; rfl
theorem reads_x (x : LX) : ReadsX x := by
  refine LX.ind (p := ReadsX) (fun k n e l ih hf d hd => ?_) x
  rcases node_cases (formE_node hf) with ⟨hk, _⟩ | ⟨hk, hl, hn, he⟩
  · have h := rd_leaf d hf hk
    have et : tks (LX.mk k n e l) = _ := tks_eq _
    have e2 : (if (LX.mk k n e l).kind == 0 then (if !((LX.mk k n e l).exc == []) then [Tk.w (LX.mk k n e l).name, .w wWith, .w (LX.mk k n e l).exc] else [.w (LX.mk k n e l).name]) else [.w (LX.mk k n e l).name, .p 43]) = tks (LX.mk k n e l) := by
      rw [et]
      split
      · rfl
      · rename_i h0
        rw [if_pos]
        rcases hk with hk | hk
        · exact absurd (by rw [hk]; rfl) h0
        · rw [hk]; rfl
    rw [e2] at h
    have h1 := rd_one h
    exact ⟨rd_one2 h1.r, fun _ => h1, fun _ _ => h⟩
  · have hkid : ∀ y ∈ l, formE y = 0 ∧ y.hgt ≤ d := fun y hy => ⟨formE_kid hf hy, by have := LX.hgt_kid (x := .mk k n e l) hy; omega⟩
    have hx : LX.mk k n e l = .mk k [] [] l := by
      change n = [] at hn
      change e = [] at he
      rw [hn, he]
    have ht : tks (LX.mk k n e l) = joinK (wordK k) (l.map (pTks k)) := by
      rw [tks_eq, if_neg (by rcases hk with hk | hk <;> (rw [hk]; decide)), if_neg (by rcases hk with hk | hk <;> (rw [hk]; decide)), tkss_map]
      rfl
    have hne : l ≠ [] := by intro h; change 2 ≤ l.length at hl; rw [h] at hl; simp at hl
    obtain ⟨p1, p2⟩ := map_pairs (pTks k) l
    have hpar : ∀ y ∈ l, par k y = true → Reads Fo0 (fun s => rAtom s d) y (pTks k y) := fun y hy hp => by
      obtain ⟨h1, h2⟩ := hkid y hy
      obtain ⟨d', rfl⟩ : ∃ d', d = d' + 1 := ⟨d - 1, by have := y.hgt_pos; omega⟩
      unfold pTks
      rw [if_pos hp]
      exact rd_paren (ih y hy h1 d' h2).1.r
    change k = 2 ∨ k = 3 at hk
    rcases hk with rfl | rfl
    · have h := rd_ands (d := d) (l.map (fun y => (y, pTks 2 y))) (by simpa using hne) (fun p hp => by
        obtain ⟨y, hy, rfl⟩ := List.mem_map.1 hp
        dsimp only
        by_cases hpy : par 2 y = true
        · exact hpar y hy hpy
        · obtain ⟨h1, h2⟩ := hkid y hy
          unfold pTks
          rw [if_neg hpy]
          unfold par at hpy
          simp only [Bool.or_eq_true, beq_iff_eq, Bool.and_eq_true, not_or] at hpy
          exact (ih y hy h1 d (by omega)).2.2 hpy.1 (fun h3 => hpy.2 ⟨h3, trivial⟩))
      rw [p1, p2, listX_two (show 2 ≤ l.length from hl)] at h
      rw [hx] at ht ⊢
      rw [ht]
      exact ⟨rd_one2 h.r, fun _ => h, fun h2 _ => absurd rfl h2⟩
    · have h := rd_ors (d := d) (l.map (fun y => (y, pTks 3 y))) (by simpa using hne) (fun p hp => by
        obtain ⟨y, hy, rfl⟩ := List.mem_map.1 hp
        dsimp only
        by_cases hpy : par 3 y = true
        · exact (rd_one (hpar y hy hpy)).r
        · obtain ⟨h1, h2⟩ := hkid y hy
          unfold pTks
          rw [if_neg hpy]
          unfold par at hpy
          simp only [Bool.or_eq_true, beq_iff_eq, Bool.and_eq_true, not_or] at hpy
          exact ((ih y hy h1 d (by omega)).2.1 hpy.1).r)
      rw [p1, p2, listX_two (show 2 ≤ l.length from hl)] at h
      rw [hx] at ht ⊢
      rw [ht]
      exact ⟨h, fun h3 => absurd rfl h3, fun _ h3 => absurd rfl h3⟩
theorem parse_lay {s : List UInt8} {x : LX} (hl : Lay (tks x) s) (hc : checkE x = 0) (hs : s.length ≤ 1024) : pParse s = (x, 0, 0) := by
  obtain ⟨h1, h2, h3⟩ := check_ok hc
  obtain ⟨b, h4, h5, h6⟩ := (reads_x x h3 24 (by omega)).1 s 0 [] ⟨Nat.zero_le _, by simpa using hl⟩ ⟨⟨⟨by simp [headW, wWith], rfl⟩, by simp [headW, wAnd]⟩, by simp [headW, wOr]⟩
  have h7 := at_end h5
  rw [h6] at h7
  subst h7
  dsimp only at h4
  have hp : rParse s = ⟨x, 0, 0⟩ := by
    unfold rParse
    rw [decide_eq_false (by omega), if_neg (by decide), h4]
    dsimp only
    rw [if_neg (by decide), decide_eq_false (by omega), if_neg (by decide), decide_eq_false (by omega), if_neg (by decide), decide_eq_false (by omega), if_neg (by decide)]
  have h8 := (parse_rel s).2 (by rw [hp])
  rw [hp] at h8
  exact h8.1
end Go.Ab
