/-
  One text of the proof (own work): contracts of functions of the program, by the abstract machine.
-/
import Derived.Test.YtapnigckcnknoaaGreatDoorX12
import Derived.Test.YtapnigckcnknoaaGreatDoorX17
import Derived.Test.YtapnigckcnknoaaGreatDoorX15
import Derived.Test.YtapnigckcnknoaaGreatDoorX14
import Derived.Test.YtapnigckcnknoaaGreatDoorX16
import Derived.Test.YtapnigckcnknoaaGreatDoorX11
set_option linter.unusedVariables false
set_option linter.unusedSimpArgs false
namespace Go.Ab
open Go Go.RowKit Go.Proofs Go.Shelf
set_option maxRecDepth 10000
set_option maxHeartbeats 8000000
abbrev Tk := Int × Bs
def eTk (p : Tk) : D := .agg [i64 p.1, .str p.2]
theorem runN_find (s : Bs) (nm : Bool) : runN s nm = match s.findIdx? (fun b => runQ nm b.toNat) with
    | some i => i
    | none => s.length := by
  unfold runN runI idx
  cases h : s.findIdx? (fun b => runQ nm b.toNat) with
  | none => rfl
  | some i =>
    have : decide ((i : Int) < 0) = false := decide_eq_false (by omega)
    simp only [this, Bool.false_eq_true, if_false, Int.toNat_natCast]
theorem runN_cons (c : UInt8) (r : Bs) (nm : Bool) : runN (c :: r) nm = if runQ nm c.toNat then 0 else runN r nm + 1 := by
  rw [runN_find, runN_find, List.findIdx?_cons]
  cases runQ nm c.toNat
  · simp only [Bool.false_eq_true, if_false]
    cases r.findIdx? (fun b => runQ nm b.toNat) <;> rfl
  · rfl
theorem next_pos {s : Bs} (hs : s ≠ []) (h : (nextB s).2 = 0) : 1 ≤ (nextB s).1.2.length ∧ (nextB s).1.2.length ≤ s.length := by
  obtain ⟨c, r, rfl⟩ := List.exists_cons_of_ne_nil hs
  have ht : ∀ nm, runN (c :: r) nm ≤ (c :: r).length := fun nm => (runN_eq _ nm).2
  have hp : ∀ nm, runQ nm c.toNat = false → 1 ≤ runN (c :: r) nm := fun nm h => by rw [runN_cons, h]; simp
  have hn := ht true
  have hf := ht false
  have hs6 : symB (c :: r) ≠ [] → 1 ≤ (symB (c :: r)).length ∧ (symB (c :: r)).length ≤ (c :: r).length := fun h6 => by
    refine ⟨List.length_pos_iff.2 h6, ?_⟩
    unfold symB
    split
    · rw [List.length_take]; omega
    · have hT : ∀ x : Bs, (symT x).length ≤ x.length := fun x => by
        cases x with
        | nil => exact Nat.le_refl _
        | cons a b =>
          rw [symT]
          split <;> simp
      exact hT _
  unfold nextB at h ⊢
  rw [show (c :: r).headD 0 = c from rfl] at h ⊢
  have hq1 : lettI (c.toNat : Int) = true → runQ true c.toNat = false := fun h => by unfold runQ; rw [h]; simp
  have hq2 : digI (c.toNat : Int) = true → runQ false c.toNat = false := fun h => by unfold runQ; rw [h]; simp
  generalize lettI (c.toNat : Int) = k1 at *
  generalize digI (c.toNat : Int) = k2 at *
  cases k1
  · simp only [Bool.false_eq_true, if_false] at h ⊢
    cases k2
    · simp only [Bool.false_eq_true, if_false] at h ⊢
      cases h5 : (symB (c :: r) == [])
      · rw [h5] at h
        simp only [Bool.false_eq_true, if_false] at h ⊢
        exact hs6 (by simpa using h5)
      · rw [h5] at h
        exact absurd (show (4 : Int) = 0 from h) (by decide)
    · have h1 := hp false (hq2 rfl)
      simp only [if_true] at h ⊢
      cases h3 : ((numE ((c :: r).take (runN (c :: r) false))).2 == 0)
      · rw [h3] at h
        simp only [Bool.false_eq_true, if_false] at h
        simp [h] at h3
      · rw [h3] at h
        simp only [if_true] at h ⊢
        cases h4 : (decide ((runN (c :: r) false : Int) < ((c :: r).length : Int)) && lettI ((c :: r).getD (runN (c :: r) false) 0).toNat)
        · simp only [Bool.false_eq_true, if_false]
          rw [List.length_take]
          omega
        · rw [h4] at h
          exact absurd (show (4 : Int) = 0 from h) (by decide)
  · have h1 := hp true (hq1 rfl)
    simp only [if_true] at h ⊢
    cases h2 : decide ((runN (c :: r) true : Int) > 32)
    · simp only [Bool.false_eq_true, if_false]
      rw [List.length_take]
      omega
    · rw [h2] at h
      exact absurd (show (2 : Int) = 0 from h) (by decide)
def toksF : Nat → List Tk → Bs → List Tk × Int
  | 0, acc, _ => (acc, 0)
  | _ + 1, acc, [] => (acc, 0)
  | f + 1, acc, c :: r => if c == 32 then toksF f acc r
    else if acc.length == 256 then ([], 10)
    else if (nextB (c :: r)).2 == 0 then toksF f (acc ++ [(nextB (c :: r)).1]) ((c :: r).drop (nextB (c :: r)).1.2.length)
    else ([], (nextB (c :: r)).2)
def toksB (s : Bs) : List Tk × Int := if decide ((s.length : Int) > 65536) then ([], 10) else toksF s.length [] s
theorem toksF_fuel : ∀ (f g : Nat) (acc : List Tk) (s : Bs), s.length ≤ f → s.length ≤ g → toksF f acc s = toksF g acc s
  | 0, 0, _, _, _, _ => rfl
  | 0, _ + 1, _, [], _, _ => rfl
  | _ + 1, 0, _, [], _, _ => rfl
  | _ + 1, _ + 1, _, [], _, _ => rfl
  | 0, _, _, _ :: _, h, _ => by simp at h
  | _, 0, _, _ :: _, _, h => by simp at h
  | f + 1, g + 1, acc, c :: r, h1, h2 => by
    simp only [List.length_cons] at h1 h2
    simp only [toksF]
    split
    · exact toksF_fuel f g acc r (by omega) (by omega)
    · split
      · rfl
      · split
        · rename_i h
          have := (next_pos (s := c :: r) (by simp) (by simpa using h)).1
          exact toksF_fuel f g _ _ (by rw [List.length_drop, List.length_cons]; omega) (by rw [List.length_drop, List.length_cons]; omega)
        · rfl
theorem toks_blank {acc : List Tk} {r : Bs} : toksF (32 :: r : Bs).length acc (32 :: r) = toksF r.length acc r := rfl
theorem toks_next {acc : List Tk} {c : UInt8} (r : Bs) (hc : (c == 32) = false) (ha : (acc.length == 256) = false) (hn : ((nextB (c :: r)).2 == 0) = true) :
    toksF (c :: r).length acc (c :: r) = toksF ((c :: r).drop (nextB (c :: r)).1.2.length).length (acc ++ [(nextB (c :: r)).1]) ((c :: r).drop (nextB (c :: r)).1.2.length) := by
  have := (next_pos (s := c :: r) (by simp) (by simpa using hn)).1
  rw [List.length_cons, toksF, hc, ha, hn]
  simp only [Bool.false_eq_true, if_false, if_true]
  exact toksF_fuel _ _ _ _ (by rw [List.length_drop, List.length_cons]; omega) (Nat.le_refl _)
def eTks (p : List Tk × Int) : D := .tup [.list (p.1.map eTk), i64 p.2]
noncomputable def g_toksP : List D → Option D := encSpec (fun x : Bs => [.str x]) (fun x : Bs => x.length ≤ 1099511627776) (fun x : Bs => eTks (toksB x))
theorem g_toksP_eq {s : Bs} (hd : s.length ≤ 1099511627776) : g_toksP [.str s] = some (eTks (toksB s)) := encSpec_eq (x := s) hd fun y hy => by
    simp only [List.cons.injEq, and_true, true_and, D.str.injEq, D.int.injEq, D.list.injEq, D.bool.injEq, D.agg.injEq, D.clo.injEq, Int.natCast_inj, inj_ie] at hy
    rw [hy]
theorem f_toksP_ok : PureOK Tryz.prog 34 false g_toksP := by
  have hΓ := Γp f_nextP_ok (Γn)
  refine pure_enc (n := 38) (rs := [.tmp 2, .tmp 3]) Tryz.func34 (by kernel_rfl) rfl (by kernel_rfl) (by kernel_rfl) ?_
  rintro s hd
  (try dsimp only at hd ⊢)
  refine ⟨fun h => (by cases h), fun k hz0 => ?_⟩
  unfold toksB
  rw [start_frame (by simp)]; simp only [enumV, go_sem, emptyH]
  repeat (first
    | (apply axJ; (focus ((with_reducible constructor) <;> rfl)))
    | (apply awT mixedOK hΓ (by kernel_rfl); (simp (disch := omega) only [go_sem, ↓reduceIte, dk, ↓lk, Int.reduceBEq, Int.reduceBNe, Bool.true_bne, Bool.false_bne, Bool.not_true, Bool.not_false] <;> with_reducible rfl))
    | ((first | apply awR hΓ | apply awG | apply awH mixedOK hΓ rfl (by kernel_rfl) | apply ovE rfl); (simp (disch := omega) only [go_sem, ↓reduceIte, dk, ↓lk, Int.reduceBEq, Int.reduceBNe, Bool.true_bne, Bool.false_bne, Bool.not_true, Bool.not_false] <;> with_reducible rfl); exact trivial)
    | rfl)
  refine awp_scopeD ?_
  by_cases hl : (s.length : Int) > 65536
  · have h1 : decide ((s.length : Int) > 65536) = true := decide_eq_true hl
    rw [h1]
    simp only [if_true]
    repeat (first
      | (apply axJ; (focus ((with_reducible constructor) <;> rfl)))
      | (apply awT mixedOK hΓ (by kernel_rfl); (simp (disch := omega) only [go_sem, ↓reduceIte, dk, ↓lk, Int.reduceBEq, Int.reduceBNe, Bool.true_bne, Bool.false_bne, Bool.not_true, Bool.not_false, h1] <;> with_reducible rfl))
      | ((first | apply awR hΓ | apply awG | apply awH mixedOK hΓ rfl (by kernel_rfl) | apply ovE rfl); (simp (disch := omega) only [go_sem, ↓reduceIte, dk, ↓lk, Int.reduceBEq, Int.reduceBNe, Bool.true_bne, Bool.false_bne, Bool.not_true, Bool.not_false, h1] <;> with_reducible rfl); exact trivial)
      | rfl)
    try rfl
  have h1 : decide ((s.length : Int) > 65536) = false := decide_eq_false hl
  rw [h1]
  simp only [Bool.false_eq_true, if_false]
  repeat (first
    | (apply axJ; (focus ((with_reducible constructor) <;> rfl)))
    | (apply awT mixedOK hΓ (by kernel_rfl); (simp (disch := omega) only [go_sem, ↓reduceIte, dk, ↓lk, Int.reduceBEq, Int.reduceBNe, Bool.true_bne, Bool.false_bne, Bool.not_true, Bool.not_false, h1] <;> with_reducible rfl))
    | ((first | apply awR hΓ | apply awG | apply awH mixedOK hΓ rfl (by kernel_rfl) | apply ovE rfl); (simp (disch := omega) only [go_sem, ↓reduceIte, dk, ↓lk, Int.reduceBEq, Int.reduceBNe, Bool.true_bne, Bool.false_bne, Bool.not_true, Bool.not_false, h1] <;> with_reducible rfl); exact trivial)
    | rfl)
  refine awp_weak (Weak.nilrowF (i := 4) 55 (sz := 2) (by omega) (by omega) rfl) ?_
  refine awp_loop_at (X := List Tk × Bs) (fun y => (frame 38 [(0, .data (.str y.2)), (4, .row 6 y.1.length)])) (fun y => [(6, .row 55 2 (y.1.map eTk))]) 7
    (fun y => toksF s.length [] s = toksF y.2.length y.1 y.2 ∧ y.2.length ≤ s.length ∧ y.1.length ≤ 256) (fun y => y.2.length) ([], s) ⟨rfl, Nat.le_refl _, Nat.zero_le _⟩ (Weak.v (by (simp [ConvF, lookV, Conv, ints, upd]; done)) (by (simp (disch := omega) only [TabSub, look, if_pos, if_neg, Obj.refsOK, refsOKs, AV.refsOK, decide_eq_true_eq, Bool.and_true, Bool.and_self, upd] ) <;> ((repeat' apply And.intro) <;> first | exact True.intro | omega | (simp; done) | rfl))) ?_
  rintro ⟨acc, r⟩ ⟨h2, h3, h4⟩
  dsimp only at h2 h3 h4 ⊢
  rw [h2]
  clear h2
  rcases hr : r with _ | ⟨c, t⟩
  · rw [show toksF ([] : Bs).length acc [] = (acc, 0) from rfl]
    repeat (first
      | (apply axJ; (focus ((with_reducible constructor) <;> rfl)))
      | (apply awT mixedOK hΓ (by kernel_rfl); (simp (disch := omega) only [go_sem, ↓reduceIte, dk, ↓lk, Int.reduceBEq, Int.reduceBNe, Bool.true_bne, Bool.false_bne, Bool.not_true, Bool.not_false] <;> with_reducible rfl))
      | ((first | apply awR hΓ | apply awG | apply awH mixedOK hΓ rfl (by kernel_rfl) | apply ovE rfl); (simp (disch := omega) only [go_sem, ↓reduceIte, dk, ↓lk, Int.reduceBEq, Int.reduceBNe, Bool.true_bne, Bool.false_bne, Bool.not_true, Bool.not_false] <;> with_reducible rfl); exact trivial)
      | rfl)
    try rfl
  subst hr
  have hne : (c :: t == ([] : Bs)) = false := rfl
  have hix : (c :: t)[Int.toNat 0]? = some c := rfl
  have hct : (c :: t).length = t.length + 1 := rfl
  have hb : (((c.toNat : Nat) : Int) == 32) = (c == 32) := byteEq c 32
  cases hc : (c == 32)
  case true =>
    rw [hc] at hb
    have hc2 : c = 32 := by simpa using hc
    rw [hc2, toks_blank]
    rw [hc2] at hb hne hix hct
    repeat (first
      | (apply axJ; (focus ((with_reducible constructor) <;> rfl)))
      | (apply awT mixedOK hΓ (by kernel_rfl); (simp (disch := omega) only [go_sem, ↓reduceIte, dk, ↓lk, Int.reduceBEq, Int.reduceBNe, Bool.true_bne, Bool.false_bne, Bool.not_true, Bool.not_false, hne, hix, hct, hb] <;> with_reducible rfl))
      | ((first | apply awR hΓ | apply awG | apply awH mixedOK hΓ rfl (by kernel_rfl) | apply ovE rfl); (simp (disch := omega) only [go_sem, ↓reduceIte, dk, ↓lk, Int.reduceBEq, Int.reduceBNe, Bool.true_bne, Bool.false_bne, Bool.not_true, Bool.not_false, hne, hix, hct, hb] <;> with_reducible rfl); exact trivial)
      | rfl)
    have hsl : List.take (t.length + 1 - Int.toNat 1) (List.drop (Int.toNat 1) ((32 :: t) : Bs)) = t := by simp
    exact ⟨(acc, t), ⟨rfl, by dsimp only; simp only [List.length_cons] at h3; omega, h4⟩, by dsimp only; simp, Weak.v (by (simp [ConvF, lookV, Conv, ints, hsl]; done)) (by (simp (disch := omega) only [TabSub, look, if_pos, if_neg, Obj.refsOK, refsOKs, AV.refsOK, decide_eq_true_eq, Bool.and_true, Bool.and_self, hsl] ) <;> ((repeat' apply And.intro) <;> first | exact True.intro | omega | (simp; done) | rfl))⟩
  rw [hc] at hb
  have e1 := g_nextP_eq (s := c :: t) ⟨by omega, by simp⟩
  cases ha : (acc.length == 256)
  case true =>
    have ha2 : (((acc.length : Nat) : Int) == 256) = true := by
      rw [beq_iff_eq] at ha ⊢
      omega
    have hv : toksF (c :: t).length acc (c :: t) = ([], 10) := by
      rw [List.length_cons, toksF, hc, ha]
      rfl
    rw [hv]
    repeat (first
      | (apply axJ; (focus ((with_reducible constructor) <;> rfl)))
      | (apply awT mixedOK hΓ (by kernel_rfl); (simp (disch := omega) only [go_sem, ↓reduceIte, dk, ↓lk, Int.reduceBEq, Int.reduceBNe, Bool.true_bne, Bool.false_bne, Bool.not_true, Bool.not_false, hne, hix, hct, hb, ha2] <;> with_reducible rfl))
      | ((first | apply awR hΓ | apply awG | apply awH mixedOK hΓ rfl (by kernel_rfl) | apply ovE rfl); (simp (disch := omega) only [go_sem, ↓reduceIte, dk, ↓lk, Int.reduceBEq, Int.reduceBNe, Bool.true_bne, Bool.false_bne, Bool.not_true, Bool.not_false, hne, hix, hct, hb, ha2] <;> with_reducible rfl); exact trivial)
      | rfl)
    try rfl
  have ha2 : (((acc.length : Nat) : Int) == 256) = false := by
    rw [beq_eq_false_iff_ne] at ha ⊢
    omega
  cases hn : ((nextB (c :: t)).2 == 0)
  · have hv : toksF (c :: t).length acc (c :: t) = ([], (nextB (c :: t)).2) := by
      rw [List.length_cons, toksF, hc, ha, hn]
      rfl
    rw [hv]
    generalize nextB (c :: t) = p at *
    obtain ⟨⟨p1, p2⟩, p3⟩ := p
    replace e1 : g_nextP [.str (c :: t)] = some (.tup [.agg [.int .i64 p1, .str p2], .int .i64 p3]) := e1
    have hn2 : (p3 != 0) = true := by simpa [bne] using hn
    repeat (first
      | (apply axJ; (focus ((with_reducible constructor) <;> rfl)))
      | (apply awT mixedOK hΓ (by kernel_rfl); (simp (disch := omega) only [go_sem, ↓reduceIte, dk, ↓lk, Int.reduceBEq, Int.reduceBNe, Bool.true_bne, Bool.false_bne, Bool.not_true, Bool.not_false, hne, hix, hct, hb, ha2, e1, hn2] <;> with_reducible rfl))
      | ((first | apply awR hΓ | apply awG | apply awH mixedOK hΓ rfl (by kernel_rfl) | apply ovE rfl); (simp (disch := omega) only [go_sem, ↓reduceIte, dk, ↓lk, Int.reduceBEq, Int.reduceBNe, Bool.true_bne, Bool.false_bne, Bool.not_true, Bool.not_false, hne, hix, hct, hb, ha2, e1, hn2] <;> with_reducible rfl); exact trivial)
      | rfl)
    try rfl
  · have hv := toks_next t hc ha hn
    obtain ⟨hp1, hp2⟩ := next_pos (s := c :: t) (by simp) (by simpa using hn)
    rw [hv]
    clear hv
    generalize nextB (c :: t) = p at *
    obtain ⟨⟨p1, p2⟩, p3⟩ := p
    replace e1 : g_nextP [.str (c :: t)] = some (.tup [.agg [.int .i64 p1, .str p2], .int .i64 p3]) := e1
    have hn2 : (p3 != 0) = false := by simpa [bne] using hn
    dsimp only at hp1 hp2 ⊢
    rw [hct] at hp2
    have htk : List.take (t.length + 1 - p2.length) (List.drop p2.length (c :: t)) = List.drop p2.length (c :: t) := List.take_of_length_le (by rw [List.length_drop, List.length_cons]; omega)
    have hdl : (List.drop p2.length (c :: t)).length = t.length + 1 - p2.length := by rw [List.length_drop, List.length_cons]
    repeat (first
      | (apply axJ; (focus ((with_reducible constructor) <;> rfl)))
      | (apply awT mixedOK hΓ (by kernel_rfl); (simp (disch := omega) only [go_sem, ↓reduceIte, dk, ↓lk, Int.reduceBEq, Int.reduceBNe, Bool.true_bne, Bool.false_bne, Bool.not_true, Bool.not_false, hne, hix, hct, hb, ha2, e1, hn2, htk] <;> with_reducible rfl))
      | ((first | apply awR hΓ | apply awG | apply awH mixedOK hΓ rfl (by kernel_rfl) | apply ovE rfl); (simp (disch := omega) only [go_sem, ↓reduceIte, dk, ↓lk, Int.reduceBEq, Int.reduceBNe, Bool.true_bne, Bool.false_bne, Bool.not_true, Bool.not_false, hne, hix, hct, hb, ha2, e1, hn2, htk] <;> with_reducible rfl); exact trivial)
      | rfl)
    refine ⟨(acc ++ [(p1, p2)], List.drop p2.length (c :: t)), ⟨rfl, by dsimp only; omega, ?_⟩, by dsimp only; rw [hdl]; simp only [List.length_cons]; omega, ?_⟩
    · dsimp only
      rw [beq_eq_false_iff_ne] at ha
      rw [List.length_append]
      simp only [List.length_cons, List.length_nil]
      omega
    · have hm : (acc ++ [((p1, p2) : Tk)]).map eTk = acc.map eTk ++ [.agg [i64 p1, .str p2]] := by rw [List.map_append]; rfl
      exact Weak.v (by (simp [ConvF, lookV, Conv, ints, hm]; done)) (by (simp (disch := omega) only [TabSub, look, if_pos, if_neg, Obj.refsOK, refsOKs, AV.refsOK, decide_eq_true_eq, Bool.and_true, Bool.and_self, hm] ) <;> ((repeat' apply And.intro) <;> first | exact True.intro | omega | (simp; done) | rfl))
end Go.Ab
namespace Go.Ab
open Go Go.RowKit Go.Proofs
set_option maxRecDepth 10000
set_option maxHeartbeats 16000000
theorem any_nx {α : Type} {p : α → Bool} {l : List α} {i : Nat} (hi : i < l.length) (hb : (l.take i).any p = false) (hp : p l[i] = false) : (l.take (i + 1)).any p = false := by
  rw [List.take_add_one, List.any_append, hb, List.getElem?_eq_getElem hi]
  simp [hp]
theorem pure_union {P : Program} {X : Type} {f : FuncId} {fl : Bool} {G : X → List D → Option D} {g : List D → Option D} (h : ∀ x, PureOK P f fl (G x)) (hg : ∀ ds d, g ds = some d → ∃ x, G x ds = some d) : PureOK P f fl g := fun ds d hd => by
  obtain ⟨x, hx⟩ := hg ds d hd
  exact h x ds d hx
abbrev Fl := Bs × Bs
def eFl (p : Fl) : D := .agg [.str p.1, .str p.2]
abbrev Sp := Bs × Int × Int
def eSp (s : Sp) : D := .agg [.str s.1, i64 s.2.1, i64 s.2.2]
structure Mc where
  name : Bs
  params : List Bs
  body : Sp
def eMc (m : Mc) : D := .agg [.str m.name, .list (m.params.map .str), .str m.body.1, i64 m.body.2.1, i64 m.body.2.2]
@[go_sem] theorem eFl_eq (p : Fl) : eFl p = .agg [.str p.1, .str p.2] := rfl
@[go_sem] theorem eSp_eq (s : Sp) : eSp s = .agg [.str s.1, i64 s.2.1, i64 s.2.2] := rfl
@[go_sem] theorem eMc_eq (m : Mc) : eMc m = .agg [.str m.name, .list (m.params.map .str), .str m.body.1, i64 m.body.2.1, i64 m.body.2.2] := rfl
@[go_sem] theorem eTk_eq (p : Tk) : eTk p = .agg [i64 p.1, .str p.2] := rfl
@[go_sem] theorem elemsOK_sp (l : List Sp) : elemsOK 3 (l.map eSp) = true := elemsOK_map (f := eSp) (fun _ => ⟨by rfl, by rfl⟩) l
@[go_sem] theorem elemsOK_tk (l : List Tk) : elemsOK 2 (l.map eTk) = true := elemsOK_map (f := eTk) (fun _ => ⟨by rfl, by rfl⟩) l
theorem eTk_inj (a b : Tk) (h : eTk a = eTk b) : a = b := by
  simp only [eTk, D.agg.injEq, List.cons.injEq, D.int.injEq, D.str.injEq, and_true, true_and] at h
  exact Prod.ext h.1 h.2
theorem eFl_inj (a b : Fl) (h : eFl a = eFl b) : a = b := by
  simp only [eFl, D.agg.injEq, List.cons.injEq, D.str.injEq, and_true] at h
  exact Prod.ext h.1 h.2
theorem eSp_inj (a b : Sp) (h : eSp a = eSp b) : a = b := by
  simp only [eSp, D.agg.injEq, List.cons.injEq, D.int.injEq, D.str.injEq, and_true, true_and] at h
  exact Prod.ext h.1 (Prod.ext h.2.1 h.2.2)
theorem eMc_inj (a b : Mc) (h : eMc a = eMc b) : a = b := by
  obtain ⟨a1, a2, a3, a4, a5⟩ := a
  obtain ⟨b1, b2, b3, b4, b5⟩ := b
  simp only [eMc, D.agg.injEq, List.cons.injEq, D.int.injEq, D.str.injEq, D.list.injEq, and_true, true_and] at h
  obtain ⟨rfl, h2, rfl, rfl, rfl⟩ := h
  have := (map_ie str_inj' _ _).mp h2
  subst this
  rfl
theorem eFl_e (a b : Fl) : (eFl a = eFl b) = (a = b) := propext ⟨eFl_inj a b, fun h => by rw [h]⟩
theorem eTk_e (a b : Tk) : (eTk a = eTk b) = (a = b) := propext ⟨eTk_inj a b, fun h => by rw [h]⟩
theorem eSp_e (a b : Sp) : (eSp a = eSp b) = (a = b) := propext ⟨eSp_inj a b, fun h => by rw [h]⟩
theorem eMc_e (a b : Mc) : (eMc a = eMc b) = (a = b) := propext ⟨eMc_inj a b, fun h => by rw [h]⟩
theorem eFl_ie (a b : List Fl) : (a.map eFl = b.map eFl) = (a = b) := map_ie eFl_inj a b
theorem eSp_ie (a b : List Sp) : (a.map eSp = b.map eSp) = (a = b) := map_ie eSp_inj a b
theorem eTk_ie (a b : List Tk) : (a.map eTk = b.map eTk) = (a = b) := map_ie eTk_inj a b
theorem eMc_ie (a b : List Mc) : (a.map eMc = b.map eMc) = (a = b) := map_ie eMc_inj a b
theorem f_idxFl_ok {dm : Fl → Prop} {f : FuncId} {g : List D → Option D} {caps : List D} {p : Fl → Bool} (hf : PureOK Tryz.prog f true g) (hp : ∀ x, dm x → g (eFl x :: caps) = some (.bool (p x))) : PureOK Tryz.prog 81 true (gIdxD eFl dm f caps p) := by
  have hΓ := Γc_ok hf
  refine pure_enc (n := 19) (rs := [.tmp 4]) Tryz.func81 (by kernel_rfl) rfl (by kernel_rfl) (by kernel_rfl) ?_
  rintro l ⟨hlen, hdm⟩
  refine ⟨fun _ => .int _ _, fun k hz0 => ?_⟩
  rw [start_frame (by simp)]; simp only [enumV, go_sem, emptyH]
  repeat (first
    | (apply axJ; (focus ((with_reducible constructor) <;> rfl)))
    | (apply awT mixedOK hΓ (by kernel_rfl); (simp (disch := omega) only [go_sem, ↓reduceIte, dk, ↓lk] <;> with_reducible rfl))
    | ((first | apply awR hΓ | apply awG | apply awH mixedOK hΓ rfl (by kernel_rfl) | apply ovE rfl); (simp (disch := omega) only [go_sem, ↓reduceIte, dk, ↓lk] <;> with_reducible rfl); exact trivial)
    | rfl)
  refine awp_loop_at (X := Nat) (fun i => (frame 19 [(0, .data (.list (l.map eFl))), (1, .data (.clo f caps)), (7, .data (i64 l.length)), (8, .data (i64 i))])) (fun _ => []) 9
    (fun i => i ≤ l.length ∧ (l.take i).any p = false) (fun i => l.length - i) 0 ⟨Nat.zero_le _, rfl⟩ (Weak.w) ?_
  rintro i ⟨hi, hpre⟩
  by_cases hi' : i < l.length
  · have hp' := hp _ (hdm _ (List.getElem_mem hi'))
    have hat := fun h => idx_at (p := p) hi' h hpre
    have hnx := fun h => any_nx (p := p) hi' hpre h
    try simp only [go_sem] at hp'
    generalize hy : l[i] = y at *
    generalize p y = c at *
    cases c
    · repeat (first
      | (apply axJ; (focus ((with_reducible constructor) <;> rfl)))
      | (apply awT mixedOK hΓ (by kernel_rfl); (simp (disch := omega) only [go_sem, ↓reduceIte, dk, ↓lk, Γc, hp', hy, freeze_data] <;> with_reducible rfl))
      | ((first | apply awR hΓ | apply awG | apply awH mixedOK hΓ rfl (by kernel_rfl) | apply ovE rfl); (simp (disch := omega) only [go_sem, ↓reduceIte, dk, ↓lk, Γc, hp', hy, freeze_data] <;> with_reducible rfl); exact trivial)
      | rfl)
      exact ⟨i + 1, ⟨by omega, hnx rfl⟩, by omega, Weak.w⟩
    · rw [hat rfl]
      repeat (first
        | (apply axJ; (focus ((with_reducible constructor) <;> rfl)))
        | (apply awT mixedOK hΓ (by kernel_rfl); (simp (disch := omega) only [go_sem, ↓reduceIte, dk, ↓lk, Γc, hp', hy, freeze_data] <;> with_reducible rfl))
        | ((first | apply awR hΓ | apply awG | apply awH mixedOK hΓ rfl (by kernel_rfl) | apply ovE rfl); (simp (disch := omega) only [go_sem, ↓reduceIte, dk, ↓lk, Γc, hp', hy, freeze_data] <;> with_reducible rfl); exact trivial)
        | rfl)
      try rfl
  · have hi3 : i = l.length := by omega
    subst hi3
    rw [List.take_length] at hpre
    rw [idx_none hpre]
    repeat (first
      | (apply axJ; (focus ((with_reducible constructor) <;> rfl)))
      | (apply awT mixedOK hΓ (by kernel_rfl); (simp (disch := omega) only [go_sem, ↓reduceIte, dk, ↓lk] <;> with_reducible rfl))
      | ((first | apply awR hΓ | apply awG | apply awH mixedOK hΓ rfl (by kernel_rfl) | apply ovE rfl); (simp (disch := omega) only [go_sem, ↓reduceIte, dk, ↓lk] <;> with_reducible rfl); exact trivial)
      | rfl)
    try rfl
theorem f_idxMc_ok {dm : Mc → Prop} {f : FuncId} {g : List D → Option D} {caps : List D} {p : Mc → Bool} (hf : PureOK Tryz.prog f true g) (hp : ∀ x, dm x → g (eMc x :: caps) = some (.bool (p x))) : PureOK Tryz.prog 49 true (gIdxD eMc dm f caps p) := by
  have hΓ := Γc_ok hf
  refine pure_enc (n := 19) (rs := [.tmp 4]) Tryz.func49 (by kernel_rfl) rfl (by kernel_rfl) (by kernel_rfl) ?_
  rintro l ⟨hlen, hdm⟩
  refine ⟨fun _ => .int _ _, fun k hz0 => ?_⟩
  rw [start_frame (by simp)]; simp only [enumV, go_sem, emptyH]
  repeat (first
    | (apply axJ; (focus ((with_reducible constructor) <;> rfl)))
    | (apply awT mixedOK hΓ (by kernel_rfl); (simp (disch := omega) only [go_sem, ↓reduceIte, dk, ↓lk] <;> with_reducible rfl))
    | ((first | apply awR hΓ | apply awG | apply awH mixedOK hΓ rfl (by kernel_rfl) | apply ovE rfl); (simp (disch := omega) only [go_sem, ↓reduceIte, dk, ↓lk] <;> with_reducible rfl); exact trivial)
    | rfl)
  refine awp_loop_at (X := Nat) (fun i => (frame 19 [(0, .data (.list (l.map eMc))), (1, .data (.clo f caps)), (7, .data (i64 l.length)), (8, .data (i64 i))])) (fun _ => []) 9
    (fun i => i ≤ l.length ∧ (l.take i).any p = false) (fun i => l.length - i) 0 ⟨Nat.zero_le _, rfl⟩ (Weak.w) ?_
  rintro i ⟨hi, hpre⟩
  by_cases hi' : i < l.length
  · have hp' := hp _ (hdm _ (List.getElem_mem hi'))
    have hat := fun h => idx_at (p := p) hi' h hpre
    have hnx := fun h => any_nx (p := p) hi' hpre h
    try simp only [go_sem] at hp'
    generalize hy : l[i] = y at *
    generalize p y = c at *
    cases c
    · repeat (first
      | (apply axJ; (focus ((with_reducible constructor) <;> rfl)))
      | (apply awT mixedOK hΓ (by kernel_rfl); (simp (disch := omega) only [go_sem, ↓reduceIte, dk, ↓lk, Γc, hp', hy, freeze_data] <;> with_reducible rfl))
      | ((first | apply awR hΓ | apply awG | apply awH mixedOK hΓ rfl (by kernel_rfl) | apply ovE rfl); (simp (disch := omega) only [go_sem, ↓reduceIte, dk, ↓lk, Γc, hp', hy, freeze_data] <;> with_reducible rfl); exact trivial)
      | rfl)
      exact ⟨i + 1, ⟨by omega, hnx rfl⟩, by omega, Weak.w⟩
    · rw [hat rfl]
      repeat (first
        | (apply axJ; (focus ((with_reducible constructor) <;> rfl)))
        | (apply awT mixedOK hΓ (by kernel_rfl); (simp (disch := omega) only [go_sem, ↓reduceIte, dk, ↓lk, Γc, hp', hy, freeze_data] <;> with_reducible rfl))
        | ((first | apply awR hΓ | apply awG | apply awH mixedOK hΓ rfl (by kernel_rfl) | apply ovE rfl); (simp (disch := omega) only [go_sem, ↓reduceIte, dk, ↓lk, Γc, hp', hy, freeze_data] <;> with_reducible rfl); exact trivial)
        | rfl)
      try rfl
  · have hi3 : i = l.length := by omega
    subst hi3
    rw [List.take_length] at hpre
    rw [idx_none hpre]
    repeat (first
      | (apply axJ; (focus ((with_reducible constructor) <;> rfl)))
      | (apply awT mixedOK hΓ (by kernel_rfl); (simp (disch := omega) only [go_sem, ↓reduceIte, dk, ↓lk] <;> with_reducible rfl))
      | ((first | apply awR hΓ | apply awG | apply awH mixedOK hΓ rfl (by kernel_rfl) | apply ovE rfl); (simp (disch := omega) only [go_sem, ↓reduceIte, dk, ↓lk] <;> with_reducible rfl); exact trivial)
      | rfl)
    try rfl
theorem f_anyMc_ok {dm : Mc → Prop} {f : FuncId} {g : List D → Option D} {caps : List D} {p : Mc → Bool} (hf : PureOK Tryz.prog f true g) (hp : ∀ x, dm x → g (eMc x :: caps) = some (.bool (p x))) : PureOK Tryz.prog 25 true (gAnyD eMc dm f caps p) := by
  have hΓ := Γc_ok (f_idxMc_ok (dm := dm) hf hp)
  refine pure_enc (n := 9) (rs := [.tmp 4]) Tryz.func25 (by kernel_rfl) rfl (by kernel_rfl) (by kernel_rfl) ?_
  rintro l ⟨hlen, hdm⟩
  refine ⟨fun _ => .bool _, fun k hz0 => ?_⟩
  have hi := gIdxD_eq (e := eMc) (dm := dm) eMc_inj (f := f) (caps := caps) (p := p) hlen hdm
  have hn := idx_nonneg p l
  generalize idx p l = n at *
  rw [← hn]
  rw [start_frame (by simp)]; simp only [enumV, go_sem, emptyH]
  generalize hc : decide (n ≥ 0) = c
  cases c
  · repeat (first
    | (apply axJ; (focus ((with_reducible constructor) <;> rfl)))
    | (apply awT mixedOK hΓ (by kernel_rfl); (simp (disch := omega) only [go_sem, ↓reduceIte, dk, ↓lk, Γc, hi, hc] <;> with_reducible rfl))
    | ((first | apply awR hΓ | apply awG | apply awH mixedOK hΓ rfl (by kernel_rfl) | apply ovE rfl); (simp (disch := omega) only [go_sem, ↓reduceIte, dk, ↓lk, Γc, hi, hc] <;> with_reducible rfl); exact trivial)
    | rfl)
    try rfl
  · repeat (first
    | (apply axJ; (focus ((with_reducible constructor) <;> rfl)))
    | (apply awT mixedOK hΓ (by kernel_rfl); (simp (disch := omega) only [go_sem, ↓reduceIte, dk, ↓lk, Γc, hi, hc] <;> with_reducible rfl))
    | ((first | apply awR hΓ | apply awG | apply awH mixedOK hΓ rfl (by kernel_rfl) | apply ovE rfl); (simp (disch := omega) only [go_sem, ↓reduceIte, dk, ↓lk, Γc, hi, hc] <;> with_reducible rfl); exact trivial)
    | rfl)
    try rfl
theorem f_idxSp_ok {dm : Sp → Prop} {f : FuncId} {g : List D → Option D} {caps : List D} {p : Sp → Bool} (hf : PureOK Tryz.prog f true g) (hp : ∀ x, dm x → g (eSp x :: caps) = some (.bool (p x))) : PureOK Tryz.prog 99 true (gIdxD eSp dm f caps p) := by
  have hΓ := Γc_ok hf
  refine pure_enc (n := 19) (rs := [.tmp 4]) Tryz.func99 (by kernel_rfl) rfl (by kernel_rfl) (by kernel_rfl) ?_
  rintro l ⟨hlen, hdm⟩
  refine ⟨fun _ => .int _ _, fun k hz0 => ?_⟩
  rw [start_frame (by simp)]; simp only [enumV, go_sem, emptyH]
  repeat (first
    | (apply axJ; (focus ((with_reducible constructor) <;> rfl)))
    | (apply awT mixedOK hΓ (by kernel_rfl); (simp (disch := omega) only [go_sem, ↓reduceIte, dk, ↓lk] <;> with_reducible rfl))
    | ((first | apply awR hΓ | apply awG | apply awH mixedOK hΓ rfl (by kernel_rfl) | apply ovE rfl); (simp (disch := omega) only [go_sem, ↓reduceIte, dk, ↓lk] <;> with_reducible rfl); exact trivial)
    | rfl)
  refine awp_loop_at (X := Nat) (fun i => (frame 19 [(0, .data (.list (l.map eSp))), (1, .data (.clo f caps)), (7, .data (i64 l.length)), (8, .data (i64 i))])) (fun _ => []) 9
    (fun i => i ≤ l.length ∧ (l.take i).any p = false) (fun i => l.length - i) 0 ⟨Nat.zero_le _, rfl⟩ (Weak.w) ?_
  rintro i ⟨hi, hpre⟩
  by_cases hi' : i < l.length
  · have hp' := hp _ (hdm _ (List.getElem_mem hi'))
    have hat := fun h => idx_at (p := p) hi' h hpre
    have hnx := fun h => any_nx (p := p) hi' hpre h
    try simp only [go_sem] at hp'
    generalize hy : l[i] = y at *
    generalize p y = c at *
    cases c
    · repeat (first
      | (apply axJ; (focus ((with_reducible constructor) <;> rfl)))
      | (apply awT mixedOK hΓ (by kernel_rfl); (simp (disch := omega) only [go_sem, ↓reduceIte, dk, ↓lk, Γc, hp', hy, freeze_data] <;> with_reducible rfl))
      | ((first | apply awR hΓ | apply awG | apply awH mixedOK hΓ rfl (by kernel_rfl) | apply ovE rfl); (simp (disch := omega) only [go_sem, ↓reduceIte, dk, ↓lk, Γc, hp', hy, freeze_data] <;> with_reducible rfl); exact trivial)
      | rfl)
      exact ⟨i + 1, ⟨by omega, hnx rfl⟩, by omega, Weak.w⟩
    · rw [hat rfl]
      repeat (first
        | (apply axJ; (focus ((with_reducible constructor) <;> rfl)))
        | (apply awT mixedOK hΓ (by kernel_rfl); (simp (disch := omega) only [go_sem, ↓reduceIte, dk, ↓lk, Γc, hp', hy, freeze_data] <;> with_reducible rfl))
        | ((first | apply awR hΓ | apply awG | apply awH mixedOK hΓ rfl (by kernel_rfl) | apply ovE rfl); (simp (disch := omega) only [go_sem, ↓reduceIte, dk, ↓lk, Γc, hp', hy, freeze_data] <;> with_reducible rfl); exact trivial)
        | rfl)
      try rfl
  · have hi3 : i = l.length := by omega
    subst hi3
    rw [List.take_length] at hpre
    rw [idx_none hpre]
    repeat (first
      | (apply axJ; (focus ((with_reducible constructor) <;> rfl)))
      | (apply awT mixedOK hΓ (by kernel_rfl); (simp (disch := omega) only [go_sem, ↓reduceIte, dk, ↓lk] <;> with_reducible rfl))
      | ((first | apply awR hΓ | apply awG | apply awH mixedOK hΓ rfl (by kernel_rfl) | apply ovE rfl); (simp (disch := omega) only [go_sem, ↓reduceIte, dk, ↓lk] <;> with_reducible rfl); exact trivial)
      | rfl)
    try rfl
noncomputable def g_tidxC : List D → Option D := encSpec (fun x : Fl × Bs => [eFl x.1, .ref [.str x.2]]) (fun x : Fl × Bs => True) (fun x : Fl × Bs => .bool (x.1.1 == x.2))
theorem g_tidxC_eq {f : Fl} {p : Bs} (hd : True) : g_tidxC [eFl f, .ref [.str p]] = some (.bool (f.1 == p)) := encSpec_eq (x := (f, p)) hd fun y hy => by
    obtain ⟨y0, y1⟩ := y; simp only [List.cons.injEq, and_true, true_and, D.str.injEq, D.int.injEq, D.list.injEq, D.bool.injEq, D.agg.injEq, D.clo.injEq, Int.natCast_inj, inj_ie, D.ref.injEq, eFl_ie, eFl_e, eTk_e, eSp_e, eMc_e] at hy
    (try obtain ⟨rfl, rfl⟩ := hy)
    (try subst_vars)
    rfl
theorem f_tidxC_ok : PureOK Tryz.prog 82 true g_tidxC := by
  have hΓ := Γ0_ok
  refine pure_enc (n := 8) (rs := [.tmp 3]) Tryz.func82 (by kernel_rfl) rfl (by kernel_rfl) (by kernel_rfl) ?_
  rintro ⟨f, p⟩ hd
  (try dsimp only at hd ⊢)
  refine ⟨fun _ => by (repeat (first | exact .int _ _ | exact .bool _ | exact .str _ | (refine .tup _ (fun d hd => ?_); simp only [List.mem_cons, List.not_mem_nil, or_false] at hd; rcases hd with rfl | hd))), fun k hz0 => ?_⟩
  unfold eFl
  generalize hc : (f.1 == p) = c
  rw [start_frame (by simp)]; simp only [enumV, go_sem, emptyH]
  repeat (first
    | (apply axJ; (focus ((with_reducible constructor) <;> rfl)))
    | (apply awT mixedOK hΓ (by kernel_rfl); (simp (disch := omega) only [go_sem, ↓reduceIte, dk, ↓lk, Int.reduceBEq, Int.reduceBNe, Bool.true_bne, Bool.false_bne, Bool.not_true, Bool.not_false, hc] <;> with_reducible rfl))
    | ((first | apply awR hΓ | apply awG | apply awH mixedOK hΓ rfl (by kernel_rfl) | apply ovE rfl); (simp (disch := omega) only [go_sem, ↓reduceIte, dk, ↓lk, Int.reduceBEq, Int.reduceBNe, Bool.true_bne, Bool.false_bne, Bool.not_true, Bool.not_false, hc] <;> with_reducible rfl); exact trivial)
    | rfl)
  try rfl
noncomputable def g_tix : List D → Option D := encSpec (fun y : List Fl × Bs => [.list (y.1.map eFl), .clo 82 [.ref [.str y.2]]]) (fun y => y.1.length ≤ 1099511627776) (fun y => i64 (idx (fun f : Fl => f.1 == y.2) y.1))
theorem f_tix_ok : PureOK Tryz.prog 81 true g_tix := by
  refine pure_union (X := Bs) (G := fun p => gIdxD eFl (fun _ => True) 82 [.ref [.str p]] (fun f => f.1 == p)) (fun p => f_idxFl_ok f_tidxC_ok fun y _ => g_tidxC_eq (f := y) (p := p) trivial) fun ds d hd => ?_
  obtain ⟨⟨l, p⟩, rfl, h1, rfl⟩ := encSpec_some hd
  exact ⟨p, gIdxD_eq eFl_inj h1 (fun _ _ => trivial)⟩
theorem g_tix_eq {l : List Fl} {p : Bs} (h1 : l.length ≤ 1099511627776) : g_tix [.list (l.map eFl), .clo 82 [.ref [.str p]]] = some (.int .i64 (idx (fun f : Fl => f.1 == p) l)) := encSpec_eq (x := (l, p)) h1 fun y hy => by
  obtain ⟨y1, y2⟩ := y
  simp only [List.cons.injEq, and_true, D.list.injEq, D.clo.injEq, D.ref.injEq, D.str.injEq, true_and, eFl_ie] at hy
  obtain ⟨rfl, rfl⟩ := hy
  rfl
noncomputable def g_tindex : List D → Option D := encSpec (fun x : (List Fl) × Bs => [.list (x.1.map eFl), .str x.2]) (fun x : (List Fl) × Bs => x.1.length ≤ 1099511627776) (fun x : (List Fl) × Bs => i64 (idx (fun f : Fl => f.1 == x.2) x.1))
theorem g_tindex_eq {l : List Fl} {q : Bs} (hd : l.length ≤ 1099511627776) : g_tindex [.list (l.map eFl), .str q] = some (i64 (idx (fun f : Fl => f.1 == q) l)) := encSpec_eq (x := (l, q)) hd fun y hy => by
    obtain ⟨y0, y1⟩ := y; simp only [List.cons.injEq, and_true, true_and, D.str.injEq, D.int.injEq, D.list.injEq, D.bool.injEq, D.agg.injEq, D.clo.injEq, Int.natCast_inj, inj_ie, D.ref.injEq, eFl_ie, eFl_e, eTk_e, eSp_e, eMc_e] at hy
    (try obtain ⟨rfl, rfl⟩ := hy)
    (try subst_vars)
    rfl
theorem f_tindex_ok : PureOK Tryz.prog 54 true g_tindex := by
  have hΓ := Γp f_tix_ok (Γn)
  refine pure_enc (n := 8) (rs := [.tmp 4]) Tryz.func54 (by kernel_rfl) rfl (by kernel_rfl) (by kernel_rfl) ?_
  rintro ⟨l, q⟩ hd
  (try dsimp only at hd ⊢)
  refine ⟨fun _ => by (repeat (first | exact .int _ _ | exact .bool _ | exact .str _ | (refine .tup _ (fun d hd => ?_); simp only [List.mem_cons, List.not_mem_nil, or_false] at hd; rcases hd with rfl | hd))), fun k hz0 => ?_⟩
  have e1 := g_tix_eq (l := l) (p := q) hd
  rw [start_frame (by simp)]; simp only [enumV, go_sem, emptyH]
  repeat (first
    | (apply axJ; (focus ((with_reducible constructor) <;> rfl)))
    | (apply awT mixedOK hΓ (by kernel_rfl); (simp (disch := omega) only [go_sem, ↓reduceIte, dk, ↓lk, e1] <;> with_reducible rfl))
    | ((first | apply awR hΓ | apply awG | apply awH mixedOK hΓ rfl (by kernel_rfl) | apply ovE rfl); (simp (disch := omega) only [go_sem, ↓reduceIte, dk, ↓lk, e1] <;> with_reducible rfl); exact trivial)
    | rfl)
  try rfl
def findF (l : List Fl) (p : Bs) : Bs × Bool := match l.find? (fun f => f.1 == p) with
  | some f => (f.2, true)
  | none => ([], false)
theorem find_idx (l : List Fl) (p : Bs) : (idx (fun f : Fl => f.1 == p) l = -1 ∧ findF l p = ([], false)) ∨ ∃ i : Nat, ∃ h : i < l.length, idx (fun f : Fl => f.1 == p) l = (i : Int) ∧ findF l p = ((l[i]).2, true) := by
  unfold idx findF
  rw [List.find?_eq_bind_findIdx?_getElem?]
  cases h : l.findIdx? (fun f : Fl => f.1 == p) with
  | none => exact .inl ⟨rfl, rfl⟩
  | some i =>
    have hi := (List.findIdx?_eq_some_iff_getElem.1 h).1
    refine .inr ⟨i, hi, rfl, ?_⟩
    simp [List.getElem?_eq_getElem hi]
noncomputable def g_tfind : List D → Option D := encSpec (fun x : (List Fl) × Bs => [.list (x.1.map eFl), .str x.2]) (fun x : (List Fl) × Bs => x.1.length ≤ 1099511627776) (fun x : (List Fl) × Bs => .tup [.str (findF x.1 x.2).1, .bool (findF x.1 x.2).2])
theorem g_tfind_eq {l : List Fl} {q : Bs} (hd : l.length ≤ 1099511627776) : g_tfind [.list (l.map eFl), .str q] = some (.tup [.str (findF l q).1, .bool (findF l q).2]) := encSpec_eq (x := (l, q)) hd fun y hy => by
    obtain ⟨y0, y1⟩ := y; simp only [List.cons.injEq, and_true, true_and, D.str.injEq, D.int.injEq, D.list.injEq, D.bool.injEq, D.agg.injEq, D.clo.injEq, Int.natCast_inj, inj_ie, D.ref.injEq, eFl_ie, eFl_e, eTk_e, eSp_e, eMc_e] at hy
    (try obtain ⟨rfl, rfl⟩ := hy)
    (try subst_vars)
    rfl
theorem f_tfind_ok : PureOK Tryz.prog 32 true g_tfind := by
  have hΓ := Γp f_tindex_ok (Γn)
  refine pure_enc (n := 17) (rs := [.tmp 4, .tmp 5]) Tryz.func32 (by kernel_rfl) rfl (by kernel_rfl) (by kernel_rfl) ?_
  rintro ⟨l, q⟩ hd
  (try dsimp only at hd ⊢)
  refine ⟨fun _ => by (refine .tup _ (fun d hd => ?_); simp only [List.mem_cons, List.not_mem_nil, or_false] at hd; repeat (first | exact .int _ _ | exact .bool _ | exact .str _ | (rcases hd with rfl | hd) | subst hd | (refine .agg _ (fun d hd => ?_); simp only [List.mem_cons, List.not_mem_nil, or_false] at hd))), fun k hz0 => ?_⟩
  have e1 := g_tindex_eq (l := l) (q := q) hd
  rw [start_frame (by simp)]; simp only [enumV, go_sem, emptyH]
  rcases find_idx l q with ⟨h1, h2⟩ | ⟨i, hi, h1, h2⟩
  · rw [h2]
    rw [h1] at e1
    have hg : decide ((-1 : Int) ≥ 0) = false := rfl
    repeat (first
      | (apply axJ; (focus ((with_reducible constructor) <;> rfl)))
      | (apply awT mixedOK hΓ (by kernel_rfl); (simp (disch := omega) only [go_sem, ↓reduceIte, dk, ↓lk, e1, hg] <;> with_reducible rfl))
      | ((first | apply awR hΓ | apply awG | apply awH mixedOK hΓ rfl (by kernel_rfl) | apply ovE rfl); (simp (disch := omega) only [go_sem, ↓reduceIte, dk, ↓lk, e1, hg] <;> with_reducible rfl); exact trivial)
      | rfl)
    try rfl
  · rw [h2]
    rw [h1] at e1
    generalize hy : l[i] = y at *
    have hg : decide ((i : Int) ≥ 0) = true := decide_eq_true (by omega)
    unfold eFl at *
    repeat (first
      | (apply axJ; (focus ((with_reducible constructor) <;> rfl)))
      | (apply awT mixedOK hΓ (by kernel_rfl); (simp (disch := omega) only [go_sem, ↓reduceIte, dk, ↓lk, e1, hg, hy] <;> with_reducible rfl))
      | ((first | apply awR hΓ | apply awG | apply awH mixedOK hΓ rfl (by kernel_rfl) | apply ovE rfl); (simp (disch := omega) only [go_sem, ↓reduceIte, dk, ↓lk, e1, hg, hy] <;> with_reducible rfl); exact trivial)
      | rfl)
    try rfl
end Go.Ab
namespace Go.Ab
open Go Go.RowKit Go.Proofs
set_option maxRecDepth 10000
set_option maxHeartbeats 16000000
def printE (l : List Tk) : Bs × Int := if decide ((l.length : Int) > 256) then ([], 10) else if l.all (fun t => validB t.1 t.2) then (Lib.join (l.map Prod.snd) [32], 0) else ([], 1)
theorem join_max (m : Nat) : ∀ l : List Bs, (∀ s ∈ l, s.length ≤ m) → (Lib.join l [32]).length ≤ l.length * (m + 1)
  | [], _ => Nat.zero_le _
  | [x], h => by
    have := h x (by simp)
    simp [Lib.join]
    omega
  | x :: y :: r, h => by
    have h1 := h x (by simp)
    have h2 := join_max m (y :: r) (fun s hs => h s (by simp [hs]))
    have e : Lib.join (x :: y :: r) [32] = x ++ [32] ++ Lib.join (y :: r) [32] := by simp [Lib.join]
    rw [e, List.length_append, List.length_append, List.length_cons (a := x), Nat.succ_mul]
    simp only [List.length_cons, List.length_nil] at *
    omega
theorem all_take {α : Type} {p : α → Bool} {l : List α} {i : Nat} (hi : i < l.length) (hb : (l.take i).all p = true) (hp : p l[i] = true) : (l.take (i + 1)).all p = true := by
  rw [List.take_add_one, List.all_append, hb, List.getElem?_eq_getElem hi]
  simp [hp]
theorem all_at {α : Type} {p : α → Bool} {l : List α} {i : Nat} (hi : i < l.length) (hp : p l[i] = false) : l.all p = false := by
  rw [List.all_eq_false]
  exact ⟨l[i], List.getElem_mem hi, by rw [hp]; simp⟩
noncomputable def g_tprint : List D → Option D := encSpec (fun x : (List Tk) => [.list (x.map eTk)]) (fun x : (List Tk) => x.length ≤ 1099511627776 ∧ ∀ t ∈ x, t.2.length ≤ 1000000000) (fun x : (List Tk) => .tup [.str (printE x).1, i64 (printE x).2])
theorem g_tprint_eq {l : List Tk} (hd : l.length ≤ 1099511627776 ∧ ∀ t ∈ l, t.2.length ≤ 1000000000) : g_tprint [.list (l.map eTk)] = some (.tup [.str (printE l).1, i64 (printE l).2]) := encSpec_eq (x := l) hd fun y hy => by
    simp only [List.cons.injEq, and_true, true_and, D.str.injEq, D.int.injEq, D.list.injEq, D.bool.injEq, D.agg.injEq, D.clo.injEq, Int.natCast_inj, inj_ie, D.ref.injEq, eTk_ie, eTk_e] at hy
    rw [hy]
theorem f_tprint_ok : PureOK Tryz.prog 39 true g_tprint := by
  have hΓ := Γp f_validP_ok (Γp f_join_ok (Γn))
  refine pure_enc (n := 27) (rs := [.tmp 2, .tmp 3]) Tryz.func39 (by kernel_rfl) rfl (by kernel_rfl) (by kernel_rfl) ?_
  rintro l hd
  (try dsimp only at hd ⊢)
  refine ⟨fun _ => by (refine .tup _ (fun d hd => ?_); simp only [List.mem_cons, List.not_mem_nil, or_false] at hd; repeat (first | exact .int _ _ | exact .bool _ | exact .str _ | (rcases hd with rfl | hd) | subst hd | (refine .agg _ (fun d hd => ?_); simp only [List.mem_cons, List.not_mem_nil, or_false] at hd))), fun k hz0 => ?_⟩
  obtain ⟨d1, d2⟩ := hd
  unfold printE
  rw [start_frame (by simp)]; simp only [enumV, go_sem, emptyH]
  by_cases hl : (l.length : Int) > 256
  · have h1 : decide ((l.length : Int) > 256) = true := decide_eq_true hl
    rw [h1]
    simp only [if_true]
    repeat (first
      | (apply axJ; (focus ((with_reducible constructor) <;> rfl)))
      | (apply awT mixedOK hΓ (by kernel_rfl); (simp (disch := omega) only [go_sem, ↓reduceIte, dk, ↓lk, Int.reduceBEq, Int.reduceBNe, Bool.true_bne, Bool.false_bne, Bool.not_true, Bool.not_false, h1] <;> with_reducible rfl))
      | ((first | apply awR hΓ | apply awG | apply awH mixedOK hΓ rfl (by kernel_rfl) | apply ovE rfl); (simp (disch := omega) only [go_sem, ↓reduceIte, dk, ↓lk, Int.reduceBEq, Int.reduceBNe, Bool.true_bne, Bool.false_bne, Bool.not_true, Bool.not_false, h1] <;> with_reducible rfl); exact trivial)
      | rfl)
    try rfl
  have h1 : decide ((l.length : Int) > 256) = false := decide_eq_false hl
  rw [h1]
  simp only [Bool.false_eq_true, if_false]
  repeat (first
    | (apply axJ; (focus ((with_reducible constructor) <;> rfl)))
    | (apply awT mixedOK hΓ (by kernel_rfl); (simp (disch := omega) only [go_sem, ↓reduceIte, dk, ↓lk, Int.reduceBEq, Int.reduceBNe, Bool.true_bne, Bool.false_bne, Bool.not_true, Bool.not_false, h1] <;> with_reducible rfl))
    | ((first | apply awR hΓ | apply awG | apply awH mixedOK hΓ rfl (by kernel_rfl) | apply ovE rfl); (simp (disch := omega) only [go_sem, ↓reduceIte, dk, ↓lk, Int.reduceBEq, Int.reduceBNe, Bool.true_bne, Bool.false_bne, Bool.not_true, Bool.not_false, h1] <;> with_reducible rfl); exact trivial)
    | rfl)
  refine awp_weak (Weak.nilrowF (i := 4) 9 (sz := 1) (by omega) (by omega) rfl) ?_
  refine awp_loop_at (X := Nat) (fun i => (frame 27 [(4, .row 9 i), (10, .data (.list (l.map eTk))), (11, .data (i64 l.length)), (12, .data (i64 i))])) (fun i => [(9, .row 9 1 (((l.map Prod.snd).take i).map .str))]) 10
    (fun i => i ≤ l.length ∧ (l.take i).all (fun t => validB t.1 t.2) = true) (fun i => l.length - i) 0 ⟨Nat.zero_le _, rfl⟩ (Weak.v (by (simp [ConvF, lookV, Conv, ints, upd]; done)) (by (simp (disch := omega) only [TabSub, look, if_pos, if_neg, Obj.refsOK, refsOKs, AV.refsOK, decide_eq_true_eq, Bool.and_true, Bool.and_self, upd] ) <;> ((repeat' apply And.intro) <;> first | exact True.intro | omega | (simp; done) | rfl))) ?_
  rintro i ⟨hi, hpre⟩
  (try dsimp only at hi hpre ⊢)
  by_cases hi2 : i < l.length
  · have hdy := d2 l[i] (List.getElem_mem hi2)
    have ev := g_validP_eq (kd := (l[i]).1) (s := (l[i]).2) (by omega)
    have hat := @all_at _ (fun t : Tk => validB t.1 t.2) l i hi2
    have htk := @all_take _ (fun t : Tk => validB t.1 t.2) l i hi2 hpre
    have hst : (((l.map Prod.snd).take (i + 1)).map D.str) = ((l.map Prod.snd).take i).map D.str ++ [.str (l[i]).2] := by
      rw [List.take_add_one, List.getElem?_map, List.getElem?_eq_getElem hi2, List.map_append]
      rfl
    have hll : (((l.map Prod.snd).take i).map D.str).length = i := by simp; omega
    generalize ((l.map Prod.snd).take i).map D.str = R at *
    generalize hy : l[i] = y at *
    obtain ⟨yk, yt⟩ := y
    dsimp only at ev hat htk hst hdy
    generalize validB yk yt = b at *
    cases b
    · rw [hat rfl]
      simp only [Bool.false_eq_true, if_false]
      repeat (first
        | (apply axJ; (focus ((with_reducible constructor) <;> rfl)))
        | (apply awT mixedOK hΓ (by kernel_rfl); (simp (disch := omega) only [go_sem, ↓reduceIte, dk, ↓lk, Int.reduceBEq, Int.reduceBNe, Bool.true_bne, Bool.false_bne, Bool.not_true, Bool.not_false, hy, ev, hll] <;> with_reducible rfl))
        | ((first | apply awR hΓ | apply awG | apply awH mixedOK hΓ rfl (by kernel_rfl) | apply ovE rfl); (simp (disch := omega) only [go_sem, ↓reduceIte, dk, ↓lk, Int.reduceBEq, Int.reduceBNe, Bool.true_bne, Bool.false_bne, Bool.not_true, Bool.not_false, hy, ev, hll] <;> with_reducible rfl); exact trivial)
        | rfl)
      try rfl
    · repeat (first
      | (apply axJ; (focus ((with_reducible constructor) <;> rfl)))
      | (apply awT mixedOK hΓ (by kernel_rfl); (simp (disch := omega) only [go_sem, ↓reduceIte, dk, ↓lk, Int.reduceBEq, Int.reduceBNe, Bool.true_bne, Bool.false_bne, Bool.not_true, Bool.not_false, hy, ev, hll] <;> with_reducible rfl))
      | ((first | apply awR hΓ | apply awG | apply awH mixedOK hΓ rfl (by kernel_rfl) | apply ovE rfl); (simp (disch := omega) only [go_sem, ↓reduceIte, dk, ↓lk, Int.reduceBEq, Int.reduceBNe, Bool.true_bne, Bool.false_bne, Bool.not_true, Bool.not_false, hy, ev, hll] <;> with_reducible rfl); exact trivial)
      | rfl)
      exact ⟨i + 1, ⟨by omega, htk rfl⟩, by omega, by rw [hst]; exact Weak.w⟩
  have hi3 : i = l.length := by omega
  subst hi3
  rw [List.take_length] at hpre
  rw [hpre]
  simp only [if_true]
  rw [show (l.map Prod.snd).take l.length = l.map Prod.snd from List.take_of_length_le (by simp)]
  have hj := join_max 1000000000 (l.map Prod.snd) (fun s hs => by obtain ⟨t, ht, rfl⟩ := List.mem_map.1 hs; exact d2 t ht)
  rw [List.length_map] at hj
  have e2 := g_join_eq (l := l.map Prod.snd) (s := [32]) ⟨by simp; omega, by omega⟩
  have hlm : (l.map Prod.snd).length = l.length := List.length_map _
  generalize Lib.join (l.map Prod.snd) [32] = J at *
  generalize l.map Prod.snd = L at *
  rw [← hlm] at *
  repeat (first
    | (apply axJ; (focus ((with_reducible constructor) <;> rfl)))
    | (apply awT mixedOK hΓ (by kernel_rfl); (simp (disch := omega) only [go_sem, ↓reduceIte, dk, ↓lk, Int.reduceBEq, Int.reduceBNe, Bool.true_bne, Bool.false_bne, Bool.not_true, Bool.not_false, e2] <;> with_reducible rfl))
    | ((first | apply awR hΓ | apply awG | apply awH mixedOK hΓ rfl (by kernel_rfl) | apply ovE rfl); (simp (disch := omega) only [go_sem, ↓reduceIte, dk, ↓lk, Int.reduceBEq, Int.reduceBNe, Bool.true_bne, Bool.false_bne, Bool.not_true, Bool.not_false, e2] <;> with_reducible rfl); exact trivial)
    | rfl)
  try rfl
end Go.Ab
namespace Go.Ab
open Go Go.RowKit Go.Proofs
set_option maxRecDepth 10000
set_option maxHeartbeats 16000000
theorem list_diff {α : Type} {a b : List α} {i : Nat} (ha : i < a.length) (hb : i < b.length) (h : a[i] ≠ b[i]) : a ≠ b := fun e => by
  subst e
  exact h rfl
noncomputable def g_sameT : List D → Option D := encSpec (fun x : (List Tk) × (List Tk) => [.list (x.1.map eTk), .list (x.2.map eTk)]) (fun x : (List Tk) × (List Tk) => x.1.length ≤ 1099511627776 ∧ x.2.length ≤ 1099511627776) (fun x : (List Tk) × (List Tk) => .bool (decide (x.1 = x.2)))
theorem g_sameT_eq {a : List Tk} {b : List Tk} (hd : a.length ≤ 1099511627776 ∧ b.length ≤ 1099511627776) : g_sameT [.list (a.map eTk), .list (b.map eTk)] = some (.bool (decide (a = b))) := encSpec_eq (x := (a, b)) hd fun y hy => by
    obtain ⟨y0, y1⟩ := y; simp only [List.cons.injEq, and_true, true_and, D.str.injEq, D.int.injEq, D.list.injEq, D.bool.injEq, D.agg.injEq, D.clo.injEq, Int.natCast_inj, inj_ie, D.ref.injEq, eTk_ie, eTk_e, eFl_ie] at hy
    (try obtain ⟨rfl, rfl⟩ := hy)
    (try subst_vars)
    rfl
theorem f_sameT_ok : PureOK Tryz.prog 14 true g_sameT := by
  have hΓ := Γ0_ok
  refine pure_enc (n := 26) (rs := [.tmp 4]) Tryz.func14 (by kernel_rfl) rfl (by kernel_rfl) (by kernel_rfl) ?_
  rintro ⟨a, b⟩ hd
  (try dsimp only at hd ⊢)
  refine ⟨fun _ => by (repeat (first | exact .int _ _ | exact .bool _ | exact .str _ | (refine .tup _ (fun d hd => ?_); simp only [List.mem_cons, List.not_mem_nil, or_false] at hd; rcases hd with rfl | hd))), fun k hz0 => ?_⟩
  obtain ⟨d1, d2⟩ := hd
  rw [start_frame (by simp)]; simp only [enumV, go_sem, emptyH]
  by_cases hl : a.length = b.length
  case neg =>
    have hab : decide (a = b) = false := decide_eq_false fun e => hl (by rw [e])
    rw [hab]
    have h1 : (((a.length : Nat) : Int) != (b.length : Int)) = true := by
      simp only [bne_iff_ne, ne_eq]
      omega
    repeat (first
      | (apply axJ; (focus ((with_reducible constructor) <;> rfl)))
      | (apply awT mixedOK hΓ (by kernel_rfl); (simp (disch := omega) only [go_sem, ↓reduceIte, dk, ↓lk, Int.reduceBEq, Int.reduceBNe, Bool.true_bne, Bool.false_bne, Bool.not_true, Bool.not_false, h1] <;> with_reducible rfl))
      | ((first | apply awR hΓ | apply awG | apply awH mixedOK hΓ rfl (by kernel_rfl) | apply ovE rfl); (simp (disch := omega) only [go_sem, ↓reduceIte, dk, ↓lk, Int.reduceBEq, Int.reduceBNe, Bool.true_bne, Bool.false_bne, Bool.not_true, Bool.not_false, h1] <;> with_reducible rfl); exact trivial)
      | rfl)
    try rfl
  have h1 : (((a.length : Nat) : Int) != (b.length : Int)) = false := by simp [hl]
  repeat (first
    | (apply axJ; (focus ((with_reducible constructor) <;> rfl)))
    | (apply awT mixedOK hΓ (by kernel_rfl); (simp (disch := omega) only [go_sem, ↓reduceIte, dk, ↓lk, Int.reduceBEq, Int.reduceBNe, Bool.true_bne, Bool.false_bne, Bool.not_true, Bool.not_false, h1] <;> with_reducible rfl))
    | ((first | apply awR hΓ | apply awG | apply awH mixedOK hΓ rfl (by kernel_rfl) | apply ovE rfl); (simp (disch := omega) only [go_sem, ↓reduceIte, dk, ↓lk, Int.reduceBEq, Int.reduceBNe, Bool.true_bne, Bool.false_bne, Bool.not_true, Bool.not_false, h1] <;> with_reducible rfl); exact trivial)
    | rfl)
  refine awp_loop_at (X := Nat) (fun i => (frame 26 [(0, .data (.list (a.map eTk))), (1, .data (.list (b.map eTk))), (12, .data (i64 a.length)), (13, .data (i64 i))])) (fun _ => []) 12
    (fun i => i ≤ a.length ∧ a.take i = b.take i) (fun i => a.length - i) 0 ⟨Nat.zero_le _, rfl⟩ (Weak.w) ?_
  rintro i ⟨hi, hpre⟩
  (try dsimp only at hi hpre ⊢)
  by_cases hi2 : i < a.length
  · have hi3 : i < b.length := by omega
    have hdf := list_diff hi2 hi3
    have hnx : a[i] = b[i] → a.take (i + 1) = b.take (i + 1) := fun h => by
      rw [List.take_add_one, List.take_add_one, hpre, List.getElem?_eq_getElem hi2, List.getElem?_eq_getElem hi3, h]
    generalize hy : a[i] = y at *
    generalize hz : b[i] = z at *
    obtain ⟨y1, y2⟩ := y
    obtain ⟨z1, z2⟩ := z
    by_cases he : ((y1, y2) : Tk) = (z1, z2)
    · have hq : ((y1 == z1) && (y2 == z2)) = true := by
        simp only [Prod.mk.injEq] at he
        simp [he.1, he.2]
      repeat (first
        | (apply axJ; (focus ((with_reducible constructor) <;> rfl)))
        | (apply awT mixedOK hΓ (by kernel_rfl); (simp (disch := omega) only [go_sem, ↓reduceIte, dk, ↓lk, Int.reduceBEq, Int.reduceBNe, Bool.true_bne, Bool.false_bne, Bool.not_true, Bool.not_false, hy, hz, eq_tok, hq] <;> with_reducible rfl))
        | ((first | apply awR hΓ | apply awG | apply awH mixedOK hΓ rfl (by kernel_rfl) | apply ovE rfl); (simp (disch := omega) only [go_sem, ↓reduceIte, dk, ↓lk, Int.reduceBEq, Int.reduceBNe, Bool.true_bne, Bool.false_bne, Bool.not_true, Bool.not_false, hy, hz, eq_tok, hq] <;> with_reducible rfl); exact trivial)
        | rfl)
      exact ⟨i + 1, ⟨by omega, hnx he⟩, by omega, Weak.w⟩
    · have hq : ((y1 == z1) && (y2 == z2)) = false := by
        rw [Bool.eq_false_iff]
        intro h
        simp only [Bool.and_eq_true, beq_iff_eq] at h
        exact he (by rw [h.1, h.2])
      have hab : decide (a = b) = false := decide_eq_false (hdf he)
      rw [hab]
      repeat (first
        | (apply axJ; (focus ((with_reducible constructor) <;> rfl)))
        | (apply awT mixedOK hΓ (by kernel_rfl); (simp (disch := omega) only [go_sem, ↓reduceIte, dk, ↓lk, Int.reduceBEq, Int.reduceBNe, Bool.true_bne, Bool.false_bne, Bool.not_true, Bool.not_false, hy, hz, eq_tok, hq] <;> with_reducible rfl))
        | ((first | apply awR hΓ | apply awG | apply awH mixedOK hΓ rfl (by kernel_rfl) | apply ovE rfl); (simp (disch := omega) only [go_sem, ↓reduceIte, dk, ↓lk, Int.reduceBEq, Int.reduceBNe, Bool.true_bne, Bool.false_bne, Bool.not_true, Bool.not_false, hy, hz, eq_tok, hq] <;> with_reducible rfl); exact trivial)
        | rfl)
      try rfl
  have hi3 : i = a.length := by omega
  subst hi3
  rw [List.take_length, List.take_of_length_le (by omega)] at hpre
  rw [decide_eq_true hpre]
  repeat (first
    | (apply axJ; (focus ((with_reducible constructor) <;> rfl)))
    | (apply awT mixedOK hΓ (by kernel_rfl); (simp (disch := omega) only [go_sem, ↓reduceIte, dk, ↓lk, Int.reduceBEq, Int.reduceBNe, Bool.true_bne, Bool.false_bne, Bool.not_true, Bool.not_false] <;> with_reducible rfl))
    | ((first | apply awR hΓ | apply awG | apply awH mixedOK hΓ rfl (by kernel_rfl) | apply ovE rfl); (simp (disch := omega) only [go_sem, ↓reduceIte, dk, ↓lk, Int.reduceBEq, Int.reduceBNe, Bool.true_bne, Bool.false_bne, Bool.not_true, Bool.not_false] <;> with_reducible rfl); exact trivial)
    | rfl)
  try rfl
noncomputable def g_findR3 : List D → Option D := encSpec (fun x : (List Fl) × Bs => [.list (x.1.map eFl), .str x.2]) (fun x : (List Fl) × Bs => x.1.length ≤ 1099511627776) (fun x : (List Fl) × Bs => .tup [.str (findF x.1 x.2).1, .bool (findF x.1 x.2).2])
theorem g_findR3_eq {l : List Fl} {q : Bs} (hd : l.length ≤ 1099511627776) : g_findR3 [.list (l.map eFl), .str q] = some (.tup [.str (findF l q).1, .bool (findF l q).2]) := encSpec_eq (x := (l, q)) hd fun y hy => by
    obtain ⟨y0, y1⟩ := y; simp only [List.cons.injEq, and_true, true_and, D.str.injEq, D.int.injEq, D.list.injEq, D.bool.injEq, D.agg.injEq, D.clo.injEq, Int.natCast_inj, inj_ie, D.ref.injEq, eTk_ie, eTk_e, eFl_ie] at hy
    (try obtain ⟨rfl, rfl⟩ := hy)
    (try subst_vars)
    rfl
theorem f_findR3_ok : PureOK Tryz.prog 35 true g_findR3 := by
  have hΓ := Γ0_ok
  refine pure_enc (n := 21) (rs := [.tmp 4, .tmp 5]) Tryz.func35 (by kernel_rfl) rfl (by kernel_rfl) (by kernel_rfl) ?_
  rintro ⟨l, q⟩ hd
  (try dsimp only at hd ⊢)
  refine ⟨fun _ => by (refine .tup _ (fun d hd => ?_); simp only [List.mem_cons, List.not_mem_nil, or_false] at hd; repeat (first | exact .int _ _ | exact .bool _ | exact .str _ | (rcases hd with rfl | hd) | subst hd | (refine .agg _ (fun d hd => ?_); simp only [List.mem_cons, List.not_mem_nil, or_false] at hd))), fun k hz0 => ?_⟩
  rw [start_frame (by simp)]; simp only [enumV, go_sem, emptyH]
  repeat (first
    | (apply axJ; (focus ((with_reducible constructor) <;> rfl)))
    | (apply awT mixedOK hΓ (by kernel_rfl); (simp (disch := omega) only [go_sem, ↓reduceIte, dk, ↓lk, Int.reduceBEq, Int.reduceBNe, Bool.true_bne, Bool.false_bne, Bool.not_true, Bool.not_false] <;> with_reducible rfl))
    | ((first | apply awR hΓ | apply awG | apply awH mixedOK hΓ rfl (by kernel_rfl) | apply ovE rfl); (simp (disch := omega) only [go_sem, ↓reduceIte, dk, ↓lk, Int.reduceBEq, Int.reduceBNe, Bool.true_bne, Bool.false_bne, Bool.not_true, Bool.not_false] <;> with_reducible rfl); exact trivial)
    | rfl)
  refine awp_loop_at (X := Nat) (fun i => (frame 21 [(0, .data (.list (l.map eFl))), (1, .data (.str q)), (8, .data (.list (l.map eFl))), (9, .data (i64 l.length)), (10, .data (i64 i))])) (fun _ => []) 10
    (fun i => i ≤ l.length ∧ findF l q = findF (l.drop i) q) (fun i => l.length - i) 0 ⟨Nat.zero_le _, rfl⟩ (Weak.w) ?_
  rintro i ⟨hi, hpre⟩
  (try dsimp only at hi hpre ⊢)
  rw [hpre]
  by_cases hi2 : i < l.length
  · have hdr := List.drop_eq_getElem_cons hi2
    rw [hdr] at hpre ⊢
    generalize hy : l[i] = y at *
    obtain ⟨y1, y2⟩ := y
    cases hq : (y1 == q)
    · have hs : findF ((y1, y2) :: l.drop (i + 1)) q = findF (l.drop (i + 1)) q := by simp [findF, hq]
      repeat (first
        | (apply axJ; (focus ((with_reducible constructor) <;> rfl)))
        | (apply awT mixedOK hΓ (by kernel_rfl); (simp (disch := omega) only [go_sem, ↓reduceIte, dk, ↓lk, Int.reduceBEq, Int.reduceBNe, Bool.true_bne, Bool.false_bne, Bool.not_true, Bool.not_false, hy, hq] <;> with_reducible rfl))
        | ((first | apply awR hΓ | apply awG | apply awH mixedOK hΓ rfl (by kernel_rfl) | apply ovE rfl); (simp (disch := omega) only [go_sem, ↓reduceIte, dk, ↓lk, Int.reduceBEq, Int.reduceBNe, Bool.true_bne, Bool.false_bne, Bool.not_true, Bool.not_false, hy, hq] <;> with_reducible rfl); exact trivial)
        | rfl)
      exact ⟨i + 1, ⟨by omega, hs⟩, by omega, Weak.w⟩
    · have hs : findF ((y1, y2) :: l.drop (i + 1)) q = (y2, true) := by simp [findF, hq]
      rw [hs]
      repeat (first
        | (apply axJ; (focus ((with_reducible constructor) <;> rfl)))
        | (apply awT mixedOK hΓ (by kernel_rfl); (simp (disch := omega) only [go_sem, ↓reduceIte, dk, ↓lk, Int.reduceBEq, Int.reduceBNe, Bool.true_bne, Bool.false_bne, Bool.not_true, Bool.not_false, hy, hq] <;> with_reducible rfl))
        | ((first | apply awR hΓ | apply awG | apply awH mixedOK hΓ rfl (by kernel_rfl) | apply ovE rfl); (simp (disch := omega) only [go_sem, ↓reduceIte, dk, ↓lk, Int.reduceBEq, Int.reduceBNe, Bool.true_bne, Bool.false_bne, Bool.not_true, Bool.not_false, hy, hq] <;> with_reducible rfl); exact trivial)
        | rfl)
      try rfl
  have hi3 : i = l.length := by omega
  subst hi3
  rw [List.drop_length]
  repeat (first
    | (apply axJ; (focus ((with_reducible constructor) <;> rfl)))
    | (apply awT mixedOK hΓ (by kernel_rfl); (simp (disch := omega) only [go_sem, ↓reduceIte, dk, ↓lk, Int.reduceBEq, Int.reduceBNe, Bool.true_bne, Bool.false_bne, Bool.not_true, Bool.not_false] <;> with_reducible rfl))
    | ((first | apply awR hΓ | apply awG | apply awH mixedOK hΓ rfl (by kernel_rfl) | apply ovE rfl); (simp (disch := omega) only [go_sem, ↓reduceIte, dk, ↓lk, Int.reduceBEq, Int.reduceBNe, Bool.true_bne, Bool.false_bne, Bool.not_true, Bool.not_false] <;> with_reducible rfl); exact trivial)
    | rfl)
  try rfl
end Go.Ab
