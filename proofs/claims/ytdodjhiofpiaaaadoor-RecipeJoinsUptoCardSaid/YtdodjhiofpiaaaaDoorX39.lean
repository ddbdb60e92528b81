/-
  One text of the proof (own work): contracts of functions of the program, by the abstract machine.
-/
import Derived.Test.YtdodjhiofpiaaaaDoorX19
import Derived.Test.YtdodjhiofpiaaaaDoorX38
import Derived.Test.YtdodjhiofpiaaaaDoorX24
set_option linter.unusedVariables false
set_option linter.unusedSimpArgs false
namespace Go.Ab
open Go Go.RowKit Go.Proofs Go.Shelf
set_option maxRecDepth 10000
set_option maxHeartbeats 16000000
theorem check_text {x : Stp} (h : checkR x = 0) : printP x = (textS x, true) ∧ lineR (textS x) = (atL x 0, 0) ∧ 0 ≤ x.line ∧ x.line < 1024 := by
  unfold checkR at h
  split at h
  · exact absurd h (by decide)
  · rename_i h1
    split at h
    · rename_i h2
      rw [Bool.and_eq_true, beq_iff_eq, sameB_iff] at h2
      obtain ⟨e1, e2⟩ := h2
      obtain ⟨h3, _, h5⟩ := line_text (s := textS x) (y := (lineR (textS x)).1) (Prod.ext rfl e1)
      simp only [Bool.or_eq_true, decide_eq_true_eq, not_or] at h1
      refine ⟨?_, ?_, by omega, by omega⟩
      · rw [e2, printP_at, h5, ← textS_at _ x.line, ← e2]
      · refine Prod.ext ?_ e1
        conv => rhs; rw [e2]
        generalize (lineR (textS x)).1 = y at *
        obtain ⟨a, b, c, d, e, f⟩ := y
        dsimp only at h3 ⊢
        rw [h3]
        rfl
    · exact absurd h (by decide)
def lnsOf (acc : List Bs) : List Bs := match acc with
  | [] => [[]]
  | w :: r => w :: r
theorem lnsOf_ne {acc : List Bs} (h : acc ≠ []) : lnsOf acc = acc := by
  cases acc with
  | nil => exact absurd rfl h
  | cons w r => rfl
def prEndP : Option (List Bs) → Bs × Int
  | none => ([], 1)
  | some ls => joinR (lnsOf ls)
def printPl (l : List Stp) : Bs × Int := if decide ((l.length : Int) > 64) then ([], 1) else prEndP (prGo [] l)
theorem pad_set (acc : List Bs) (n : Nat) (w : Bs) (h : acc = [] ∨ acc.length ≤ n) : (lnsOf acc ++ List.replicate (n + 1 - (lnsOf acc).length) []).set n w = acc ++ List.replicate (n - acc.length) [] ++ [w] := by
  have key : ∀ (a : List Bs), a.length ≤ n → (a ++ List.replicate (n + 1 - a.length) []).set n w = a ++ List.replicate (n - a.length) [] ++ [w] := fun a ha => by
    rw [List.set_append_right _ _ ha, List.append_assoc, show n + 1 - a.length = (n - a.length) + 1 by omega, List.replicate_succ', List.set_append_right _ _ (by simp), List.length_replicate, Nat.sub_self]
    rfl
  cases acc with
  | nil =>
    have h2 : lnsOf [] ++ List.replicate (n + 1 - (lnsOf []).length) ([] : Bs) = [] ++ List.replicate (n + 1 - ([] : List Bs).length) [] := by
      show [[]] ++ List.replicate (n + 1 - 1) [] = [] ++ List.replicate (n + 1) []
      rw [Nat.add_sub_cancel, List.nil_append, List.replicate_succ]
      rfl
    rw [h2]
    exact key [] (Nat.zero_le _)
  | cons v r =>
    rcases h with h | h
    · cases h
    · exact key (v :: r) h
theorem joinR_cons (w : Bs) (r : List Bs) : joinR (w :: r) = if (w :: r).all oneL then (if decide (((r.length + 1 : Nat) : Int) > 1024) || decide (((w ++ joinT r).length : Int) > 65536) then ([], 10) else (w ++ joinT r, 0)) else ([], 1) := rfl
theorem joinR_err (l : List Bs) : (joinR l).2 ≠ 0 → (joinR l).1 = [] := by
  intro h
  cases l with
  | nil => rfl
  | cons w r =>
    rw [joinR_cons] at h ⊢
    generalize ((w :: r).all oneL) = a at *
    generalize (decide (((r.length + 1 : Nat) : Int) > 1024) || decide (((w ++ joinT r).length : Int) > 65536)) = b at *
    cases a
    · rfl
    · cases b
      · exact absurd rfl h
      · rfl
noncomputable def g_printPr : List D → Option D := encSpec (fun x : (List Stp) => [.list (x.map eSt)]) (fun x : (List Stp) => x.length ≤ 1099511627776 ∧ ∀ w ∈ x, PX w) (fun x : (List Stp) => eSE (printPl x))
theorem g_printPr_eq {l : List Stp} (hd : l.length ≤ 1099511627776 ∧ ∀ w ∈ l, PX w) : g_printPr [.list (l.map eSt)] = some (eSE (printPl l)) := encSpec_eq (x := l) hd fun y hy => by
    simp only [List.cons.injEq, and_true, true_and, D.str.injEq, D.int.injEq, D.list.injEq, D.bool.injEq, D.agg.injEq, D.clo.injEq, Int.natCast_inj, inj_ie, eSt_ie, eSts_ie] at hy
    rw [hy]
theorem f_printPr_ok : PureOK Tryd.prog 8 false g_printPr := by
  have hΓ := Γp f_checkPr_ok (Γp f_printP_ok (Γp f_joinP_ok (Γn)))
  refine pure_enc (n := 65) (rs := [.tmp 2, .tmp 3]) Tryd.func8 (by kernel_rfl) rfl (by kernel_rfl) (by kernel_rfl) ?_
  rintro l hd
  (try dsimp only at hd ⊢)
  refine ⟨fun h => (by cases h), fun k hz0 => ?_⟩
  obtain ⟨hl, hpx⟩ := hd
  unfold printPl
  rw [start_frame (by simp)]; simp only [enumV, go_sem, emptyH]
  generalize hc1 : decide ((l.length : Int) > 64) = c1
  cases c1
  rotate_left
  · repeat (first
    | (apply axJ; (focus ((with_reducible constructor) <;> rfl)))
    | (apply awT mixedOK hΓ (by kernel_rfl); (simp (disch := omega) only [go_sem, ↓reduceIte, dk, ↓lk, hc1] <;> with_reducible rfl))
    | ((first | apply awR hΓ | apply awG | apply awH mixedOK hΓ rfl (by kernel_rfl) | apply ovE rfl); (simp (disch := omega) only [go_sem, ↓reduceIte, dk, ↓lk, hc1] <;> with_reducible rfl); exact trivial)
    | rfl)
    try rfl
  simp only [Bool.false_eq_true, if_false]
  repeat (first
    | (apply axJ; (focus ((with_reducible constructor) <;> rfl)))
    | (apply awT mixedOK hΓ (by kernel_rfl); (simp (disch := omega) only [go_sem, ↓reduceIte, dk, ↓lk, hc1] <;> with_reducible rfl))
    | ((first | apply awR hΓ | apply awG | apply awH mixedOK hΓ rfl (by kernel_rfl) | apply ovE rfl); (simp (disch := omega) only [go_sem, ↓reduceIte, dk, ↓lk, hc1] <;> with_reducible rfl); exact trivial)
    | rfl)
  have hl64 : l.length ≤ 64 := by have := of_decide_eq_false hc1; omega
  refine awp_loop_at (X := Nat × List Bs) (fun y => (frame 65 [(0, .data (.list (l.map eSt))), (4, .row 5 (lnsOf y.2).length), (13, .data (.list (l.map eSt))), (14, .data (i64 l.length)), (15, .data (i64 y.1))])) (fun y => [(5, .row 9 1 ((lnsOf y.2).map .str))]) 6
    (fun y => y.1 ≤ l.length ∧ prGo [] l = prGo y.2 (l.drop y.1) ∧ y.2.length ≤ 1024 ∧ (∀ w ∈ y.2, w.length ≤ 600000) ∧ ((y.1 = 0 ∧ y.2 = []) ∨ (0 < y.1 ∧ y.2 ≠ [] ∧ ∀ h : y.1 - 1 < l.length, (y.2.length : Int) = (l[y.1 - 1]).line + 1))) (fun y => l.length - y.1) (0, [])
    ⟨Nat.zero_le _, rfl, Nat.zero_le _, fun w hw => by simp at hw, .inl ⟨rfl, rfl⟩⟩ (Weak.v (by (simp [ConvF, lookV, Conv, ints, lnsOf]; done)) (by (simp (disch := omega) only [TabSub, look, if_pos, if_neg, Obj.refsOK, refsOKs, AV.refsOK, decide_eq_true_eq, Bool.and_true, Bool.and_self, lnsOf] ) <;> ((repeat' apply And.intro) <;> first | exact True.intro | omega | (simp; done) | rfl))) ?_
  rintro ⟨i, acc⟩ ⟨h1, h2, h3, h4, h5⟩
  dsimp only at h1 h2 h3 h4 h5 ⊢
  have hlns : 1 ≤ (lnsOf acc).length ∧ (lnsOf acc).length ≤ 1024 := by cases acc with | nil => exact ⟨Nat.le_refl _, by decide⟩ | cons w r => exact ⟨by simp [lnsOf], h3⟩
  by_cases hi : i < l.length
  · have hx := hpx _ (List.getElem_mem hi)
    have e1 := g_checkPr_eq hx
    have e2 := g_printP_eq hx
    have htb := textS_bd l[i]
    have hct := check_text (x := l[i])
    rw [check_law] at e1
    rw [prGo_drop hi] at h2
    rw [eSt_eq] at e1
    have hprev : 0 < i → ∀ h : i - 1 < l.length, ((l[i - 1]).line = (acc.length : Int) - 1) := fun h0 h => by
      rcases h5 with ⟨h5, _⟩ | ⟨_, _, h5⟩
      · omega
      · have := h5 h; omega
    have hza : i = 0 → acc = [] := fun h0 => by
      rcases h5 with ⟨_, h5⟩ | ⟨h5, _⟩
      · exact h5
      · omega
    generalize hy : l[i] = x at *
    have hts : (textS x).length ≤ 600000 := by have := hx.i; have := hx.u; have := hx.w; have := hx.o; omega
    generalize hcr : checkR x = cr at *
    generalize hz : (cr == 0) = z at *
    have hz2 : (cr != 0) = !z := by rw [← hz]; rfl
    cases z
    · simp only [Bool.false_and, Bool.false_eq_true, if_false] at h2
      rw [h2]
      repeat (first
        | (apply axJ; (focus ((with_reducible constructor) <;> rfl)))
        | (apply awT mixedOK hΓ (by kernel_rfl); (simp (disch := omega) only [go_sem, ↓reduceIte, dk, ↓lk, hy] <;> with_reducible rfl))
        | ((first | apply awR hΓ | apply awG | apply awH mixedOK hΓ rfl (by kernel_rfl) | apply ovE rfl); (simp (disch := omega) only [go_sem, ↓reduceIte, dk, ↓lk, hy] <;> with_reducible rfl); exact trivial)
        | rfl)
      (apply awp_regf mixedOK hΓ (by kernel_rfl); (simp (disch := omega) only [go_sem, ↓reduceIte, dk, ↓lk, Int.reduceBEq, Int.reduceBNe, Bool.true_bne, Bool.false_bne, Bool.not_true, Bool.not_false, hy, e1, hz, hz2] <;> with_reducible rfl); (simp only [go_sem] <;> with_reducible rfl))
      repeat (first
        | (apply axJ; (focus ((with_reducible constructor) <;> rfl)))
        | (apply awT mixedOK hΓ (by kernel_rfl); (simp (disch := omega) only [go_sem, ↓reduceIte, dk, ↓lk, Int.reduceBEq, Int.reduceBNe, Bool.true_bne, Bool.false_bne, Bool.not_true, Bool.not_false, hz, hz2] <;> with_reducible rfl))
        | ((first | apply awR hΓ | apply awG | apply awH mixedOK hΓ rfl (by kernel_rfl) | apply ovE rfl); (simp (disch := omega) only [go_sem, ↓reduceIte, dk, ↓lk, Int.reduceBEq, Int.reduceBNe, Bool.true_bne, Bool.false_bne, Bool.not_true, Bool.not_false, hz, hz2] <;> with_reducible rfl); exact trivial)
        | rfl)
      try rfl
    obtain ⟨t1, t2, l0, l1⟩ := hct (eq_of_beq hz)
    rw [t1] at e2
    dsimp only at e2
    generalize textS x = tx at *
    generalize hq : decide (x.line < (acc.length : Int)) = q at *
    cases q
    rotate_left
    · simp only [Bool.not_true, Bool.and_false, Bool.false_eq_true, if_false] at h2
      rw [h2]
      have hq2 := of_decide_eq_true hq
      have hi0 : 0 < i := Nat.pos_of_ne_zero fun h0 => by rw [hza h0] at hq2; simp at hq2; omega
      have hi1 : i - 1 < l.length := by omega
      have hpl := hprev hi0 hi1
      have hcast : (i : Int) - 1 = ((i - 1 : Nat) : Int) := by omega
      have hip : decide ((i : Int) > 0) = true := decide_eq_true (by omega)
      generalize hyp : l[i - 1] = xp at *
      have hge : decide (xp.line ≥ x.line) = true := decide_eq_true (by omega)
      repeat (first
        | (apply axJ; (focus ((with_reducible constructor) <;> rfl)))
        | (apply awT mixedOK hΓ (by kernel_rfl); (simp (disch := omega) only [go_sem, ↓reduceIte, dk, ↓lk, hy] <;> with_reducible rfl))
        | ((first | apply awR hΓ | apply awG | apply awH mixedOK hΓ rfl (by kernel_rfl) | apply ovE rfl); (simp (disch := omega) only [go_sem, ↓reduceIte, dk, ↓lk, hy] <;> with_reducible rfl); exact trivial)
        | rfl)
      (apply awp_regf mixedOK hΓ (by kernel_rfl); (simp (disch := omega) only [go_sem, ↓reduceIte, dk, ↓lk, Int.reduceBEq, Int.reduceBNe, Bool.true_bne, Bool.false_bne, Bool.not_true, Bool.not_false, hy, e1, hz, hz2, hip, hcast, hyp, hge] <;> with_reducible rfl); (simp only [go_sem] <;> with_reducible rfl))
      repeat (first
        | (apply axJ; (focus ((with_reducible constructor) <;> rfl)))
        | (apply awT mixedOK hΓ (by kernel_rfl); (simp (disch := omega) only [go_sem, ↓reduceIte, dk, ↓lk, Int.reduceBEq, Int.reduceBNe, Bool.true_bne, Bool.false_bne, Bool.not_true, Bool.not_false, hz, hz2] <;> with_reducible rfl))
        | ((first | apply awR hΓ | apply awG | apply awH mixedOK hΓ rfl (by kernel_rfl) | apply ovE rfl); (simp (disch := omega) only [go_sem, ↓reduceIte, dk, ↓lk, Int.reduceBEq, Int.reduceBNe, Bool.true_bne, Bool.false_bne, Bool.not_true, Bool.not_false, hz, hz2] <;> with_reducible rfl); exact trivial)
        | rfl)
      try rfl
    have hq2 := of_decide_eq_false hq
    have hql : ((lnsOf acc).length : Int) ≤ x.line + 1 := by cases acc with | nil => simp [lnsOf]; omega | cons w r => simp only [lnsOf, List.length_cons] at hq2 ⊢; omega
    have hpad : acc = [] ∨ acc.length ≤ x.line.toNat := .inr (by omega)
    simp only [Bool.not_false, Bool.and_true, if_true] at h2
    by_cases h0 : i = 0
    · have hip : decide ((i : Int) > 0) = false := decide_eq_false (by omega)
      repeat (first
        | (apply axJ; (focus ((with_reducible constructor) <;> rfl)))
        | (apply awT mixedOK hΓ (by kernel_rfl); (simp (disch := omega) only [go_sem, ↓reduceIte, dk, ↓lk, hy] <;> with_reducible rfl))
        | ((first | apply awR hΓ | apply awG | apply awH mixedOK hΓ rfl (by kernel_rfl) | apply ovE rfl); (simp (disch := omega) only [go_sem, ↓reduceIte, dk, ↓lk, hy] <;> with_reducible rfl); exact trivial)
        | rfl)
      (apply awp_regf mixedOK hΓ (by kernel_rfl); (simp (disch := omega) only [go_sem, ↓reduceIte, dk, ↓lk, Int.reduceBEq, Int.reduceBNe, Bool.true_bne, Bool.false_bne, Bool.not_true, Bool.not_false, hy, e1, hz, hz2, hip] <;> with_reducible rfl); (simp only [go_sem] <;> with_reducible rfl))
      repeat (first
        | (apply axJ; (focus ((with_reducible constructor) <;> rfl)))
        | (apply awT mixedOK hΓ (by kernel_rfl); (simp (disch := omega) only [go_sem, ↓reduceIte, dk, ↓lk, Int.reduceBEq, Int.reduceBNe, Bool.true_bne, Bool.false_bne, Bool.not_true, Bool.not_false, hz, hz2] <;> with_reducible rfl))
        | ((first | apply awR hΓ | apply awG | apply awH mixedOK hΓ rfl (by kernel_rfl) | apply ovE rfl); (simp (disch := omega) only [go_sem, ↓reduceIte, dk, ↓lk, Int.reduceBEq, Int.reduceBNe, Bool.true_bne, Bool.false_bne, Bool.not_true, Bool.not_false, hz, hz2] <;> with_reducible rfl); exact trivial)
        | rfl)
      refine awp_loop_at (X := List Bs) (fun a => (frame 65 [(0, .data (.list (l.map eSt))), (4, .row 5 a.length), (6, .ptr 10 0), (13, .data (.list (l.map eSt))), (14, .data (i64 l.length)), (15, .data (i64 i))])) (fun a => [(5, .row 9 1 (a.map .str)), (10, .box [.data (.int .i64 x.line), .data (.int .i64 x.kind), .data (.list (x.inn.map .str)), .data (.list (x.usg.map .str)), .data (.list (x.wds.map .str)), .data (.str x.out)])]) 40
        (fun a => a = lnsOf acc ++ List.replicate (a.length - (lnsOf acc).length) [] ∧ (lnsOf acc).length ≤ a.length ∧ (a.length : Int) ≤ x.line + 1) (fun a => x.line.toNat + 1 - a.length) (lnsOf acc) ⟨by simp, Nat.le_refl _, hql⟩ (Weak.w) ?_
      rintro a ⟨k1, k2, k3⟩
      (try dsimp only at k1 k2 k3 ⊢)
      by_cases hlt : (a.length : Int) ≤ x.line
      · repeat (first
        | (apply axJ; (focus ((with_reducible constructor) <;> rfl)))
        | (apply awT mixedOK hΓ (by kernel_rfl); (simp (disch := omega) only [go_sem, ↓reduceIte, dk, ↓lk] <;> with_reducible rfl))
        | ((first | apply awR hΓ | apply awG | apply awH mixedOK hΓ rfl (by kernel_rfl) | apply ovE rfl); (simp (disch := omega) only [go_sem, ↓reduceIte, dk, ↓lk] <;> with_reducible rfl); exact trivial)
        | rfl)
        refine ⟨a ++ [[]], ⟨?_, ?_, ?_⟩, ?_, ?_⟩
        · rw [List.length_append, List.length_singleton, show a.length + 1 - (lnsOf acc).length = (a.length - (lnsOf acc).length) + 1 by omega, List.replicate_succ', ← List.append_assoc, ← k1]
        · rw [List.length_append, List.length_singleton]; omega
        · rw [List.length_append, List.length_singleton]; omega
        · rw [List.length_append, List.length_singleton]; omega
        · have hm : (a ++ [[]]).map D.str = a.map D.str ++ [.str []] := by rw [List.map_append]; rfl
          rw [List.length_append, List.length_singleton]
          exact Weak.v (by (simp [ConvF, lookV, Conv, ints, hm]; done)) (by (simp (disch := omega) only [TabSub, look, if_pos, if_neg, Obj.refsOK, refsOKs, AV.refsOK, decide_eq_true_eq, Bool.and_true, Bool.and_self, hm] ) <;> ((repeat' apply And.intro) <;> first | exact True.intro | omega | (simp; done) | rfl))
      · have hal : (a.length : Int) = x.line + 1 := by omega
        have hal2 : a.length = x.line.toNat + 1 := by omega
        have hset : a.set x.line.toNat tx = acc ++ List.replicate (x.line.toNat - acc.length) [] ++ [tx] := by
          rw [k1, hal2]
          exact pad_set acc _ tx hpad
        have hm : (a.map D.str).set x.line.toNat (.str tx) = (a.set x.line.toNat tx).map D.str := by rw [List.map_set]
        have hnew : (acc ++ List.replicate (x.line.toNat - acc.length) [] ++ [tx]).length = a.length := by rw [← hset, List.length_set]
        have hnn : acc ++ List.replicate (x.line.toNat - acc.length) [] ++ [tx] ≠ [] := by simp
        rw [← hset] at h2 hnew hnn
        repeat (first
          | (apply axJ; (focus ((with_reducible constructor) <;> rfl)))
          | (apply awT mixedOK hΓ (by kernel_rfl); (simp (disch := omega) only [go_sem, ↓reduceIte, dk, ↓lk] <;> with_reducible rfl))
          | ((first | apply awR hΓ | apply awG | apply awH mixedOK hΓ rfl (by kernel_rfl) | apply ovE rfl); (simp (disch := omega) only [go_sem, ↓reduceIte, dk, ↓lk] <;> with_reducible rfl); exact trivial)
          | rfl)
        (apply awp_lane3 (nst := false) (nst' := false) [false, false, false, false, false, false, false, false, false, true] mixedOK hΓ (n1 := 10) (by kernel_rfl) (by kernel_rfl); (focus (dsimp only [List.take_succ_cons, List.take_zero, Array.toList]; (repeat (first | (apply lane3_loud; (focus rfl); (focus rfl); (simp (disch := omega) only [go_sem, ↓reduceIte, dk, ↓lk, e2, hm, look_upd] <;> with_reducible rfl); (focus (first | (simp (disch := omega) only [go_sem, ↓reduceIte, dk, ↓lk, e2, hm, look_upd]; done) | (simp (disch := omega) only [go_sem, ↓reduceIte, dk, ↓lk, e2, hm, look_upd]; omega)))) | (apply lane3_quiet; (simp (disch := omega) only [go_sem, ↓reduceIte, dk, ↓lk, e2, hm, look_upd] <;> with_reducible rfl)))); exact lane3_nil)); (focus ((repeat' (first | exact True.intro | refine And.intro ?_ ?_)); all_goals (first | (left; decide) | (left; rfl) | (right; simp (disch := omega) only [go_sem, ↓reduceIte, dk, ↓lk, e2, hm, look_upd]; try with_reducible rfl)))); (simp (disch := omega) only [go_sem, ↓reduceIte, dk, ↓lk, e2, hm, look_upd] <;> with_reducible rfl))
        repeat (first
          | (apply axJ; (focus ((with_reducible constructor) <;> rfl)))
          | (apply awT mixedOK hΓ (by kernel_rfl); (simp (disch := omega) only [go_sem, ↓reduceIte, dk, ↓lk] <;> with_reducible rfl))
          | ((first | apply awR hΓ | apply awG | apply awH mixedOK hΓ rfl (by kernel_rfl) | apply ovE rfl); (simp (disch := omega) only [go_sem, ↓reduceIte, dk, ↓lk] <;> with_reducible rfl); exact trivial)
          | rfl)
        refine ⟨(i + 1, a.set x.line.toNat tx), ⟨by dsimp only; omega, h2, ?_, ?_, .inr ⟨Nat.succ_pos _, hnn, fun h => ?_⟩⟩, by dsimp only; omega, ?_⟩
        · dsimp only; omega
        · dsimp only
          intro w hw
          rw [hset] at hw
          rcases List.mem_append.1 hw with hw | hw
          · rcases List.mem_append.1 hw with hw | hw
            · exact h4 w hw
            · rw [(List.mem_replicate.1 hw).2]; simp
          · rw [List.mem_singleton.1 hw]; exact hts
        · dsimp only at h ⊢
          have : l[i + 1 - 1] = x := hy
          rw [this]
          omega
        · dsimp only
          rw [lnsOf_ne hnn, hnew]
          exact Weak.w
    · have hi0 : 0 < i := by omega
      have hi1 : i - 1 < l.length := by omega
      have hpl := hprev hi0 hi1
      have hcast : (i : Int) - 1 = ((i - 1 : Nat) : Int) := by omega
      have hip : decide ((i : Int) > 0) = true := decide_eq_true (by omega)
      generalize hyp : l[i - 1] = xp at *
      have hge : decide (xp.line ≥ x.line) = false := decide_eq_false (by omega)
      repeat (first
        | (apply axJ; (focus ((with_reducible constructor) <;> rfl)))
        | (apply awT mixedOK hΓ (by kernel_rfl); (simp (disch := omega) only [go_sem, ↓reduceIte, dk, ↓lk, hy] <;> with_reducible rfl))
        | ((first | apply awR hΓ | apply awG | apply awH mixedOK hΓ rfl (by kernel_rfl) | apply ovE rfl); (simp (disch := omega) only [go_sem, ↓reduceIte, dk, ↓lk, hy] <;> with_reducible rfl); exact trivial)
        | rfl)
      (apply awp_regf mixedOK hΓ (by kernel_rfl); (simp (disch := omega) only [go_sem, ↓reduceIte, dk, ↓lk, Int.reduceBEq, Int.reduceBNe, Bool.true_bne, Bool.false_bne, Bool.not_true, Bool.not_false, hy, e1, hz, hz2, hip, hcast, hyp, hge] <;> with_reducible rfl); (simp only [go_sem] <;> with_reducible rfl))
      repeat (first
        | (apply axJ; (focus ((with_reducible constructor) <;> rfl)))
        | (apply awT mixedOK hΓ (by kernel_rfl); (simp (disch := omega) only [go_sem, ↓reduceIte, dk, ↓lk, Int.reduceBEq, Int.reduceBNe, Bool.true_bne, Bool.false_bne, Bool.not_true, Bool.not_false, hz, hz2] <;> with_reducible rfl))
        | ((first | apply awR hΓ | apply awG | apply awH mixedOK hΓ rfl (by kernel_rfl) | apply ovE rfl); (simp (disch := omega) only [go_sem, ↓reduceIte, dk, ↓lk, Int.reduceBEq, Int.reduceBNe, Bool.true_bne, Bool.false_bne, Bool.not_true, Bool.not_false, hz, hz2] <;> with_reducible rfl); exact trivial)
        | rfl)
      refine awp_loop_at (X := List Bs) (fun a => (frame 65 [(0, .data (.list (l.map eSt))), (4, .row 5 a.length), (6, .ptr 10 0), (13, .data (.list (l.map eSt))), (14, .data (i64 l.length)), (15, .data (i64 i))])) (fun a => [(5, .row 9 1 (a.map .str)), (10, .box [.data (.int .i64 x.line), .data (.int .i64 x.kind), .data (.list (x.inn.map .str)), .data (.list (x.usg.map .str)), .data (.list (x.wds.map .str)), .data (.str x.out)])]) 40
        (fun a => a = lnsOf acc ++ List.replicate (a.length - (lnsOf acc).length) [] ∧ (lnsOf acc).length ≤ a.length ∧ (a.length : Int) ≤ x.line + 1) (fun a => x.line.toNat + 1 - a.length) (lnsOf acc) ⟨by simp, Nat.le_refl _, hql⟩ (Weak.w) ?_
      rintro a ⟨k1, k2, k3⟩
      (try dsimp only at k1 k2 k3 ⊢)
      by_cases hlt : (a.length : Int) ≤ x.line
      · repeat (first
        | (apply axJ; (focus ((with_reducible constructor) <;> rfl)))
        | (apply awT mixedOK hΓ (by kernel_rfl); (simp (disch := omega) only [go_sem, ↓reduceIte, dk, ↓lk] <;> with_reducible rfl))
        | ((first | apply awR hΓ | apply awG | apply awH mixedOK hΓ rfl (by kernel_rfl) | apply ovE rfl); (simp (disch := omega) only [go_sem, ↓reduceIte, dk, ↓lk] <;> with_reducible rfl); exact trivial)
        | rfl)
        refine ⟨a ++ [[]], ⟨?_, ?_, ?_⟩, ?_, ?_⟩
        · rw [List.length_append, List.length_singleton, show a.length + 1 - (lnsOf acc).length = (a.length - (lnsOf acc).length) + 1 by omega, List.replicate_succ', ← List.append_assoc, ← k1]
        · rw [List.length_append, List.length_singleton]; omega
        · rw [List.length_append, List.length_singleton]; omega
        · rw [List.length_append, List.length_singleton]; omega
        · have hm : (a ++ [[]]).map D.str = a.map D.str ++ [.str []] := by rw [List.map_append]; rfl
          rw [List.length_append, List.length_singleton]
          exact Weak.v (by (simp [ConvF, lookV, Conv, ints, hm]; done)) (by (simp (disch := omega) only [TabSub, look, if_pos, if_neg, Obj.refsOK, refsOKs, AV.refsOK, decide_eq_true_eq, Bool.and_true, Bool.and_self, hm] ) <;> ((repeat' apply And.intro) <;> first | exact True.intro | omega | (simp; done) | rfl))
      · have hal : (a.length : Int) = x.line + 1 := by omega
        have hal2 : a.length = x.line.toNat + 1 := by omega
        have hset : a.set x.line.toNat tx = acc ++ List.replicate (x.line.toNat - acc.length) [] ++ [tx] := by
          rw [k1, hal2]
          exact pad_set acc _ tx hpad
        have hm : (a.map D.str).set x.line.toNat (.str tx) = (a.set x.line.toNat tx).map D.str := by rw [List.map_set]
        have hnew : (acc ++ List.replicate (x.line.toNat - acc.length) [] ++ [tx]).length = a.length := by rw [← hset, List.length_set]
        have hnn : acc ++ List.replicate (x.line.toNat - acc.length) [] ++ [tx] ≠ [] := by simp
        rw [← hset] at h2 hnew hnn
        repeat (first
          | (apply axJ; (focus ((with_reducible constructor) <;> rfl)))
          | (apply awT mixedOK hΓ (by kernel_rfl); (simp (disch := omega) only [go_sem, ↓reduceIte, dk, ↓lk] <;> with_reducible rfl))
          | ((first | apply awR hΓ | apply awG | apply awH mixedOK hΓ rfl (by kernel_rfl) | apply ovE rfl); (simp (disch := omega) only [go_sem, ↓reduceIte, dk, ↓lk] <;> with_reducible rfl); exact trivial)
          | rfl)
        (apply awp_lane3 (nst := false) (nst' := false) [false, false, false, false, false, false, false, false, false, true] mixedOK hΓ (n1 := 10) (by kernel_rfl) (by kernel_rfl); (focus (dsimp only [List.take_succ_cons, List.take_zero, Array.toList]; (repeat (first | (apply lane3_loud; (focus rfl); (focus rfl); (simp (disch := omega) only [go_sem, ↓reduceIte, dk, ↓lk, e2, hm, look_upd] <;> with_reducible rfl); (focus (first | (simp (disch := omega) only [go_sem, ↓reduceIte, dk, ↓lk, e2, hm, look_upd]; done) | (simp (disch := omega) only [go_sem, ↓reduceIte, dk, ↓lk, e2, hm, look_upd]; omega)))) | (apply lane3_quiet; (simp (disch := omega) only [go_sem, ↓reduceIte, dk, ↓lk, e2, hm, look_upd] <;> with_reducible rfl)))); exact lane3_nil)); (focus ((repeat' (first | exact True.intro | refine And.intro ?_ ?_)); all_goals (first | (left; decide) | (left; rfl) | (right; simp (disch := omega) only [go_sem, ↓reduceIte, dk, ↓lk, e2, hm, look_upd]; try with_reducible rfl)))); (simp (disch := omega) only [go_sem, ↓reduceIte, dk, ↓lk, e2, hm, look_upd] <;> with_reducible rfl))
        repeat (first
          | (apply axJ; (focus ((with_reducible constructor) <;> rfl)))
          | (apply awT mixedOK hΓ (by kernel_rfl); (simp (disch := omega) only [go_sem, ↓reduceIte, dk, ↓lk] <;> with_reducible rfl))
          | ((first | apply awR hΓ | apply awG | apply awH mixedOK hΓ rfl (by kernel_rfl) | apply ovE rfl); (simp (disch := omega) only [go_sem, ↓reduceIte, dk, ↓lk] <;> with_reducible rfl); exact trivial)
          | rfl)
        refine ⟨(i + 1, a.set x.line.toNat tx), ⟨by dsimp only; omega, h2, ?_, ?_, .inr ⟨Nat.succ_pos _, hnn, fun h => ?_⟩⟩, by dsimp only; omega, ?_⟩
        · dsimp only; omega
        · dsimp only
          intro w hw
          rw [hset] at hw
          rcases List.mem_append.1 hw with hw | hw
          · rcases List.mem_append.1 hw with hw | hw
            · exact h4 w hw
            · rw [(List.mem_replicate.1 hw).2]; simp
          · rw [List.mem_singleton.1 hw]; exact hts
        · dsimp only at h ⊢
          have : l[i + 1 - 1] = x := hy
          rw [this]
          omega
        · dsimp only
          rw [lnsOf_ne hnn, hnew]
          exact Weak.w
  · have hi3 : i = l.length := by omega
    subst hi3
    rw [List.drop_length] at h2
    have h2 : prGo [] l = some acc := h2
    rw [h2]
    have hle : ∀ w ∈ lnsOf acc, w.length ≤ 600000 := by
      cases acc with
      | nil => intro w hw; simp [lnsOf] at hw; simp [hw]
      | cons v r => exact h4
    have hjb := joinT_bd 600000 (lnsOf acc) hle
    have e4 := g_joinP_eq (l := lnsOf acc) (by omega)
    have her := joinR_err (lnsOf acc)
    rw [show prEndP (some acc) = joinR (lnsOf acc) from rfl]
    generalize lnsOf acc = ls at *
    rcases hj : joinR ls with ⟨js, je⟩
    rw [hj] at e4 her
    replace e4 : g_joinP [.list (ls.map .str)] = some (.tup [.str js, .int .i64 je]) := e4
    dsimp only at her ⊢
    generalize hz : (je == 0) = z at *
    have hz2 : (je != 0) = !z := by rw [← hz]; rfl
    refine awp_weak ((Weak.freeze (o := 5) rfl).trans (show Weak _ _ _ ((frame 65 [(4, .data (.list (ls.map .str))), (14, .data (i64 l.length)), (15, .data (i64 l.length))])) ⟨[], 20⟩ from Weak.v (by (simp [ConvF, lookV, Conv, ints, upd, Heap.set, Heap.get, look]; done)) (by (simp (disch := omega) only [TabSub, look, if_pos, if_neg, Obj.refsOK, refsOKs, AV.refsOK, decide_eq_true_eq, Bool.and_true, Bool.and_self, upd, Heap.set, Heap.get, look] ) <;> ((repeat' apply And.intro) <;> first | exact True.intro | omega | (simp; done) | rfl)))) ?_
    cases z
    · rw [her (by intro h; rw [h] at hz; cases hz)]
      repeat (first
        | (apply axJ; (focus ((with_reducible constructor) <;> rfl)))
        | (apply awT mixedOK hΓ (by kernel_rfl); (simp (disch := omega) only [go_sem, ↓reduceIte, dk, ↓lk, e4, hz, hz2, Int.reduceBEq, Int.reduceBNe, Bool.true_bne, Bool.false_bne, Bool.not_true, Bool.not_false] <;> with_reducible rfl))
        | ((first | apply awR hΓ | apply awG | apply awH mixedOK hΓ rfl (by kernel_rfl) | apply ovE rfl); (simp (disch := omega) only [go_sem, ↓reduceIte, dk, ↓lk, e4, hz, hz2, Int.reduceBEq, Int.reduceBNe, Bool.true_bne, Bool.false_bne, Bool.not_true, Bool.not_false] <;> with_reducible rfl); exact trivial)
        | rfl)
      try rfl
    · have hje : je = 0 := eq_of_beq hz
      subst hje
      repeat (first
        | (apply axJ; (focus ((with_reducible constructor) <;> rfl)))
        | (apply awT mixedOK hΓ (by kernel_rfl); (simp (disch := omega) only [go_sem, ↓reduceIte, dk, ↓lk, e4, hz, hz2, Int.reduceBEq, Int.reduceBNe, Bool.true_bne, Bool.false_bne, Bool.not_true, Bool.not_false] <;> with_reducible rfl))
        | ((first | apply awR hΓ | apply awG | apply awH mixedOK hΓ rfl (by kernel_rfl) | apply ovE rfl); (simp (disch := omega) only [go_sem, ↓reduceIte, dk, ↓lk, e4, hz, hz2, Int.reduceBEq, Int.reduceBNe, Bool.true_bne, Bool.false_bne, Bool.not_true, Bool.not_false] <;> with_reducible rfl); exact trivial)
        | rfl)
      try rfl
end Go.Ab
namespace Go.Ab
open Go Go.RowKit Go.Proofs Go.Shelf
set_option maxRecDepth 100000
set_option maxHeartbeats 16000000
abbrev wk0 : Bs := [99, 111, 109, 112, 105, 108, 101, 32, 97, 46, 115, 114, 99, 32, 116, 111, 32, 97, 46, 111, 32, 119, 105, 116, 104, 32, 120, 32, 121]
abbrev wk1 : Bs := [10, 108, 105, 110, 107, 32, 109, 97, 105, 110, 32, 97, 46, 111, 32, 117, 115, 105, 110, 103, 32, 64, 108, 105, 98, 47, 108, 46, 97, 32, 116, 111, 32, 98, 105, 110, 10]
abbrev wk2 : Bs := [10, 10, 99, 111, 112, 121, 32, 97, 32, 116, 111]
abbrev wk3 : Bs := [99, 111, 112, 121, 32, 116, 111, 32, 116, 111, 32, 98]
abbrev wk4 : Bs := [99, 111, 112, 121, 32, 65, 32, 116, 111, 32, 98]
abbrev wk5 : Bs := [99, 111, 109, 112, 105, 108, 101, 32, 97, 32, 116, 111, 32, 98, 32, 119, 105, 116, 104, 32, 120, 32, 120]
abbrev wkT : Bs := [10, 108, 105, 110, 107, 32, 109, 97, 105, 110, 32, 97, 46, 111, 32, 117, 115, 105, 110, 103, 32, 64, 108, 105, 98, 47, 108, 46, 97, 32, 116, 111, 32, 98, 105, 110]
abbrev wkA : Stp := ⟨0, 1, [[97, 46, 115, 114, 99]], [], [[120], [121]], [97, 46, 111]⟩
abbrev wkB : Stp := ⟨1, 4, [[97, 46, 111]], [[64, 108, 105, 98, 47, 108, 46, 97]], [[109, 97, 105, 110]], [98, 105, 110]⟩
theorem wk_p0 : parseR wk0 = ([wkA], -1, 0) := by kernel_rfl
theorem wk_p1 : parseR wk1 = ([wkB], -1, 0) := by kernel_rfl
theorem wk_p2 : parseR wk2 = ([], 2, 4) := by kernel_rfl
theorem wk_p3 : parseR wk3 = ([], 0, 4) := by kernel_rfl
theorem wk_p4 : parseR wk4 = ([], 0, 2) := by kernel_rfl
theorem wk_p5 : parseR wk5 = ([], 0, 6) := by kernel_rfl
theorem wk_pr : printPl [wkB] = (wkT, 0) := by kernel_rfl
theorem wk_c1 : checkP wkA = 0 := by kernel_rfl
theorem wk_c2 : checkP zStp = 1 := by kernel_rfl
theorem wk_s : sameB wkA wkA = true := by kernel_rfl
theorem wkA_px : PX wkA := ⟨by decide, by decide, by decide, by decide⟩
theorem wkB_px : PX wkB := ⟨by decide, by decide, by decide, by decide⟩
theorem wkZ_px : PX zStp := ⟨by decide, by decide, by decide, by decide⟩
theorem f_checkPt_ok : PureOK Tryd.prog 13 true g_checkPr := fun ds d hd => ⟨fun _ => by obtain ⟨x, _, _, rfl⟩ := encSpec_some hd; exact .int _ _, (f_checkPr_ok ds d hd).2⟩
noncomputable def g_awake : List D → Option D := encSpec (fun _ : Unit => []) (fun _ => True) (fun _ => .bool true)
theorem g_awake_eq : g_awake [] = some (.bool true) := encSpec_eq (x := ()) trivial fun _ _ => rfl
theorem f_awake_ok : PureOK Tryd.prog 6 true g_awake := by
  have hΓ := (Γp f_parseP_ok (Γp f_printPr_ok (Γp f_checkPt_ok (Γp f_same14_ok (Γp f_equalS_ok (Γn))))))
  refine pure_enc (n := 140) (rs := [.tmp 0]) Tryd.func6 (by kernel_rfl) rfl (by kernel_rfl) (by kernel_rfl) ?_
  rintro _ _
  refine ⟨fun _ => .bool _, fun k hz0 => ?_⟩
  have p0 := g_parseP_eq (s := wk0) (by decide)
  rw [wk_p0] at p0
  have p1 := g_parseP_eq (s := wk1) (by decide)
  rw [wk_p1] at p1
  have p2 := g_parseP_eq (s := wk2) (by decide)
  rw [wk_p2] at p2
  have p3 := g_parseP_eq (s := wk3) (by decide)
  rw [wk_p3] at p3
  have p4 := g_parseP_eq (s := wk4) (by decide)
  rw [wk_p4] at p4
  have p5 := g_parseP_eq (s := wk5) (by decide)
  rw [wk_p5] at p5
  have q1 := g_printPr_eq (l := [wkB]) ⟨by decide, fun w hw => by rw [List.mem_singleton.1 hw]; exact wkB_px⟩
  rw [wk_pr] at q1
  have q2 := g_checkPr_eq wkA_px
  rw [wk_c1] at q2
  have q3 := g_checkPr_eq wkZ_px
  rw [wk_c2] at q3
  have q4 := g_same14_eq (x := wkA) (y := wkA) ⟨wkA_px.ok, wkA_px.ok⟩
  rw [wk_s] at q4
  have q5 := g_equalS_eq (a := [[64, 108, 105, 98, 47, 108, 46, 97]]) (b := [[64, 108, 105, 98, 47, 108, 46, 97]]) ⟨by decide, by decide⟩
  rw [BEq.rfl] at q5
  simp only [ePs, eSE, eSt_eq, List.map_cons, List.map_nil, zStp] at p0 p1 p2 p3 p4 p5 q1 q2 q3 q4 q5
  have n1 : ((1 : Nat) : Int) = 1 := rfl
  have n2 : (((1 : Nat) : Int) == 1) = true := rfl
  have n3 : (((0 + 1 : Nat) : Int) == 1) = true := rfl
  have n4 : ∀ d : D, ((([d] : List D).length : Int) == 1) = true := fun _ => rfl
  rw [start_frame (by simp)]; simp only [enumV, go_sem, emptyH]
  repeat (first
    | (apply axJ; (focus ((with_reducible constructor) <;> rfl)))
    | (apply awT mixedOK hΓ (by kernel_rfl); (simp (disch := omega) only [go_sem, ↓reduceIte, dk, ↓lk, Int.reduceBEq, Int.reduceBNe, Bool.true_bne, Bool.false_bne, Bool.not_true, Bool.not_false, Int.reduceToNat, List.getElem?_cons_zero, List.getElem?_cons_succ, BEq.rfl, ↓ty_build34, p0, p1, p2, p3, p4, p5, q1] <;> with_reducible rfl))
    | ((first | apply awR hΓ | apply awG | apply awH mixedOK hΓ rfl (by kernel_rfl) | apply ovE rfl); (simp (disch := omega) only [go_sem, ↓reduceIte, dk, ↓lk, Int.reduceBEq, Int.reduceBNe, Bool.true_bne, Bool.false_bne, Bool.not_true, Bool.not_false, Int.reduceToNat, List.getElem?_cons_zero, List.getElem?_cons_succ, BEq.rfl, ↓ty_build34, p0, p1, p2, p3, p4, p5, q1] <;> with_reducible rfl); exact trivial)
    | rfl)
  refine awp_weak (show Weak _ _ _ ((frame 140 [(1, .data (.list [.agg [.int .i64 0, .int .i64 1, .list [.str [97, 46, 115, 114, 99]], .list [], .list [.str [120], .str [121]], .str [97, 46, 111]]])), (3, .data (.int .i64 0)), (4, .data (.list [.agg [.int .i64 1, .int .i64 4, .list [.str [97, 46, 111]], .list [.str [64, 108, 105, 98, 47, 108, 46, 97]], .list [.str [109, 97, 105, 110]], .str [98, 105, 110]]])), (5, .data (.int .i64 (-1))), (6, .data (.int .i64 0)), (8, .data (.int .i64 2)), (9, .data (.int .i64 4)), (12, .data (.int .i64 4)), (15, .data (.int .i64 2)), (18, .data (.int .i64 6)), (19, .data (.str wkT)), (20, .data (.int .i64 0))])) ⟨[], 56⟩ from Weak.w) ?_
  apply awR hΓ
  · simp (maxSteps := 4000000) (disch := omega) only [go_sem, ↓reduceIte, n1, dk, ↓lk, Int.reduceBEq, Int.reduceBNe, Bool.true_bne, Bool.false_bne, Bool.not_true, Bool.not_false, Int.reduceToNat, List.getElem?_cons_zero, List.getElem?_cons_succ, BEq.rfl, List.append_eq, List.cons_append, List.nil_append, ↓ty_build34, p0, p1, p2, p3, p4, p5, q1, q2, q3, q4, q5]
    with_reducible rfl
  exact trivial
  repeat (first
    | (apply axJ; (focus ((with_reducible constructor) <;> rfl)))
    | (apply awT mixedOK hΓ (by kernel_rfl); (simp (disch := omega) only [go_sem, ↓reduceIte, dk] <;> with_reducible rfl))
    | ((first | apply awR hΓ | apply awG | apply awH mixedOK hΓ rfl (by kernel_rfl) | apply ovE rfl); (simp (disch := omega) only [go_sem, ↓reduceIte, dk] <;> with_reducible rfl); exact trivial)
    | rfl)
  try rfl
end Go.Ab
