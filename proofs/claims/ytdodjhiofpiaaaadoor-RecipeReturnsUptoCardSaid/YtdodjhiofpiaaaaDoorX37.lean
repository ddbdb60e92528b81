/-
  One text of the proof (own work): contracts of functions of the program, by the abstract machine.
-/
import Derived.Test.YtdodjhiofpiaaaaDoorX19
import Derived.Test.YtdodjhiofpiaaaaDoorX36
set_option linter.unusedVariables false
set_option linter.unusedSimpArgs false
namespace Go.Ab
open Go Go.RowKit Go.Proofs Go.Shelf
set_option maxRecDepth 10000
set_option maxHeartbeats 16000000
theorem join_S : ∀ (w : Bs) (r : List Bs), [32] ++ Lib.join (w :: r) [32] = listS (w :: r)
  | w, [] => by simp [Lib.join, listS]
  | w, v :: r => by
    have ih := join_S v r
    rw [listS, ← ih]
    simp [Lib.join]
theorem join_le (l : List Bs) : (Lib.join l [32]).length ≤ (listS l).length := by
  cases l with
  | nil => exact Nat.le_refl _
  | cons w r =>
    rw [← join_S, List.length_append]
    omega
theorem beh_le (w : Bs) (l : List Bs) : (listS (behB w l)).length ≤ w.length + 1 + (listS l).length := by
  cases l with
  | nil => simp [behB, listS]
  | cons v r => rw [behB, listS]; simp only [List.length_append, List.length_cons, List.length_nil]; omega
theorem two_le (l : List Bs) : (l.headD []).length + ((l.drop 1).headD []).length ≤ (listS l).length := by
  match l with
  | [] => simp [listS]
  | [a] => simp [listS]
  | a :: b :: r => simp [listS]; omega
theorem words_bd (x : Stp) : (wordsP x).1.length ≤ 5 ∧ (listS (wordsP x).1.flatten).length ≤ (listS x.inn).length + (listS x.usg).length + (listS x.wds).length + x.out.length + 60 := by
  have h1 := beh_le kWith x.wds
  have h2 := beh_le kUsing x.usg
  have h3 := two_le x.inn
  have k1 : kWith.length = 4 := rfl
  have k2 : kUsing.length = 5 := rfl
  rw [k1] at h1
  rw [k2] at h2
  unfold wordsP
  repeat' split
  all_goals
    refine ⟨by simp, ?_⟩
    simp only [List.flatten_cons, List.flatten_nil, listS_append, List.length_append, listS, List.append_nil, List.length_cons, List.length_nil, kCompile, kArchive, kShare, kLink, kRun, kPatch, kCopy, kInstall, kTo, kAs, kOn, kWith] at h1 h2 ⊢
    omega
theorem call_beh (k n : Nat) (x : Obj) (w : Bs) (l : List Bs) (h : l.length ≤ 1000000000) : callLoc k ⟨[(0, x), (4, .box [.data (.clo 37 [])])], n⟩ g_beh [.data (.str w), .data (.list (l.map .str)), .ptr 4 0] =
    some (.data (.list ((behB w l).map .str)), ⟨[(0, x), (4, .box [.data (.clo 37 [])])], k⟩) :=
  (callLoc_of (fp := [4]) rfl rfl rfl (g_beh_eq h) (Nat.le_refl _)).trans rfl
def ePr (p : Bs × Bool) : D := .tup [.str p.1, .bool p.2]
noncomputable def g_printP : List D → Option D := encSpec (fun x : Stp => [eSt x]) PX (fun x => ePr (printP x))
theorem g_printP_eq {x : Stp} (h : PX x) : g_printP [.agg [.int .i64 x.line, .int .i64 x.kind, .list (x.inn.map .str), .list (x.usg.map .str), .list (x.wds.map .str), .str x.out]] = some (.tup [.str (printP x).1, .bool (printP x).2]) :=
  encSpec_eq (enc := fun x : Stp => [eSt x]) (x := x) h fun y hy => by
    simp only [List.cons.injEq, and_true, eSt_ie] at hy
    rw [hy]
theorem f_printP_ok : PureOK Tryd.prog 20 true g_printP := by
  have hΓ := (Γp f_prJ_ok (Γp f_wordD_ok (Γq f_beh_ok (Γn))))
  refine pure_enc (n := 164) (rs := [.tmp 2, .tmp 3]) Tryd.func20 (by kernel_rfl) rfl (by kernel_rfl) (by kernel_rfl) ?_
  intro x hx
  refine ⟨fun _ => .tup _ fun d hd => by simp only [List.mem_cons, List.not_mem_nil, or_false] at hd; rcases hd with rfl | rfl; exact .str _; exact .bool _, fun k hz0 => ?_⟩
  obtain ⟨b1, b2⟩ := words_bd x
  obtain ⟨xi, xu, xw, xo⟩ := hx
  have b3 := join_le (wordsP x).1.flatten
  have b4 := listS_len (wordsP x).1.flatten
  have e1 := g_prJ_eq (ps := (wordsP x).1) ⟨by omega, by omega, by omega⟩
  have ew := fun l : List Bs => fun h : l.length ≤ 1099511627776 => g_wordD_eq (l := l) h
  have eb := fun k n o w => call_beh k n o w x.wds (by have := listS_len x.wds; omega)
  have eu := fun k n o w => call_beh k n o w x.usg (by have := listS_len x.usg; omega)
  have hil := listS_len x.inn
  have hul := listS_len x.usg
  have hwl := listS_len x.wds
  unfold printP
  unfold wordsP at e1 ⊢
  clear b1 b2 b3 b4
  rw [eSt_eq]
  obtain ⟨ln, kd, inn, usg, wds, out⟩ := x
  dsimp only at *
  rw [start_frame (by simp)]; simp only [enumV, go_sem, emptyH]
  generalize h1 : (kd == 1) = k1 at *
  generalize h2 : (kd == 2) = k2 at *
  generalize h3 : (kd == 3) = k3 at *
  generalize h4 : (kd == 4) = k4 at *
  generalize h5 : (kd == 5) = k5 at *
  generalize h6 : (kd == 6) = k6 at *
  generalize h7 : (kd == 7) = k7 at *
  generalize h8 : (kd == 8) = k8 at *
  generalize h9 : ((inn.length : Int) == 2) = k9 at *
  generalize h10 : ((wds.length : Int) == 1) = k10 at *
  repeat (first
    | (apply axJ; (focus ((with_reducible constructor) <;> rfl)))
    | (apply awT mixedOK hΓ (by kernel_rfl); (simp (disch := omega) only [go_sem, ↓reduceIte, dk, ↓lk, h9] <;> with_reducible rfl))
    | ((first | apply awR hΓ | apply awG | apply awH mixedOK hΓ rfl (by kernel_rfl) | apply ovE rfl); (simp (disch := omega) only [go_sem, ↓reduceIte, dk, ↓lk, h9] <;> with_reducible rfl); exact trivial)
    | rfl)
  refine awp_regF (nst := false) 0 (by kernel_rfl : tzero Tryd.prog 67 = some .nilFunc) hΓ rfl rfl rfl (by simp only [runTill, List.take_zero, go_sem, ↓reduceIte]; rfl) ⟨_, ⟨_, _⟩, by simp only [List.drop_succ_cons, List.drop_zero, go_sem, ↓reduceIte]; rfl, ?_⟩
  repeat (first
    | (apply axJ; (focus ((with_reducible constructor) <;> rfl)))
    | (apply awT mixedOK hΓ (by kernel_rfl); (simp (disch := omega) only [go_sem, ↓reduceIte, dk, ↓lk, h9, h1] <;> with_reducible rfl))
    | ((first | apply awR hΓ | apply awG | apply awH mixedOK hΓ rfl (by kernel_rfl) | apply ovE rfl); (simp (disch := omega) only [go_sem, ↓reduceIte, dk, ↓lk, h9, h1] <;> with_reducible rfl); exact trivial)
    | rfl)
  cases k1
  rotate_left
  · skip
    simp only [if_true, Bool.false_eq_true, if_false] at e1 ⊢
    generalize hJ : Lib.join _ [32] = J at *
    have ew0 := ew [kCompile] (by simp)
    have ew1 := ew [kTo, out] (by simp)
    simp only [List.map_cons, List.map_nil, eWd_eq, kCompile, kArchive, kShare, kLink, kRun, kPatch, kCopy, kInstall, kTo, kAs, kOn, kWith, kUsing, List.length_cons, List.length_nil] at e1 ew0 ew1
    repeat (first
      | (apply axJ; (focus ((with_reducible constructor) <;> rfl)))
      | (apply awT mixedOK hΓ (by kernel_rfl); (simp (disch := omega) only [go_sem, ↓reduceIte, dk, ↓lk, h1, h2, h3, h4, h5, h6, h7, h8, h9, h10] <;> with_reducible rfl))
      | ((first | apply awR hΓ | apply awG | apply awH mixedOK hΓ rfl (by kernel_rfl) | apply ovE rfl); (simp (disch := omega) only [go_sem, ↓reduceIte, dk, ↓lk, h1, h2, h3, h4, h5, h6, h7, h8, h9, h10] <;> with_reducible rfl); exact trivial)
      | rfl)
    (apply awp_lane3 (nst := false) (nst' := false) [false, false, false, false, false, false, false, false, false, false, false, false, false, false, true, false, false] mixedOK hΓ (n1 := 17) (by kernel_rfl) (by kernel_rfl); (focus (dsimp only [List.take_succ_cons, List.take_zero, Array.toList]; (repeat (first | (apply lane3_loud; (focus rfl); (focus rfl); (simp (disch := omega) only [go_sem, ↓reduceIte, dk, ↓lk, ew0, ew1, e1, ↓eb, look_upd] <;> with_reducible rfl); (focus (first | (simp (disch := omega) only [go_sem, ↓reduceIte, dk, ↓lk, ew0, ew1, e1, ↓eb, look_upd]; done) | (simp (disch := omega) only [go_sem, ↓reduceIte, dk, ↓lk, ew0, ew1, e1, ↓eb, look_upd]; omega)))) | (apply lane3_quiet; (simp (disch := omega) only [go_sem, ↓reduceIte, dk, ↓lk, ew0, ew1, e1, ↓eb, look_upd] <;> with_reducible rfl)))); exact lane3_nil)); (focus ((repeat' (first | exact True.intro | refine And.intro ?_ ?_)); all_goals (first | (left; decide) | (left; rfl) | (right; simp (disch := omega) only [go_sem, ↓reduceIte, dk, ↓lk, ew0, ew1, e1, ↓eb, look_upd]; try with_reducible rfl)))); (simp (disch := omega) only [go_sem, ↓reduceIte, dk, ↓lk, ew0, ew1, e1, ↓eb, look_upd] <;> with_reducible rfl))
    repeat (first
      | (apply axJ; (focus ((with_reducible constructor) <;> rfl)))
      | (apply awT mixedOK hΓ (by kernel_rfl); (simp (disch := omega) only [go_sem, ↓reduceIte, dk, ↓lk, ew0, ew1, e1, ↓eb, h1, h2, h3, h4, h5, h6, h7, h8, h9, h10] <;> with_reducible rfl))
      | ((first | apply awR hΓ | apply awG | apply awH mixedOK hΓ rfl (by kernel_rfl) | apply ovE rfl); (simp (disch := omega) only [go_sem, ↓reduceIte, dk, ↓lk, ew0, ew1, e1, ↓eb, h1, h2, h3, h4, h5, h6, h7, h8, h9, h10] <;> with_reducible rfl); exact trivial)
      | rfl)
    try rfl
  cases k2
  rotate_left
  · skip
    simp only [if_true, Bool.false_eq_true, if_false] at e1 ⊢
    generalize hJ : Lib.join _ [32] = J at *
    have ew0 := ew [kArchive] (by simp)
    have ew1 := ew [kTo, out] (by simp)
    simp only [List.map_cons, List.map_nil, eWd_eq, kCompile, kArchive, kShare, kLink, kRun, kPatch, kCopy, kInstall, kTo, kAs, kOn, kWith, kUsing, List.length_cons, List.length_nil] at e1 ew0 ew1
    repeat (first
      | (apply axJ; (focus ((with_reducible constructor) <;> rfl)))
      | (apply awT mixedOK hΓ (by kernel_rfl); (simp (disch := omega) only [go_sem, ↓reduceIte, dk, ↓lk, h1, h2, h3, h4, h5, h6, h7, h8, h9, h10] <;> with_reducible rfl))
      | ((first | apply awR hΓ | apply awG | apply awH mixedOK hΓ rfl (by kernel_rfl) | apply ovE rfl); (simp (disch := omega) only [go_sem, ↓reduceIte, dk, ↓lk, h1, h2, h3, h4, h5, h6, h7, h8, h9, h10] <;> with_reducible rfl); exact trivial)
      | rfl)
    (apply awp_regf mixedOK hΓ (by kernel_rfl); (simp (disch := omega) only [go_sem, ↓reduceIte, dk, ↓lk, ew0, ew1, e1] <;> with_reducible rfl); (simp only [go_sem] <;> with_reducible rfl))
    repeat (first
      | (apply axJ; (focus ((with_reducible constructor) <;> rfl)))
      | (apply awT mixedOK hΓ (by kernel_rfl); (simp (disch := omega) only [go_sem, ↓reduceIte, dk, ↓lk, ew0, ew1, e1, h1, h2, h3, h4, h5, h6, h7, h8, h9, h10] <;> with_reducible rfl))
      | ((first | apply awR hΓ | apply awG | apply awH mixedOK hΓ rfl (by kernel_rfl) | apply ovE rfl); (simp (disch := omega) only [go_sem, ↓reduceIte, dk, ↓lk, ew0, ew1, e1, h1, h2, h3, h4, h5, h6, h7, h8, h9, h10] <;> with_reducible rfl); exact trivial)
      | rfl)
    try rfl
  cases k3
  rotate_left
  · skip
    simp only [if_true, Bool.false_eq_true, if_false] at e1 ⊢
    generalize hJ : Lib.join _ [32] = J at *
    have ew0 := ew [kShare] (by simp)
    have ew1 := ew [kTo, out] (by simp)
    simp only [List.map_cons, List.map_nil, eWd_eq, kCompile, kArchive, kShare, kLink, kRun, kPatch, kCopy, kInstall, kTo, kAs, kOn, kWith, kUsing, List.length_cons, List.length_nil] at e1 ew0 ew1
    repeat (first
      | (apply axJ; (focus ((with_reducible constructor) <;> rfl)))
      | (apply awT mixedOK hΓ (by kernel_rfl); (simp (disch := omega) only [go_sem, ↓reduceIte, dk, ↓lk, h1, h2, h3, h4, h5, h6, h7, h8, h9, h10] <;> with_reducible rfl))
      | ((first | apply awR hΓ | apply awG | apply awH mixedOK hΓ rfl (by kernel_rfl) | apply ovE rfl); (simp (disch := omega) only [go_sem, ↓reduceIte, dk, ↓lk, h1, h2, h3, h4, h5, h6, h7, h8, h9, h10] <;> with_reducible rfl); exact trivial)
      | rfl)
    (apply awp_regf mixedOK hΓ (by kernel_rfl); (simp (disch := omega) only [go_sem, ↓reduceIte, dk, ↓lk, ew0, ew1, e1] <;> with_reducible rfl); (simp only [go_sem] <;> with_reducible rfl))
    repeat (first
      | (apply axJ; (focus ((with_reducible constructor) <;> rfl)))
      | (apply awT mixedOK hΓ (by kernel_rfl); (simp (disch := omega) only [go_sem, ↓reduceIte, dk, ↓lk, ew0, ew1, e1, h1, h2, h3, h4, h5, h6, h7, h8, h9, h10] <;> with_reducible rfl))
      | ((first | apply awR hΓ | apply awG | apply awH mixedOK hΓ rfl (by kernel_rfl) | apply ovE rfl); (simp (disch := omega) only [go_sem, ↓reduceIte, dk, ↓lk, ew0, ew1, e1, h1, h2, h3, h4, h5, h6, h7, h8, h9, h10] <;> with_reducible rfl); exact trivial)
      | rfl)
    try rfl
  cases k4
  rotate_left
  · skip
    simp only [if_true, Bool.false_eq_true, if_false] at e1 ⊢
    generalize hJ : Lib.join _ [32] = J at *
    have ew0 := ew [kLink] (by simp)
    have ew1 := ew [kTo, out] (by simp)
    simp only [List.map_cons, List.map_nil, eWd_eq, kCompile, kArchive, kShare, kLink, kRun, kPatch, kCopy, kInstall, kTo, kAs, kOn, kWith, kUsing, List.length_cons, List.length_nil] at e1 ew0 ew1
    repeat (first
      | (apply axJ; (focus ((with_reducible constructor) <;> rfl)))
      | (apply awT mixedOK hΓ (by kernel_rfl); (simp (disch := omega) only [go_sem, ↓reduceIte, dk, ↓lk, h1, h2, h3, h4, h5, h6, h7, h8, h9, h10] <;> with_reducible rfl))
      | ((first | apply awR hΓ | apply awG | apply awH mixedOK hΓ rfl (by kernel_rfl) | apply ovE rfl); (simp (disch := omega) only [go_sem, ↓reduceIte, dk, ↓lk, h1, h2, h3, h4, h5, h6, h7, h8, h9, h10] <;> with_reducible rfl); exact trivial)
      | rfl)
    (apply awp_lane3 (nst := false) (nst' := false) [false, false, false, false, false, false, false, false, false, false, false, true, false, false, false, false, false, false, false, false, false, false, false, false] mixedOK hΓ (n1 := 24) (by kernel_rfl) (by kernel_rfl); (focus (dsimp only [List.take_succ_cons, List.take_zero, Array.toList]; (repeat (first | (apply lane3_loud; (focus rfl); (focus rfl); (simp (disch := omega) only [go_sem, ↓reduceIte, dk, ↓lk, ew0, ew1, e1, ↓eu, look_upd] <;> with_reducible rfl); (focus (first | (simp (disch := omega) only [go_sem, ↓reduceIte, dk, ↓lk, ew0, ew1, e1, ↓eu, look_upd]; done) | (simp (disch := omega) only [go_sem, ↓reduceIte, dk, ↓lk, ew0, ew1, e1, ↓eu, look_upd]; omega)))) | (apply lane3_quiet; (simp (disch := omega) only [go_sem, ↓reduceIte, dk, ↓lk, ew0, ew1, e1, ↓eu, look_upd] <;> with_reducible rfl)))); exact lane3_nil)); (focus ((repeat' (first | exact True.intro | refine And.intro ?_ ?_)); all_goals (first | (left; decide) | (left; rfl) | (right; simp (disch := omega) only [go_sem, ↓reduceIte, dk, ↓lk, ew0, ew1, e1, ↓eu, look_upd]; try with_reducible rfl)))); (simp (disch := omega) only [go_sem, ↓reduceIte, dk, ↓lk, ew0, ew1, e1, ↓eu, look_upd] <;> with_reducible rfl))
    repeat (first
      | (apply axJ; (focus ((with_reducible constructor) <;> rfl)))
      | (apply awT mixedOK hΓ (by kernel_rfl); (simp (disch := omega) only [go_sem, ↓reduceIte, dk, ↓lk, ew0, ew1, e1, ↓eu, h1, h2, h3, h4, h5, h6, h7, h8, h9, h10] <;> with_reducible rfl))
      | ((first | apply awR hΓ | apply awG | apply awH mixedOK hΓ rfl (by kernel_rfl) | apply ovE rfl); (simp (disch := omega) only [go_sem, ↓reduceIte, dk, ↓lk, ew0, ew1, e1, ↓eu, h1, h2, h3, h4, h5, h6, h7, h8, h9, h10] <;> with_reducible rfl); exact trivial)
      | rfl)
    try rfl
  cases k5
  rotate_left
  · cases k9
    · simp only [if_true, Bool.false_eq_true, if_false] at e1 ⊢
      repeat (first
        | (apply axJ; (focus ((with_reducible constructor) <;> rfl)))
        | (apply awT mixedOK hΓ (by kernel_rfl); (simp (disch := omega) only [go_sem, ↓reduceIte, dk, ↓lk, h1, h2, h3, h4, h5, h6, h7, h8, h9, h10] <;> with_reducible rfl))
        | ((first | apply awR hΓ | apply awG | apply awH mixedOK hΓ rfl (by kernel_rfl) | apply ovE rfl); (simp (disch := omega) only [go_sem, ↓reduceIte, dk, ↓lk, h1, h2, h3, h4, h5, h6, h7, h8, h9, h10] <;> with_reducible rfl); exact trivial)
        | rfl)
      try rfl
    · skip
      obtain ⟨a, b, hab⟩ : ∃ a b, inn = [a, b] := by
        have h2' : inn.length = 2 := by have := eq_of_beq h9; omega
        match inn, h2' with
        | [a, b], _ => exact ⟨a, b, rfl⟩
      subst hab
      simp only [List.headD_cons, List.drop_succ_cons, List.drop_zero] at e1 ⊢
      simp only [if_true, Bool.false_eq_true, if_false] at e1 ⊢
      generalize hJ : Lib.join _ [32] = J at *
      have ew0 := ew [kRun, a] (by simp)
      have ew1 := ew [kOn, b, kTo, out] (by simp)
      simp only [List.map_cons, List.map_nil, eWd_eq, kCompile, kArchive, kShare, kLink, kRun, kPatch, kCopy, kInstall, kTo, kAs, kOn, kWith, kUsing, List.length_cons, List.length_nil] at e1 ew0 ew1
      repeat (first
        | (apply axJ; (focus ((with_reducible constructor) <;> rfl)))
        | (apply awT mixedOK hΓ (by kernel_rfl); (simp (disch := omega) only [go_sem, ↓reduceIte, dk, ↓lk, h1, h2, h3, h4, h5, h6, h7, h8, h9, h10] <;> with_reducible rfl))
        | ((first | apply awR hΓ | apply awG | apply awH mixedOK hΓ rfl (by kernel_rfl) | apply ovE rfl); (simp (disch := omega) only [go_sem, ↓reduceIte, dk, ↓lk, h1, h2, h3, h4, h5, h6, h7, h8, h9, h10] <;> with_reducible rfl); exact trivial)
        | rfl)
      (apply awp_lane3 (nst := false) (nst' := false) [false, false, false, false, false, false, false, false, false, false, false, true, false, false, false, false, false, false, false, false, false, false, false] mixedOK hΓ (n1 := 23) (by kernel_rfl) (by kernel_rfl); (focus (dsimp only [List.take_succ_cons, List.take_zero, Array.toList]; (repeat (first | (apply lane3_loud; (focus rfl); (focus rfl); (simp (disch := omega) only [go_sem, ↓reduceIte, dk, ↓lk, ew0, ew1, e1, ↓eu, Int.reduceToNat, List.getElem?_cons_zero, List.getElem?_cons_succ, look_upd] <;> with_reducible rfl); (focus (first | (simp (disch := omega) only [go_sem, ↓reduceIte, dk, ↓lk, ew0, ew1, e1, ↓eu, Int.reduceToNat, List.getElem?_cons_zero, List.getElem?_cons_succ, look_upd]; done) | (simp (disch := omega) only [go_sem, ↓reduceIte, dk, ↓lk, ew0, ew1, e1, ↓eu, Int.reduceToNat, List.getElem?_cons_zero, List.getElem?_cons_succ, look_upd]; omega)))) | (apply lane3_quiet; (simp (disch := omega) only [go_sem, ↓reduceIte, dk, ↓lk, ew0, ew1, e1, ↓eu, Int.reduceToNat, List.getElem?_cons_zero, List.getElem?_cons_succ, look_upd] <;> with_reducible rfl)))); exact lane3_nil)); (focus ((repeat' (first | exact True.intro | refine And.intro ?_ ?_)); all_goals (first | (left; decide) | (left; rfl) | (right; simp (disch := omega) only [go_sem, ↓reduceIte, dk, ↓lk, ew0, ew1, e1, ↓eu, Int.reduceToNat, List.getElem?_cons_zero, List.getElem?_cons_succ, look_upd]; try with_reducible rfl)))); (simp (disch := omega) only [go_sem, ↓reduceIte, dk, ↓lk, ew0, ew1, e1, ↓eu, Int.reduceToNat, List.getElem?_cons_zero, List.getElem?_cons_succ, look_upd] <;> with_reducible rfl))
      repeat (first
        | (apply axJ; (focus ((with_reducible constructor) <;> rfl)))
        | (apply awT mixedOK hΓ (by kernel_rfl); (simp (disch := omega) only [go_sem, ↓reduceIte, dk, ↓lk, ew0, ew1, e1, ↓eu, Int.reduceToNat, List.getElem?_cons_zero, List.getElem?_cons_succ, h1, h2, h3, h4, h5, h6, h7, h8, h9, h10] <;> with_reducible rfl))
        | ((first | apply awR hΓ | apply awG | apply awH mixedOK hΓ rfl (by kernel_rfl) | apply ovE rfl); (simp (disch := omega) only [go_sem, ↓reduceIte, dk, ↓lk, ew0, ew1, e1, ↓eu, Int.reduceToNat, List.getElem?_cons_zero, List.getElem?_cons_succ, h1, h2, h3, h4, h5, h6, h7, h8, h9, h10] <;> with_reducible rfl); exact trivial)
        | rfl)
      try rfl
  cases k6
  rotate_left
  · cases k9
    · simp only [if_true, Bool.false_eq_true, if_false] at e1 ⊢
      repeat (first
        | (apply axJ; (focus ((with_reducible constructor) <;> rfl)))
        | (apply awT mixedOK hΓ (by kernel_rfl); (simp (disch := omega) only [go_sem, ↓reduceIte, dk, ↓lk, h1, h2, h3, h4, h5, h6, h7, h8, h9, h10] <;> with_reducible rfl))
        | ((first | apply awR hΓ | apply awG | apply awH mixedOK hΓ rfl (by kernel_rfl) | apply ovE rfl); (simp (disch := omega) only [go_sem, ↓reduceIte, dk, ↓lk, h1, h2, h3, h4, h5, h6, h7, h8, h9, h10] <;> with_reducible rfl); exact trivial)
        | rfl)
      try rfl
    · skip
      obtain ⟨a, b, hab⟩ : ∃ a b, inn = [a, b] := by
        have h2' : inn.length = 2 := by have := eq_of_beq h9; omega
        match inn, h2' with
        | [a, b], _ => exact ⟨a, b, rfl⟩
      subst hab
      simp only [List.headD_cons, List.drop_succ_cons, List.drop_zero] at e1 ⊢
      simp only [if_true, Bool.false_eq_true, if_false] at e1 ⊢
      generalize hJ : Lib.join _ [32] = J at *
      have ew0 := ew [kPatch, a, kWith, b, kTo, out] (by simp)
      simp only [List.map_cons, List.map_nil, eWd_eq, kCompile, kArchive, kShare, kLink, kRun, kPatch, kCopy, kInstall, kTo, kAs, kOn, kWith, kUsing, List.length_cons, List.length_nil] at e1 ew0
      repeat (first
        | (apply axJ; (focus ((with_reducible constructor) <;> rfl)))
        | (apply awT mixedOK hΓ (by kernel_rfl); (simp (disch := omega) only [go_sem, ↓reduceIte, dk, ↓lk, h1, h2, h3, h4, h5, h6, h7, h8, h9, h10] <;> with_reducible rfl))
        | ((first | apply awR hΓ | apply awG | apply awH mixedOK hΓ rfl (by kernel_rfl) | apply ovE rfl); (simp (disch := omega) only [go_sem, ↓reduceIte, dk, ↓lk, h1, h2, h3, h4, h5, h6, h7, h8, h9, h10] <;> with_reducible rfl); exact trivial)
        | rfl)
      (apply awp_regf mixedOK hΓ (by kernel_rfl); (simp (disch := omega) only [go_sem, ↓reduceIte, dk, ↓lk, ew0, e1, Int.reduceToNat, List.getElem?_cons_zero, List.getElem?_cons_succ] <;> with_reducible rfl); (simp only [go_sem] <;> with_reducible rfl))
      repeat (first
        | (apply axJ; (focus ((with_reducible constructor) <;> rfl)))
        | (apply awT mixedOK hΓ (by kernel_rfl); (simp (disch := omega) only [go_sem, ↓reduceIte, dk, ↓lk, ew0, e1, Int.reduceToNat, List.getElem?_cons_zero, List.getElem?_cons_succ, h1, h2, h3, h4, h5, h6, h7, h8, h9, h10] <;> with_reducible rfl))
        | ((first | apply awR hΓ | apply awG | apply awH mixedOK hΓ rfl (by kernel_rfl) | apply ovE rfl); (simp (disch := omega) only [go_sem, ↓reduceIte, dk, ↓lk, ew0, e1, Int.reduceToNat, List.getElem?_cons_zero, List.getElem?_cons_succ, h1, h2, h3, h4, h5, h6, h7, h8, h9, h10] <;> with_reducible rfl); exact trivial)
        | rfl)
      try rfl
  cases k7
  rotate_left
  · skip
    simp only [if_true, Bool.false_eq_true, if_false] at e1 ⊢
    generalize hJ : Lib.join _ [32] = J at *
    have ew0 := ew [kCopy] (by simp)
    have ew1 := ew [kTo, out] (by simp)
    simp only [List.map_cons, List.map_nil, eWd_eq, kCompile, kArchive, kShare, kLink, kRun, kPatch, kCopy, kInstall, kTo, kAs, kOn, kWith, kUsing, List.length_cons, List.length_nil] at e1 ew0 ew1
    repeat (first
      | (apply axJ; (focus ((with_reducible constructor) <;> rfl)))
      | (apply awT mixedOK hΓ (by kernel_rfl); (simp (disch := omega) only [go_sem, ↓reduceIte, dk, ↓lk, h1, h2, h3, h4, h5, h6, h7, h8, h9, h10] <;> with_reducible rfl))
      | ((first | apply awR hΓ | apply awG | apply awH mixedOK hΓ rfl (by kernel_rfl) | apply ovE rfl); (simp (disch := omega) only [go_sem, ↓reduceIte, dk, ↓lk, h1, h2, h3, h4, h5, h6, h7, h8, h9, h10] <;> with_reducible rfl); exact trivial)
      | rfl)
    (apply awp_regf mixedOK hΓ (by kernel_rfl); (simp (disch := omega) only [go_sem, ↓reduceIte, dk, ↓lk, ew0, ew1, e1] <;> with_reducible rfl); (simp only [go_sem] <;> with_reducible rfl))
    repeat (first
      | (apply axJ; (focus ((with_reducible constructor) <;> rfl)))
      | (apply awT mixedOK hΓ (by kernel_rfl); (simp (disch := omega) only [go_sem, ↓reduceIte, dk, ↓lk, ew0, ew1, e1, h1, h2, h3, h4, h5, h6, h7, h8, h9, h10] <;> with_reducible rfl))
      | ((first | apply awR hΓ | apply awG | apply awH mixedOK hΓ rfl (by kernel_rfl) | apply ovE rfl); (simp (disch := omega) only [go_sem, ↓reduceIte, dk, ↓lk, ew0, ew1, e1, h1, h2, h3, h4, h5, h6, h7, h8, h9, h10] <;> with_reducible rfl); exact trivial)
      | rfl)
    try rfl
  cases k8
  rotate_left
  · skip
    simp only [if_true, Bool.false_eq_true, if_false] at e1 ⊢
    generalize hJ : Lib.join _ [32] = J at *
    have ew0 := ew [kInstall] (by simp)
    have ew1 := ew [kAs, out] (by simp)
    simp only [List.map_cons, List.map_nil, eWd_eq, kCompile, kArchive, kShare, kLink, kRun, kPatch, kCopy, kInstall, kTo, kAs, kOn, kWith, kUsing, List.length_cons, List.length_nil] at e1 ew0 ew1
    repeat (first
      | (apply axJ; (focus ((with_reducible constructor) <;> rfl)))
      | (apply awT mixedOK hΓ (by kernel_rfl); (simp (disch := omega) only [go_sem, ↓reduceIte, dk, ↓lk, h1, h2, h3, h4, h5, h6, h7, h8, h9, h10] <;> with_reducible rfl))
      | ((first | apply awR hΓ | apply awG | apply awH mixedOK hΓ rfl (by kernel_rfl) | apply ovE rfl); (simp (disch := omega) only [go_sem, ↓reduceIte, dk, ↓lk, h1, h2, h3, h4, h5, h6, h7, h8, h9, h10] <;> with_reducible rfl); exact trivial)
      | rfl)
    (apply awp_regf mixedOK hΓ (by kernel_rfl); (simp (disch := omega) only [go_sem, ↓reduceIte, dk, ↓lk, ew0, ew1, e1] <;> with_reducible rfl); (simp only [go_sem] <;> with_reducible rfl))
    repeat (first
      | (apply axJ; (focus ((with_reducible constructor) <;> rfl)))
      | (apply awT mixedOK hΓ (by kernel_rfl); (simp (disch := omega) only [go_sem, ↓reduceIte, dk, ↓lk, ew0, ew1, e1, h1, h2, h3, h4, h5, h6, h7, h8, h9, h10] <;> with_reducible rfl))
      | ((first | apply awR hΓ | apply awG | apply awH mixedOK hΓ rfl (by kernel_rfl) | apply ovE rfl); (simp (disch := omega) only [go_sem, ↓reduceIte, dk, ↓lk, ew0, ew1, e1, h1, h2, h3, h4, h5, h6, h7, h8, h9, h10] <;> with_reducible rfl); exact trivial)
      | rfl)
    try rfl
  simp only [if_true, Bool.false_eq_true, if_false] at e1 ⊢
  repeat (first
    | (apply axJ; (focus ((with_reducible constructor) <;> rfl)))
    | (apply awT mixedOK hΓ (by kernel_rfl); (simp (disch := omega) only [go_sem, ↓reduceIte, dk, ↓lk, h1, h2, h3, h4, h5, h6, h7, h8, h9, h10] <;> with_reducible rfl))
    | ((first | apply awR hΓ | apply awG | apply awH mixedOK hΓ rfl (by kernel_rfl) | apply ovE rfl); (simp (disch := omega) only [go_sem, ↓reduceIte, dk, ↓lk, h1, h2, h3, h4, h5, h6, h7, h8, h9, h10] <;> with_reducible rfl); exact trivial)
    | rfl)
  try rfl
end Go.Ab
