/-
  One text of the proof (own work): contracts of functions of the program, by the abstract machine.
-/
import Derived.Test.YtdodjhiofpiaaaaGreatDoorX19
import Derived.Test.YtdodjhiofpiaaaaGreatDoorX27
set_option linter.unusedVariables false
set_option linter.unusedSimpArgs false
namespace Go.Ab
open Go Go.RowKit Go.Proofs
set_option maxRecDepth 10000
set_option maxHeartbeats 16000000
def listS : List Bs → Bs
  | [] => []
  | w :: r => [32] ++ w ++ listS r
theorem listS_append (a b : List Bs) : listS (a ++ b) = listS a ++ listS b := by
  induction a with
  | nil => rfl
  | cons g a ih => rw [List.cons_append, listS, ih, listS]; simp
theorem listS_step {l : List Bs} {i : Nat} (hi : i < l.length) : listS (l.take (i + 1)) = listS (l.take i) ++ [32] ++ l[i] := by
  rw [List.take_add_one, List.getElem?_eq_getElem hi, listS_append]
  simp [listS]
theorem listS_le (l : List Bs) (i : Nat) : (listS (l.take i)).length ≤ (listS l).length := by
  conv => rhs; rw [← List.take_append_drop i l, listS_append]
  rw [List.length_append]
  omega
theorem listS_ge (l : List Bs) (i : Nat) : (listS (l.drop i)).length ≤ (listS l).length := by
  conv => rhs; rw [← List.take_append_drop i l, listS_append]
  rw [List.length_append]
  omega
theorem listS_len : ∀ l : List Bs, l.length ≤ (listS l).length
  | [] => Nat.le_refl _
  | w :: r => by
    have := listS_len r
    rw [listS]
    simp only [List.length_append, List.length_cons, List.length_nil]
    omega
theorem listS_hd (l : List Bs) : (l.headD []).length ≤ (listS l).length := by
  cases l with
  | nil => exact Nat.le_refl _
  | cons w r => rw [listS]; simp only [List.headD_cons, List.length_append]; omega
noncomputable def g_list14 : List D → Option D := encSpec (fun x : (List Bs) => [.list (x.map .str)]) (fun x : (List Bs) => (listS x).length ≤ 1099511627776) (fun x : (List Bs) => .str (listS x))
theorem g_list14_eq {l : List Bs} (hd : (listS l).length ≤ 1099511627776) : g_list14 [.list (l.map .str)] = some (.str (listS l)) := encSpec_eq (x := l) hd fun y hy => by
    simp only [List.cons.injEq, and_true, true_and, D.str.injEq, D.int.injEq, D.list.injEq, D.bool.injEq, D.agg.injEq, D.clo.injEq, Int.natCast_inj, inj_ie] at hy
    rw [hy]
theorem f_list14_ok : PureOK Tryz.prog 60 true g_list14 := by
  have hΓ := Γ0_ok
  refine pure_enc (n := 18) (rs := [.tmp 2]) Tryz.func60 (by kernel_rfl) rfl (by kernel_rfl) (by kernel_rfl) ?_
  rintro l hd
  (try dsimp only at hd ⊢)
  refine ⟨fun _ => by (repeat (first | exact .int _ _ | exact .bool _ | exact .str _ | (refine .tup _ (fun d hd => ?_); simp only [List.mem_cons, List.not_mem_nil, or_false] at hd; rcases hd with rfl | hd))), fun k hz0 => ?_⟩
  have hl := listS_len l
  rw [start_frame (by simp)]; simp only [enumV, go_sem, emptyH]
  repeat (first
    | (apply axJ; (focus ((with_reducible constructor) <;> rfl)))
    | (apply awT mixedOK hΓ (by kernel_rfl); (simp (disch := omega) only [go_sem, ↓reduceIte, dk, ↓lk] <;> with_reducible rfl))
    | ((first | apply awR hΓ | apply awG | apply awH mixedOK hΓ rfl (by kernel_rfl) | apply ovE rfl); (simp (disch := omega) only [go_sem, ↓reduceIte, dk, ↓lk] <;> with_reducible rfl); exact trivial)
    | rfl)
  refine awp_loop_at (X := Nat) (fun i => (frame 18 [(3, .data (.str (listS (l.take i)))), (6, .data (.list (l.map .str))), (7, .data (i64 l.length)), (8, .data (i64 i))])) (fun _ => []) 5
    (fun i => i ≤ l.length) (fun i => l.length - i) 0 (Nat.zero_le _) (Weak.v (by (simp [ConvF, lookV, Conv, ints, listS]; done)) (by (simp (disch := omega) only [TabSub, look, if_pos, if_neg, Obj.refsOK, refsOKs, AV.refsOK, decide_eq_true_eq, Bool.and_true, Bool.and_self, listS] ) <;> ((repeat' apply And.intro) <;> first | exact True.intro | omega | (simp; done) | rfl))) ?_
  intro i hi
  (try dsimp only at hi ⊢)
  by_cases hi2 : i < l.length
  · have hst := listS_step hi2
    have hle := listS_le l (i + 1)
    rw [hst] at hle
    simp only [List.length_append, List.length_cons, List.length_nil] at hle
    generalize hy : l[i] = g at *
    repeat (first
      | (apply axJ; (focus ((with_reducible constructor) <;> rfl)))
      | (apply awT mixedOK hΓ (by kernel_rfl); (simp (disch := (first | omega | (simp only [maxLen, List.length_append, List.length_cons, List.length_nil]; omega))) only [go_sem, ↓reduceIte, decide_eq_true, decide_eq_false, if_pos, if_neg, wrap_in, ↓lk, ↓if_pos, ↓if_neg, hy] <;> with_reducible rfl))
      | ((first | apply awR hΓ | apply awG | apply awH mixedOK hΓ rfl (by kernel_rfl) | apply ovE rfl); (simp (disch := (first | omega | (simp only [maxLen, List.length_append, List.length_cons, List.length_nil]; omega))) only [go_sem, ↓reduceIte, decide_eq_true, decide_eq_false, if_pos, if_neg, wrap_in, ↓lk, ↓if_pos, ↓if_neg, hy] <;> with_reducible rfl); exact trivial)
      | rfl)
    exact ⟨i + 1, by omega, by omega, by rw [hst]; exact Weak.w⟩
  · have hi3 : i = l.length := by omega
    subst hi3
    rw [List.take_length]
    repeat (first
      | (apply axJ; (focus ((with_reducible constructor) <;> rfl)))
      | (apply awT mixedOK hΓ (by kernel_rfl); (simp (disch := omega) only [go_sem, ↓reduceIte, dk, ↓lk] <;> with_reducible rfl))
      | ((first | apply awR hΓ | apply awG | apply awH mixedOK hΓ rfl (by kernel_rfl) | apply ovE rfl); (simp (disch := omega) only [go_sem, ↓reduceIte, dk, ↓lk] <;> with_reducible rfl); exact trivial)
      | rfl)
    try rfl
def usgS (x : Stp) : Bs := if decide ((x.usg.length : Int) > 0) then [32, 117, 115, 105, 110, 103] ++ listS x.usg else []
def txA (nm to : Bs) (x : Stp) : Bs := nm ++ listS x.wds ++ listS x.inn ++ usgS x ++ to ++ x.out
def txB (nm md : Bs) (x : Stp) : Bs := nm ++ listS x.wds ++ [32] ++ x.inn.headD [] ++ usgS x ++ md ++ listS (x.inn.drop 1) ++ [32, 116, 111, 32] ++ x.out
def txC (x : Stp) : Bs := [99, 111, 109, 112, 105, 108, 101] ++ listS x.inn ++ usgS x ++ [32, 116, 111, 32] ++ x.out
def textS (x : Stp) : Bs :=
  if x.kind == 1 then (if decide ((x.wds.length : Int) > 0) then txC x ++ [32, 119, 105, 116, 104] ++ listS x.wds else txC x)
  else if x.kind == 2 then txA [97, 114, 99, 104, 105, 118, 101] [32, 116, 111, 32] x
  else if x.kind == 3 then txA [115, 104, 97, 114, 101] [32, 116, 111, 32] x
  else if x.kind == 4 then txA [108, 105, 110, 107] [32, 116, 111, 32] x
  else if x.kind == 5 then txB [114, 117, 110] [32, 111, 110] x
  else if x.kind == 6 then txB [112, 97, 116, 99, 104] [32, 119, 105, 116, 104] x
  else if x.kind == 7 then txA [99, 111, 112, 121] [32, 116, 111, 32] x
  else if x.kind == 8 then txA [105, 110, 115, 116, 97, 108, 108] [32, 97, 115, 32] x
  else [32]
structure TX (x : Stp) : Prop where
  i : (listS x.inn).length ≤ 1000000000
  u : (listS x.usg).length ≤ 1000000000
  w : (listS x.wds).length ≤ 1000000000
  o : x.out.length ≤ 1000000000
noncomputable def g_text14 : List D → Option D := encSpec (fun x : Stp => [eSt x]) TX (fun x => .str (textS x))
theorem g_text14_eq {x : Stp} (h : TX x) : g_text14 [.agg [.int .i64 x.line, .int .i64 x.kind, .list (x.inn.map .str), .list (x.usg.map .str), .list (x.wds.map .str), .str x.out]] = some (.str (textS x)) :=
  encSpec_eq (enc := fun x : Stp => [eSt x]) (x := x) h fun y hy => by
    simp only [List.cons.injEq, and_true, eSt_ie] at hy
    rw [hy]
theorem f_text14_ok : PureOK Tryz.prog 31 true g_text14 := by
  have hΓ := (Γp f_list14_ok (Γp f_firstR_ok (Γn)))
  refine pure_enc (n := 172) (rs := [.tmp 2]) Tryz.func31 (by kernel_rfl) rfl (by kernel_rfl) (by kernel_rfl) ?_
  rintro x ⟨hi, hu, hw, ho⟩
  refine ⟨fun _ => .str _, fun k hz0 => ?_⟩
  have ei := g_list14_eq (l := x.inn) (Nat.le_trans hi (by decide))
  have eu := g_list14_eq (l := x.usg) (Nat.le_trans hu (by decide))
  have ew := g_list14_eq (l := x.wds) (Nat.le_trans hw (by decide))
  have ed := g_list14_eq (l := x.inn.drop 1) (Nat.le_trans (listS_ge _ _) (Nat.le_trans hi (by decide)))
  have hil := listS_len x.inn
  have hul := listS_len x.usg
  have hwl := listS_len x.wds
  have ef := g_firstR_eq (l := x.inn) (by omega)
  have hfl := listS_hd x.inn
  have hdl := listS_ge x.inn 1
  have htx : textS x = textS x := rfl
  generalize hT : textS x = T
  clear htx
  unfold textS txA txB txC at hT
  have hus : usgS x = if decide ((x.usg.length : Int) > 0) then [32, 117, 115, 105, 110, 103] ++ listS x.usg else [] := rfl
  rw [eSt_eq]
  generalize usgS x = us at *
  rw [start_frame (by simp)]; simp only [enumV, go_sem, emptyH]
  generalize listS x.inn = si at *
  generalize listS x.usg = su at *
  generalize listS x.wds = sw at *
  generalize listS (x.inn.drop 1) = sd at *
  generalize x.inn.headD [] = sf at *
  generalize hbu : decide ((x.usg.length : Int) > 0) = bu at *
  generalize hbw : decide ((x.wds.length : Int) > 0) = bw at *
  generalize hk1 : (x.kind == 1) = k1 at *
  generalize hk2 : (x.kind == 2) = k2 at *
  generalize hk3 : (x.kind == 3) = k3 at *
  generalize hk4 : (x.kind == 4) = k4 at *
  generalize hk5 : (x.kind == 5) = k5 at *
  generalize hk6 : (x.kind == 6) = k6 at *
  generalize hk7 : (x.kind == 7) = k7 at *
  generalize hk8 : (x.kind == 8) = k8 at *
  repeat (first
    | (apply axJ; (focus ((with_reducible constructor) <;> rfl)))
    | (apply awT mixedOK hΓ (by kernel_rfl); (simp (disch := omega) only [go_sem, ↓reduceIte, dk, ↓lk, hbu] <;> with_reducible rfl))
    | ((first | apply awR hΓ | apply awG | apply awH mixedOK hΓ rfl (by kernel_rfl) | apply ovE rfl); (simp (disch := omega) only [go_sem, ↓reduceIte, dk, ↓lk, hbu] <;> with_reducible rfl); exact trivial)
    | rfl)
  refine awp_mid (fun _ : Unit => (frame 172 [(1, .ptr 0 0), (3, .data (.str us))])) (fun _ => [(0, .box [.data (.int .i64 x.line), .data (.int .i64 x.kind), .data (.list (x.inn.map .str)), .data (.list (x.usg.map .str)), .data (.list (x.wds.map .str)), .data (.str x.out)])]) 20 (fun _ => True) ?_ ?_
  · cases bu
    · simp only [Bool.false_eq_true, if_false] at hus
      rw [hus]
      repeat (first
        | (apply axJ; (focus ((with_reducible constructor) <;> rfl)))
        | (apply awT mixedOK hΓ (by kernel_rfl); (simp (disch := (first | omega | (simp only [maxLen, List.length_append, List.length_cons, List.length_nil]; omega))) only [go_sem, ↓reduceIte, decide_eq_true, decide_eq_false, if_pos, if_neg, wrap_in, ↓lk, ↓if_pos, ↓if_neg, eu] <;> with_reducible rfl))
        | ((first | apply awR hΓ | apply awG | apply awH mixedOK hΓ rfl (by kernel_rfl) | apply ovE rfl); (simp (disch := (first | omega | (simp only [maxLen, List.length_append, List.length_cons, List.length_nil]; omega))) only [go_sem, ↓reduceIte, decide_eq_true, decide_eq_false, if_pos, if_neg, wrap_in, ↓lk, ↓if_pos, ↓if_neg, eu] <;> with_reducible rfl); exact trivial)
        | rfl)
      exact ⟨(), trivial, Weak.w⟩
    · simp only [if_true] at hus
      rw [hus]
      repeat (first
        | (apply axJ; (focus ((with_reducible constructor) <;> rfl)))
        | (apply awT mixedOK hΓ (by kernel_rfl); (simp (disch := (first | omega | (simp only [maxLen, List.length_append, List.length_cons, List.length_nil]; omega))) only [go_sem, ↓reduceIte, decide_eq_true, decide_eq_false, if_pos, if_neg, wrap_in, ↓lk, ↓if_pos, ↓if_neg, eu] <;> with_reducible rfl))
        | ((first | apply awR hΓ | apply awG | apply awH mixedOK hΓ rfl (by kernel_rfl) | apply ovE rfl); (simp (disch := (first | omega | (simp only [maxLen, List.length_append, List.length_cons, List.length_nil]; omega))) only [go_sem, ↓reduceIte, decide_eq_true, decide_eq_false, if_pos, if_neg, wrap_in, ↓lk, ↓if_pos, ↓if_neg, eu] <;> with_reducible rfl); exact trivial)
        | rfl)
      exact ⟨(), trivial, Weak.w⟩
  · intro _ _
    have hul2 : us.length ≤ su.length + 6 := by
      rw [hus]
      split
      · simp only [List.length_append, List.length_cons, List.length_nil]; omega
      · simp
    clear hus hbu
    cases k1
    rotate_left
    · simp only [Bool.false_eq_true, if_false, if_true] at hT
      repeat (first
        | (apply axJ; (focus ((with_reducible constructor) <;> rfl)))
        | (apply awT mixedOK hΓ (by kernel_rfl); (simp (disch := (first | omega | (simp only [maxLen, List.length_append, List.length_cons, List.length_nil]; omega))) only [go_sem, ↓reduceIte, decide_eq_true, decide_eq_false, if_pos, if_neg, wrap_in, ↓lk, ↓if_pos, ↓if_neg, hbw, hk1, hk2, hk3, hk4, hk5, hk6, hk7, hk8, ei, ew] <;> with_reducible rfl))
        | ((first | apply awR hΓ | apply awG | apply awH mixedOK hΓ rfl (by kernel_rfl) | apply ovE rfl); (simp (disch := (first | omega | (simp only [maxLen, List.length_append, List.length_cons, List.length_nil]; omega))) only [go_sem, ↓reduceIte, decide_eq_true, decide_eq_false, if_pos, if_neg, wrap_in, ↓lk, ↓if_pos, ↓if_neg, hbw, hk1, hk2, hk3, hk4, hk5, hk6, hk7, hk8, ei, ew] <;> with_reducible rfl); exact trivial)
        | rfl)
      cases bw
      · simp only [Bool.false_eq_true, if_false, if_true] at hT
        rw [← hT]
        repeat (first
          | (apply axJ; (focus ((with_reducible constructor) <;> rfl)))
          | (apply awT mixedOK hΓ (by kernel_rfl); (simp (disch := (first | omega | (simp only [maxLen, List.length_append, List.length_cons, List.length_nil]; omega))) only [go_sem, ↓reduceIte, decide_eq_true, decide_eq_false, if_pos, if_neg, wrap_in, ↓lk, ↓if_pos, ↓if_neg, hbw, hk1, hk2, hk3, hk4, hk5, hk6, hk7, hk8, ei, ew] <;> with_reducible rfl))
          | ((first | apply awR hΓ | apply awG | apply awH mixedOK hΓ rfl (by kernel_rfl) | apply ovE rfl); (simp (disch := (first | omega | (simp only [maxLen, List.length_append, List.length_cons, List.length_nil]; omega))) only [go_sem, ↓reduceIte, decide_eq_true, decide_eq_false, if_pos, if_neg, wrap_in, ↓lk, ↓if_pos, ↓if_neg, hbw, hk1, hk2, hk3, hk4, hk5, hk6, hk7, hk8, ei, ew] <;> with_reducible rfl); exact trivial)
          | rfl)
        try simp only [List.append_assoc, List.cons_append, List.nil_append]
      · simp only [Bool.false_eq_true, if_false, if_true] at hT
        rw [← hT]
        repeat (first
          | (apply axJ; (focus ((with_reducible constructor) <;> rfl)))
          | (apply awT mixedOK hΓ (by kernel_rfl); (simp (disch := (first | omega | (simp only [maxLen, List.length_append, List.length_cons, List.length_nil]; omega))) only [go_sem, ↓reduceIte, decide_eq_true, decide_eq_false, if_pos, if_neg, wrap_in, ↓lk, ↓if_pos, ↓if_neg, hbw, hk1, hk2, hk3, hk4, hk5, hk6, hk7, hk8, ei, ew] <;> with_reducible rfl))
          | ((first | apply awR hΓ | apply awG | apply awH mixedOK hΓ rfl (by kernel_rfl) | apply ovE rfl); (simp (disch := (first | omega | (simp only [maxLen, List.length_append, List.length_cons, List.length_nil]; omega))) only [go_sem, ↓reduceIte, decide_eq_true, decide_eq_false, if_pos, if_neg, wrap_in, ↓lk, ↓if_pos, ↓if_neg, hbw, hk1, hk2, hk3, hk4, hk5, hk6, hk7, hk8, ei, ew] <;> with_reducible rfl); exact trivial)
          | rfl)
        try simp only [List.append_assoc, List.cons_append, List.nil_append]
    cases k2
    rotate_left
    · simp only [Bool.false_eq_true, if_false, if_true] at hT
      rw [← hT]
      repeat (first
        | (apply axJ; (focus ((with_reducible constructor) <;> rfl)))
        | (apply awT mixedOK hΓ (by kernel_rfl); (simp (disch := (first | omega | (simp only [maxLen, List.length_append, List.length_cons, List.length_nil]; omega))) only [go_sem, ↓reduceIte, decide_eq_true, decide_eq_false, if_pos, if_neg, wrap_in, ↓lk, ↓if_pos, ↓if_neg, hbw, hk1, hk2, hk3, hk4, hk5, hk6, hk7, hk8, ei, ew] <;> with_reducible rfl))
        | ((first | apply awR hΓ | apply awG | apply awH mixedOK hΓ rfl (by kernel_rfl) | apply ovE rfl); (simp (disch := (first | omega | (simp only [maxLen, List.length_append, List.length_cons, List.length_nil]; omega))) only [go_sem, ↓reduceIte, decide_eq_true, decide_eq_false, if_pos, if_neg, wrap_in, ↓lk, ↓if_pos, ↓if_neg, hbw, hk1, hk2, hk3, hk4, hk5, hk6, hk7, hk8, ei, ew] <;> with_reducible rfl); exact trivial)
        | rfl)
      try simp only [List.append_assoc, List.cons_append, List.nil_append]
    cases k3
    rotate_left
    · simp only [Bool.false_eq_true, if_false, if_true] at hT
      rw [← hT]
      repeat (first
        | (apply axJ; (focus ((with_reducible constructor) <;> rfl)))
        | (apply awT mixedOK hΓ (by kernel_rfl); (simp (disch := (first | omega | (simp only [maxLen, List.length_append, List.length_cons, List.length_nil]; omega))) only [go_sem, ↓reduceIte, decide_eq_true, decide_eq_false, if_pos, if_neg, wrap_in, ↓lk, ↓if_pos, ↓if_neg, hbw, hk1, hk2, hk3, hk4, hk5, hk6, hk7, hk8, ei, ew] <;> with_reducible rfl))
        | ((first | apply awR hΓ | apply awG | apply awH mixedOK hΓ rfl (by kernel_rfl) | apply ovE rfl); (simp (disch := (first | omega | (simp only [maxLen, List.length_append, List.length_cons, List.length_nil]; omega))) only [go_sem, ↓reduceIte, decide_eq_true, decide_eq_false, if_pos, if_neg, wrap_in, ↓lk, ↓if_pos, ↓if_neg, hbw, hk1, hk2, hk3, hk4, hk5, hk6, hk7, hk8, ei, ew] <;> with_reducible rfl); exact trivial)
        | rfl)
      try simp only [List.append_assoc, List.cons_append, List.nil_append]
    cases k4
    rotate_left
    · simp only [Bool.false_eq_true, if_false, if_true] at hT
      rw [← hT]
      repeat (first
        | (apply axJ; (focus ((with_reducible constructor) <;> rfl)))
        | (apply awT mixedOK hΓ (by kernel_rfl); (simp (disch := (first | omega | (simp only [maxLen, List.length_append, List.length_cons, List.length_nil]; omega))) only [go_sem, ↓reduceIte, decide_eq_true, decide_eq_false, if_pos, if_neg, wrap_in, ↓lk, ↓if_pos, ↓if_neg, hbw, hk1, hk2, hk3, hk4, hk5, hk6, hk7, hk8, ei, ew] <;> with_reducible rfl))
        | ((first | apply awR hΓ | apply awG | apply awH mixedOK hΓ rfl (by kernel_rfl) | apply ovE rfl); (simp (disch := (first | omega | (simp only [maxLen, List.length_append, List.length_cons, List.length_nil]; omega))) only [go_sem, ↓reduceIte, decide_eq_true, decide_eq_false, if_pos, if_neg, wrap_in, ↓lk, ↓if_pos, ↓if_neg, hbw, hk1, hk2, hk3, hk4, hk5, hk6, hk7, hk8, ei, ew] <;> with_reducible rfl); exact trivial)
        | rfl)
      try simp only [List.append_assoc, List.cons_append, List.nil_append]
    cases k5
    rotate_left
    · simp only [Bool.false_eq_true, if_false, if_true] at hT
      rcases hxi : x.inn with _ | ⟨w0, r0⟩
      · rw [hxi] at ei ef ed
        rw [← hT]
        simp only [List.map_cons, List.map_nil, List.drop_nil] at ei ef ed ⊢
        obtain rfl : si = sd := by rw [ei] at ed; cases ed; rfl
        simp only [hxi, List.length_cons, List.length_nil] at hil
        repeat (first
          | (apply axJ; (focus ((with_reducible constructor) <;> rfl)))
          | (apply awT mixedOK hΓ (by kernel_rfl); (simp (disch := (first | omega | (simp only [maxLen, List.length_append, List.length_cons, List.length_nil]; omega))) only [go_sem, ↓reduceIte, decide_eq_true, decide_eq_false, if_pos, if_neg, wrap_in, ↓lk, ↓if_pos, ↓if_neg, hbw, hk1, hk2, hk3, hk4, hk5, hk6, hk7, hk8, ei, ew, hxi, ef, ed] <;> with_reducible rfl))
          | ((first | apply awR hΓ | apply awG | apply awH mixedOK hΓ rfl (by kernel_rfl) | apply ovE rfl); (simp (disch := (first | omega | (simp only [maxLen, List.length_append, List.length_cons, List.length_nil]; omega))) only [go_sem, ↓reduceIte, decide_eq_true, decide_eq_false, if_pos, if_neg, wrap_in, ↓lk, ↓if_pos, ↓if_neg, hbw, hk1, hk2, hk3, hk4, hk5, hk6, hk7, hk8, ei, ew, hxi, ef, ed] <;> with_reducible rfl); exact trivial)
          | rfl)
        try simp only [List.append_assoc, List.cons_append, List.nil_append]
      · rw [hxi] at ei ef ed
        rw [← hT]
        simp only [List.map_cons, List.map_nil, List.drop_succ_cons, List.drop_zero] at ei ef ed ⊢
        simp only [hxi, List.length_cons, List.length_nil] at hil
        have hmn : min (1 : Int) ((r0.length : Int) + 1) = 1 := by omega
        have hmn2 : min (1 : Int) ((r0.length + 1 : Nat) : Int) = 1 := by omega
        have hdr : List.take (r0.length + 1 - 1) (List.map D.str r0) = List.map D.str r0 := List.take_of_length_le (by simp)
        repeat (first
          | (apply axJ; (focus ((with_reducible constructor) <;> rfl)))
          | (apply awT mixedOK hΓ (by kernel_rfl); (simp (disch := (first | omega | (simp only [maxLen, List.length_append, List.length_cons, List.length_nil]; omega))) only [go_sem, ↓reduceIte, decide_eq_true, decide_eq_false, if_pos, if_neg, wrap_in, ↓lk, ↓if_pos, ↓if_neg, hbw, hk1, hk2, hk3, hk4, hk5, hk6, hk7, hk8, ei, ew, hxi, ef, ed, hmn, hmn2, hdr, Int.reduceToNat, List.length_cons, List.length_map, List.drop_succ_cons, List.drop_zero] <;> with_reducible rfl))
          | ((first | apply awR hΓ | apply awG | apply awH mixedOK hΓ rfl (by kernel_rfl) | apply ovE rfl); (simp (disch := (first | omega | (simp only [maxLen, List.length_append, List.length_cons, List.length_nil]; omega))) only [go_sem, ↓reduceIte, decide_eq_true, decide_eq_false, if_pos, if_neg, wrap_in, ↓lk, ↓if_pos, ↓if_neg, hbw, hk1, hk2, hk3, hk4, hk5, hk6, hk7, hk8, ei, ew, hxi, ef, ed, hmn, hmn2, hdr, Int.reduceToNat, List.length_cons, List.length_map, List.drop_succ_cons, List.drop_zero] <;> with_reducible rfl); exact trivial)
          | rfl)
        try simp only [List.append_assoc, List.cons_append, List.nil_append]
    cases k6
    rotate_left
    · simp only [Bool.false_eq_true, if_false, if_true] at hT
      rcases hxi : x.inn with _ | ⟨w0, r0⟩
      · rw [hxi] at ei ef ed
        rw [← hT]
        simp only [List.map_cons, List.map_nil, List.drop_nil] at ei ef ed ⊢
        obtain rfl : si = sd := by rw [ei] at ed; cases ed; rfl
        simp only [hxi, List.length_cons, List.length_nil] at hil
        repeat (first
          | (apply axJ; (focus ((with_reducible constructor) <;> rfl)))
          | (apply awT mixedOK hΓ (by kernel_rfl); (simp (disch := (first | omega | (simp only [maxLen, List.length_append, List.length_cons, List.length_nil]; omega))) only [go_sem, ↓reduceIte, decide_eq_true, decide_eq_false, if_pos, if_neg, wrap_in, ↓lk, ↓if_pos, ↓if_neg, hbw, hk1, hk2, hk3, hk4, hk5, hk6, hk7, hk8, ei, ew, hxi, ef, ed] <;> with_reducible rfl))
          | ((first | apply awR hΓ | apply awG | apply awH mixedOK hΓ rfl (by kernel_rfl) | apply ovE rfl); (simp (disch := (first | omega | (simp only [maxLen, List.length_append, List.length_cons, List.length_nil]; omega))) only [go_sem, ↓reduceIte, decide_eq_true, decide_eq_false, if_pos, if_neg, wrap_in, ↓lk, ↓if_pos, ↓if_neg, hbw, hk1, hk2, hk3, hk4, hk5, hk6, hk7, hk8, ei, ew, hxi, ef, ed] <;> with_reducible rfl); exact trivial)
          | rfl)
        try simp only [List.append_assoc, List.cons_append, List.nil_append]
      · rw [hxi] at ei ef ed
        rw [← hT]
        simp only [List.map_cons, List.map_nil, List.drop_succ_cons, List.drop_zero] at ei ef ed ⊢
        simp only [hxi, List.length_cons, List.length_nil] at hil
        have hmn : min (1 : Int) ((r0.length : Int) + 1) = 1 := by omega
        have hmn2 : min (1 : Int) ((r0.length + 1 : Nat) : Int) = 1 := by omega
        have hdr : List.take (r0.length + 1 - 1) (List.map D.str r0) = List.map D.str r0 := List.take_of_length_le (by simp)
        repeat (first
          | (apply axJ; (focus ((with_reducible constructor) <;> rfl)))
          | (apply awT mixedOK hΓ (by kernel_rfl); (simp (disch := (first | omega | (simp only [maxLen, List.length_append, List.length_cons, List.length_nil]; omega))) only [go_sem, ↓reduceIte, decide_eq_true, decide_eq_false, if_pos, if_neg, wrap_in, ↓lk, ↓if_pos, ↓if_neg, hbw, hk1, hk2, hk3, hk4, hk5, hk6, hk7, hk8, ei, ew, hxi, ef, ed, hmn, hmn2, hdr, Int.reduceToNat, List.length_cons, List.length_map, List.drop_succ_cons, List.drop_zero] <;> with_reducible rfl))
          | ((first | apply awR hΓ | apply awG | apply awH mixedOK hΓ rfl (by kernel_rfl) | apply ovE rfl); (simp (disch := (first | omega | (simp only [maxLen, List.length_append, List.length_cons, List.length_nil]; omega))) only [go_sem, ↓reduceIte, decide_eq_true, decide_eq_false, if_pos, if_neg, wrap_in, ↓lk, ↓if_pos, ↓if_neg, hbw, hk1, hk2, hk3, hk4, hk5, hk6, hk7, hk8, ei, ew, hxi, ef, ed, hmn, hmn2, hdr, Int.reduceToNat, List.length_cons, List.length_map, List.drop_succ_cons, List.drop_zero] <;> with_reducible rfl); exact trivial)
          | rfl)
        try simp only [List.append_assoc, List.cons_append, List.nil_append]
    cases k7
    rotate_left
    · simp only [Bool.false_eq_true, if_false, if_true] at hT
      rw [← hT]
      repeat (first
        | (apply axJ; (focus ((with_reducible constructor) <;> rfl)))
        | (apply awT mixedOK hΓ (by kernel_rfl); (simp (disch := (first | omega | (simp only [maxLen, List.length_append, List.length_cons, List.length_nil]; omega))) only [go_sem, ↓reduceIte, decide_eq_true, decide_eq_false, if_pos, if_neg, wrap_in, ↓lk, ↓if_pos, ↓if_neg, hbw, hk1, hk2, hk3, hk4, hk5, hk6, hk7, hk8, ei, ew] <;> with_reducible rfl))
        | ((first | apply awR hΓ | apply awG | apply awH mixedOK hΓ rfl (by kernel_rfl) | apply ovE rfl); (simp (disch := (first | omega | (simp only [maxLen, List.length_append, List.length_cons, List.length_nil]; omega))) only [go_sem, ↓reduceIte, decide_eq_true, decide_eq_false, if_pos, if_neg, wrap_in, ↓lk, ↓if_pos, ↓if_neg, hbw, hk1, hk2, hk3, hk4, hk5, hk6, hk7, hk8, ei, ew] <;> with_reducible rfl); exact trivial)
        | rfl)
      try simp only [List.append_assoc, List.cons_append, List.nil_append]
    cases k8
    rotate_left
    · simp only [Bool.false_eq_true, if_false, if_true] at hT
      rw [← hT]
      repeat (first
        | (apply axJ; (focus ((with_reducible constructor) <;> rfl)))
        | (apply awT mixedOK hΓ (by kernel_rfl); (simp (disch := (first | omega | (simp only [maxLen, List.length_append, List.length_cons, List.length_nil]; omega))) only [go_sem, ↓reduceIte, decide_eq_true, decide_eq_false, if_pos, if_neg, wrap_in, ↓lk, ↓if_pos, ↓if_neg, hbw, hk1, hk2, hk3, hk4, hk5, hk6, hk7, hk8, ei, ew] <;> with_reducible rfl))
        | ((first | apply awR hΓ | apply awG | apply awH mixedOK hΓ rfl (by kernel_rfl) | apply ovE rfl); (simp (disch := (first | omega | (simp only [maxLen, List.length_append, List.length_cons, List.length_nil]; omega))) only [go_sem, ↓reduceIte, decide_eq_true, decide_eq_false, if_pos, if_neg, wrap_in, ↓lk, ↓if_pos, ↓if_neg, hbw, hk1, hk2, hk3, hk4, hk5, hk6, hk7, hk8, ei, ew] <;> with_reducible rfl); exact trivial)
        | rfl)
      try simp only [List.append_assoc, List.cons_append, List.nil_append]
    · simp only [Bool.false_eq_true, if_false, if_true] at hT
      rw [← hT]
      repeat (first
        | (apply axJ; (focus ((with_reducible constructor) <;> rfl)))
        | (apply awT mixedOK hΓ (by kernel_rfl); (simp (disch := (first | omega | (simp only [maxLen, List.length_append, List.length_cons, List.length_nil]; omega))) only [go_sem, ↓reduceIte, decide_eq_true, decide_eq_false, if_pos, if_neg, wrap_in, ↓lk, ↓if_pos, ↓if_neg, hbw, hk1, hk2, hk3, hk4, hk5, hk6, hk7, hk8, ei, ew] <;> with_reducible rfl))
        | ((first | apply awR hΓ | apply awG | apply awH mixedOK hΓ rfl (by kernel_rfl) | apply ovE rfl); (simp (disch := (first | omega | (simp only [maxLen, List.length_append, List.length_cons, List.length_nil]; omega))) only [go_sem, ↓reduceIte, decide_eq_true, decide_eq_false, if_pos, if_neg, wrap_in, ↓lk, ↓if_pos, ↓if_neg, hbw, hk1, hk2, hk3, hk4, hk5, hk6, hk7, hk8, ei, ew] <;> with_reducible rfl); exact trivial)
        | rfl)
      try rfl
end Go.Ab
