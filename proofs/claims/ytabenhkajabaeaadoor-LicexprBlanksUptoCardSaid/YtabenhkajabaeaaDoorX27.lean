/-
  One text of the proof (own work): contracts of functions of the program, by the abstract machine.
-/
import Derived.Test.YtabenhkajabaeaaDoorX23
import Derived.Test.YtabenhkajabaeaaDoorX24
set_option linter.unusedVariables false
set_option linter.unusedSimpArgs false
namespace Go.Ab
open Go Go.RowKit Go.Proofs
set_option maxRecDepth 4000
set_option maxHeartbeats 4000000
theorem kid_at {x : LX} {i : Nat} (hi : i < x.kids.length) {h m : Nat} (hd : x.hgt ≤ h + 1 ∧ x.Bd m) : (x.kids[i]).hgt ≤ h ∧ (x.kids[i]).Bd m :=
  ⟨by have := LX.hgt_kid (List.getElem_mem hi); omega, hd.2.k (List.getElem_mem hi)⟩
noncomputable def g_size (h : Nat) : List D → Option D := encSpec (fun x : LX => [eX x]) (fun x : LX => x.hgt ≤ h ∧ x.Bd 1099511627776) (fun x : LX => i64 x.size)
theorem g_size_eq {h : Nat} {x : LX} (hd : x.hgt ≤ h ∧ x.Bd 1099511627776) : g_size h [.agg [.int .i64 x.kind, .str x.name, .str x.exc, .list (x.kids.map eX)]] = some (i64 x.size) := by
  have e : g_size h [eX x] = some (i64 x.size) := encSpec_eq (x := x) hd fun y hy => by
    simp only [List.cons.injEq, and_true, true_and, D.str.injEq, D.int.injEq, D.list.injEq, D.bool.injEq, D.agg.injEq, D.clo.injEq, Int.natCast_inj, inj_ie] at hy
    rw [hy]
  exact (congrArg (g_size h) (by rw [← eX_eq x])).trans e
theorem f_size_ok : ∀ h : Nat, PureOK Tryd.prog 19 true (g_size h)
 | 0 => pure_void (by
    rintro x ⟨hx, _⟩
    (try dsimp only at hx)
    have := x.hgt_pos
    omega)
 | h + 1 => by
  have ih := f_size_ok h
  have hΓ := Γp ih (Γn)
  refine pure_enc (n := 21) (rs := [.tmp 2]) Tryd.func19 (by kernel_rfl) rfl (by kernel_rfl) (by kernel_rfl) ?_
  rintro x hd
  (try dsimp only at hd ⊢)
  refine ⟨fun _ => by (repeat (first | exact .int _ _ | exact .bool _ | exact .str _ | (refine .tup _ (fun d hd => ?_); simp only [List.mem_cons, List.not_mem_nil, or_false] at hd; rcases hd with rfl | hd))), fun k hz0 => ?_⟩
  have hz := hd.2.z
  have hl := x.len_le
  have hsz := x.size_eq
  rw [start_frame (by simp)]; simp only [enumV, go_sem, emptyH]
  repeat (first
    | (apply axJ; (focus ((with_reducible constructor) <;> rfl)))
    | (apply awT mixedOK hΓ (by kernel_rfl); (simp (disch := omega) only [go_sem, ↓reduceIte, dk] <;> with_reducible rfl))
    | ((first | apply awR hΓ | apply awG | apply awH mixedOK hΓ rfl (by kernel_rfl) | apply ovE rfl); (simp (disch := omega) only [go_sem, ↓reduceIte, dk] <;> with_reducible rfl); exact trivial)
    | rfl)
  refine awp_loop_at (X := Nat) (fun i => (frame 21 [(1, .ptr 0 0), (3, .data (i64 (LX.size.sizes (x.kids.take i) + 1))), (4, .data (i64 i))])) (fun _ => [(0, .box [.data (.int .i64 x.kind), .data (.str x.name), .data (.str x.exc), .data (.list (x.kids.map eX))])]) 4
    (fun i => i ≤ x.kids.length) (fun i => x.kids.length - i) 0 (Nat.zero_le _) (Weak.v (by (simp [ConvF, lookV, Conv, ints, LX.size.sizes]; done)) (by (simp (disch := omega) only [TabSub, look, if_pos, if_neg, Obj.refsOK, refsOKs, AV.refsOK, decide_eq_true_eq, Bool.and_true, Bool.and_self, LX.size.sizes] ) <;> ((repeat' apply And.intro) <;> first | exact True.intro | omega | (simp; done) | rfl))) ?_
  intro i hi
  by_cases hi2 : i < x.kids.length
  · have e := g_size_eq (kid_at hi2 hd)
    have h1 := LX.sizes_take hi2
    have h2 := LX.sizes_le (l := x.kids) (i + 1)
    have h3 : (LX.size.sizes (x.kids.take (i + 1)) : Int) + 1 = LX.size.sizes (x.kids.take i) + 1 + (x.kids[i]).size := by omega
    generalize LX.size.sizes (x.kids.take i) = a at *
    generalize hy : x.kids[i] = y at *
    repeat (first
      | (apply axJ; (focus ((with_reducible constructor) <;> rfl)))
      | (apply awT mixedOK hΓ (by kernel_rfl); (simp (disch := omega) only [go_sem, ↓reduceIte, dk, hy, e] <;> with_reducible rfl))
      | ((first | apply awR hΓ | apply awG | apply awH mixedOK hΓ rfl (by kernel_rfl) | apply ovE rfl); (simp (disch := omega) only [go_sem, ↓reduceIte, dk, hy, e] <;> with_reducible rfl); exact trivial)
      | rfl)
    exact ⟨i + 1, by omega, by omega, Weak.v (by (simp [ConvF, lookV, Conv, ints, h3]; done)) (by (simp (disch := omega) only [TabSub, look, if_pos, if_neg, Obj.refsOK, refsOKs, AV.refsOK, decide_eq_true_eq, Bool.and_true, Bool.and_self, h3] ) <;> ((repeat' apply And.intro) <;> first | exact True.intro | omega | (simp; done) | rfl))⟩
  · have hi' : i = x.kids.length := by omega
    subst hi'
    rw [List.take_length]
    repeat (first
      | (apply axJ; (focus ((with_reducible constructor) <;> rfl)))
      | (apply awT mixedOK hΓ (by kernel_rfl); (simp (disch := omega) only [go_sem, ↓reduceIte, dk] <;> with_reducible rfl))
      | ((first | apply awR hΓ | apply awG | apply awH mixedOK hΓ rfl (by kernel_rfl) | apply ovE rfl); (simp (disch := omega) only [go_sem, ↓reduceIte, dk] <;> with_reducible rfl); exact trivial)
      | rfl)
    rw [hsz]; rfl
theorem LX.hgts_take {l : List LX} {i : Nat} (h : i < l.length) : LX.hgt.hgts (l.take (i + 1)) = max (LX.hgt.hgts (l.take i)) (l[i]).hgt := by
  have happ : ∀ a b : List LX, LX.hgt.hgts (a ++ b) = max (LX.hgt.hgts a) (LX.hgt.hgts b) := by
    intro a b
    induction a with
    | nil => simp [LX.hgt.hgts]
    | cons x a ih => simp only [List.cons_append, LX.hgt.hgts, ih]; omega
  rw [List.take_add_one, List.getElem?_eq_getElem h, happ]
  simp [LX.hgt.hgts]
theorem LX.hgt_eq (x : LX) : x.hgt = LX.hgt.hgts x.kids + 1 := by cases x; simp [LX.hgt, LX.kids]
theorem hgts_lt {x : LX} {i : Nat} (h : i ≤ x.kids.length) : LX.hgt.hgts (x.kids.take i) < x.hgt := by
  induction i with
  | zero => have := x.hgt_pos; simp [LX.hgt.hgts]; omega
  | succ i ih =>
    have h1 := ih (by omega)
    rw [LX.hgts_take (by omega)]
    have := LX.hgt_kid (List.getElem_mem (show i < x.kids.length by omega))
    omega
noncomputable def g_depthR (h : Nat) : List D → Option D := encSpec (fun x : LX => [eX x]) (fun x : LX => x.hgt ≤ h ∧ x.Bd 1099511627776) (fun x : LX => i64 x.hgt)
theorem g_depthR_eq {h : Nat} {x : LX} (hd : x.hgt ≤ h ∧ x.Bd 1099511627776) : g_depthR h [.agg [.int .i64 x.kind, .str x.name, .str x.exc, .list (x.kids.map eX)]] = some (i64 x.hgt) := by
  have e : g_depthR h [eX x] = some (i64 x.hgt) := encSpec_eq (x := x) hd fun y hy => by
    simp only [List.cons.injEq, and_true, true_and, D.str.injEq, D.int.injEq, D.list.injEq, D.bool.injEq, D.agg.injEq, D.clo.injEq, Int.natCast_inj, inj_ie] at hy
    rw [hy]
  exact (congrArg (g_depthR h) (by rw [← eX_eq x])).trans e
theorem f_depthR_ok : ∀ h : Nat, PureOK Tryd.prog 21 true (g_depthR h)
 | 0 => pure_void (by
    rintro x ⟨hx, _⟩
    (try dsimp only at hx)
    have := x.hgt_pos
    omega)
 | h + 1 => by
  have ih := f_depthR_ok h
  have hΓ := Γp ih (Γn)
  refine pure_enc (n := 22) (rs := [.tmp 2]) Tryd.func21 (by kernel_rfl) rfl (by kernel_rfl) (by kernel_rfl) ?_
  rintro x hd
  (try dsimp only at hd ⊢)
  refine ⟨fun _ => by (repeat (first | exact .int _ _ | exact .bool _ | exact .str _ | (refine .tup _ (fun d hd => ?_); simp only [List.mem_cons, List.not_mem_nil, or_false] at hd; rcases hd with rfl | hd))), fun k hz0 => ?_⟩
  have hz := hd.2.z
  have hl := x.len_le
  have hle := x.hgt_le
  have hsz := x.hgt_eq
  rw [start_frame (by simp)]; simp only [enumV, go_sem, emptyH]
  repeat (first
    | (apply axJ; (focus ((with_reducible constructor) <;> rfl)))
    | (apply awT mixedOK hΓ (by kernel_rfl); (simp (disch := omega) only [go_sem, ↓reduceIte, dk] <;> with_reducible rfl))
    | ((first | apply awR hΓ | apply awG | apply awH mixedOK hΓ rfl (by kernel_rfl) | apply ovE rfl); (simp (disch := omega) only [go_sem, ↓reduceIte, dk] <;> with_reducible rfl); exact trivial)
    | rfl)
  refine awp_loop_at (X := Nat) (fun i => (frame 22 [(1, .ptr 0 0), (3, .data (i64 (LX.hgt.hgts (x.kids.take i)))), (4, .data (i64 i))])) (fun _ => [(0, .box [.data (.int .i64 x.kind), .data (.str x.name), .data (.str x.exc), .data (.list (x.kids.map eX))])]) 4
    (fun i => i ≤ x.kids.length) (fun i => x.kids.length - i) 0 (Nat.zero_le _) (Weak.v (by (simp [ConvF, lookV, Conv, ints, LX.hgt.hgts]; done)) (by (simp (disch := omega) only [TabSub, look, if_pos, if_neg, Obj.refsOK, refsOKs, AV.refsOK, decide_eq_true_eq, Bool.and_true, Bool.and_self, LX.hgt.hgts] ) <;> ((repeat' apply And.intro) <;> first | exact True.intro | omega | (simp; done) | rfl))) ?_
  intro i hi
  have hlt := hgts_lt hi
  by_cases hi2 : i < x.kids.length
  · have e := g_depthR_eq (kid_at hi2 hd)
    have h1 := LX.hgts_take hi2
    have h3 : (LX.hgt.hgts (x.kids.take (i + 1)) : Int) = max (LX.hgt.hgts (x.kids.take i) : Int) ((x.kids[i]).hgt : Int) := by omega
    generalize LX.hgt.hgts (x.kids.take i) = a at *
    generalize hy : x.kids[i] = y at *
    repeat (first
      | (apply axJ; (focus ((with_reducible constructor) <;> rfl)))
      | (apply awT mixedOK hΓ (by kernel_rfl); (simp (disch := omega) only [go_sem, ↓reduceIte, dk, hy, e] <;> with_reducible rfl))
      | ((first | apply awR hΓ | apply awG | apply awH mixedOK hΓ rfl (by kernel_rfl) | apply ovE rfl); (simp (disch := omega) only [go_sem, ↓reduceIte, dk, hy, e] <;> with_reducible rfl); exact trivial)
      | rfl)
    exact ⟨i + 1, by omega, by omega, Weak.v (by (simp [ConvF, lookV, Conv, ints, h3]; done)) (by (simp (disch := omega) only [TabSub, look, if_pos, if_neg, Obj.refsOK, refsOKs, AV.refsOK, decide_eq_true_eq, Bool.and_true, Bool.and_self, h3] ) <;> ((repeat' apply And.intro) <;> first | exact True.intro | omega | (simp; done) | rfl))⟩
  · have hi' : i = x.kids.length := by omega
    subst hi'
    rw [List.take_length] at hlt ⊢
    repeat (first
      | (apply axJ; (focus ((with_reducible constructor) <;> rfl)))
      | (apply awT mixedOK hΓ (by kernel_rfl); (simp (disch := omega) only [go_sem, ↓reduceIte, dk] <;> with_reducible rfl))
      | ((first | apply awR hΓ | apply awG | apply awH mixedOK hΓ rfl (by kernel_rfl) | apply ovE rfl); (simp (disch := omega) only [go_sem, ↓reduceIte, dk] <;> with_reducible rfl); exact trivial)
      | rfl)
    rw [hsz]; rfl
noncomputable def g_depthP (h : Nat) : List D → Option D := encSpec (fun x : LX => [eX x]) (fun x : LX => x.hgt ≤ h ∧ x.Bd 1099511627776) (fun x : LX => i64 x.hgt)
theorem g_depthP_eq {h : Nat} {x : LX} (hd : x.hgt ≤ h ∧ x.Bd 1099511627776) : g_depthP h [.agg [.int .i64 x.kind, .str x.name, .str x.exc, .list (x.kids.map eX)]] = some (i64 x.hgt) := by
  have e : g_depthP h [eX x] = some (i64 x.hgt) := encSpec_eq (x := x) hd fun y hy => by
    simp only [List.cons.injEq, and_true, true_and, D.str.injEq, D.int.injEq, D.list.injEq, D.bool.injEq, D.agg.injEq, D.clo.injEq, Int.natCast_inj, inj_ie] at hy
    rw [hy]
  exact (congrArg (g_depthP h) (by rw [← eX_eq x])).trans e
theorem f_depthP_ok : ∀ h : Nat, PureOK Tryd.prog 20 true (g_depthP h)
 | 0 => pure_void (by
    rintro x ⟨hx, _⟩
    (try dsimp only at hx)
    have := x.hgt_pos
    omega)
 | h + 1 => by
  have ih := f_depthP_ok h
  have hΓ := Γp ih (Γn)
  refine pure_enc (n := 20) (rs := [.tmp 2]) Tryd.func20 (by kernel_rfl) rfl (by kernel_rfl) (by kernel_rfl) ?_
  rintro x hd
  (try dsimp only at hd ⊢)
  refine ⟨fun _ => by (repeat (first | exact .int _ _ | exact .bool _ | exact .str _ | (refine .tup _ (fun d hd => ?_); simp only [List.mem_cons, List.not_mem_nil, or_false] at hd; rcases hd with rfl | hd))), fun k hz0 => ?_⟩
  have hz := hd.2.z
  have hl := x.len_le
  have hle := x.hgt_le
  have hsz := x.hgt_eq
  rw [start_frame (by simp)]; simp only [enumV, go_sem, emptyH]
  repeat (first
    | (apply axJ; (focus ((with_reducible constructor) <;> rfl)))
    | (apply awT mixedOK hΓ (by kernel_rfl); (simp (disch := omega) only [go_sem, ↓reduceIte, dk] <;> with_reducible rfl))
    | ((first | apply awR hΓ | apply awG | apply awH mixedOK hΓ rfl (by kernel_rfl) | apply ovE rfl); (simp (disch := omega) only [go_sem, ↓reduceIte, dk] <;> with_reducible rfl); exact trivial)
    | rfl)
  refine awp_loop_at (X := Nat) (fun i => (frame 20 [(1, .ptr 0 0), (3, .data (i64 (LX.hgt.hgts (x.kids.take i)))), (7, .data (.list (x.kids.map eX))), (8, .data (i64 x.kids.length)), (9, .data (i64 i))])) (fun _ => []) 4
    (fun i => i ≤ x.kids.length) (fun i => x.kids.length - i) 0 (Nat.zero_le _) (Weak.v (by (simp [ConvF, lookV, Conv, ints, LX.hgt.hgts]; done)) (by (simp (disch := omega) only [TabSub, look, if_pos, if_neg, Obj.refsOK, refsOKs, AV.refsOK, decide_eq_true_eq, Bool.and_true, Bool.and_self, LX.hgt.hgts] ) <;> ((repeat' apply And.intro) <;> first | exact True.intro | omega | (simp; done) | rfl))) ?_
  intro i hi
  have hlt := hgts_lt hi
  by_cases hi2 : i < x.kids.length
  · have e := g_depthP_eq (kid_at hi2 hd)
    have h1 := LX.hgts_take hi2
    have h3 : (LX.hgt.hgts (x.kids.take (i + 1)) : Int) = max (LX.hgt.hgts (x.kids.take i) : Int) ((x.kids[i]).hgt : Int) := by omega
    generalize LX.hgt.hgts (x.kids.take i) = a at *
    generalize hy : x.kids[i] = y at *
    repeat (first
      | (apply axJ; (focus ((with_reducible constructor) <;> rfl)))
      | (apply awT mixedOK hΓ (by kernel_rfl); (simp (disch := omega) only [go_sem, ↓reduceIte, dk, hy, e] <;> with_reducible rfl))
      | ((first | apply awR hΓ | apply awG | apply awH mixedOK hΓ rfl (by kernel_rfl) | apply ovE rfl); (simp (disch := omega) only [go_sem, ↓reduceIte, dk, hy, e] <;> with_reducible rfl); exact trivial)
      | rfl)
    exact ⟨i + 1, by omega, by omega, Weak.v (by (simp [ConvF, lookV, Conv, ints, h3]; done)) (by (simp (disch := omega) only [TabSub, look, if_pos, if_neg, Obj.refsOK, refsOKs, AV.refsOK, decide_eq_true_eq, Bool.and_true, Bool.and_self, h3] ) <;> ((repeat' apply And.intro) <;> first | exact True.intro | omega | (simp; done) | rfl))⟩
  · have hi' : i = x.kids.length := by omega
    subst hi'
    rw [List.take_length] at hlt ⊢
    repeat (first
      | (apply axJ; (focus ((with_reducible constructor) <;> rfl)))
      | (apply awT mixedOK hΓ (by kernel_rfl); (simp (disch := omega) only [go_sem, ↓reduceIte, dk] <;> with_reducible rfl))
      | ((first | apply awR hΓ | apply awG | apply awH mixedOK hΓ rfl (by kernel_rfl) | apply ovE rfl); (simp (disch := omega) only [go_sem, ↓reduceIte, dk] <;> with_reducible rfl); exact trivial)
      | rfl)
    rw [hsz]; rfl
end Go.Ab
