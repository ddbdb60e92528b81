/-
  One text of the proof (own work): contracts of functions of the program, by the abstract machine.
-/
import Derived.Test.YtdodjhiofpiaaaaDoorRows
import Derived.Test.YtdodjhiofpiaaaaDoorX19
import Derived.Test.YtdodjhiofpiaaaaDoorX23
import Derived.Test.YtdodjhiofpiaaaaDoorX16
import Derived.Test.YtdodjhiofpiaaaaDoorX17
set_option linter.unusedVariables false
set_option linter.unusedSimpArgs false
namespace Go.Ab
open Go Go.RowKit Go.Proofs
set_option maxRecDepth 10000
set_option maxHeartbeats 8000000
noncomputable def g_sameS : List D → Option D := encSpec (fun x : (List Bs) × (List Bs) => [.list (x.1.map .str), .list (x.2.map .str)]) (fun x : (List Bs) × (List Bs) => x.1.length ≤ 1099511627776 ∧ x.2.length ≤ 1099511627776) (fun x : (List Bs) × (List Bs) => .bool (x.1 == x.2))
theorem g_sameS_eq {a : List Bs} {b : List Bs} (hd : a.length ≤ 1099511627776 ∧ b.length ≤ 1099511627776) : g_sameS [.list (a.map .str), .list (b.map .str)] = some (.bool (a == b)) := encSpec_eq (x := (a, b)) hd fun y hy => by
    obtain ⟨y0, y1⟩ := y; simp only [List.cons.injEq, and_true, true_and, D.str.injEq, D.int.injEq, D.list.injEq, D.bool.injEq, D.agg.injEq, D.clo.injEq, Int.natCast_inj, inj_ie, eSt_ie, eSts_ie] at hy
    (try obtain ⟨rfl, rfl⟩ := hy)
    (try subst_vars)
    rfl
theorem f_sameS_ok : PureOK Tryd.prog 33 true g_sameS := by
  have hΓ := Γ0_ok
  refine pure_enc (n := 26) (rs := [.tmp 4]) Tryd.func33 (by kernel_rfl) rfl (by kernel_rfl) (by kernel_rfl) ?_
  rintro ⟨a, b⟩ hd
  (try dsimp only at hd ⊢)
  refine ⟨fun _ => by (repeat (first | exact .int _ _ | exact .bool _ | exact .str _ | (refine .tup _ (fun d hd => ?_); simp only [List.mem_cons, List.not_mem_nil, or_false] at hd; rcases hd with rfl | hd))), fun k hz0 => ?_⟩
  obtain ⟨ha, hb⟩ := hd
  rw [start_frame (by simp)]; simp only [enumV, go_sem, emptyH]
  by_cases hne : a.length = b.length
  · have hb1 : (((a.length : Nat) : Int) != ((b.length : Nat) : Int)) = false := by rw [hne]; simp
    have hb2 : (((b.length : Nat) : Int) != ((b.length : Nat) : Int)) = false := by simp
    repeat (first
      | (apply axJ; (focus ((with_reducible constructor) <;> rfl)))
      | (apply awT mixedOK hΓ (by kernel_rfl); (simp (disch := omega) only [go_sem, ↓reduceIte, dk, ↓lk, hb1, hb2] <;> with_reducible rfl))
      | ((first | apply awR hΓ | apply awG | apply awH mixedOK hΓ rfl (by kernel_rfl) | apply ovE rfl); (simp (disch := omega) only [go_sem, ↓reduceIte, dk, ↓lk, hb1, hb2] <;> with_reducible rfl); exact trivial)
      | rfl)
    refine awp_loop_at (X := Nat) (fun i => (frame 26 [(0, .data (.list (a.map .str))), (1, .data (.list (b.map .str))), (11, .data (.list (a.map .str))), (12, .data (i64 a.length)), (13, .data (i64 i))])) (fun _ => []) 16
      (fun i => i ≤ a.length ∧ a.take i = b.take i) (fun i => a.length - i) 0 ⟨Nat.zero_le _, rfl⟩ (Weak.w) ?_
    rintro i ⟨h1, h2⟩
    by_cases hi : i < a.length
    · have hi2 : i < b.length := by omega
      by_cases hc : a[i] = b[i]
      · have hs : a.take (i + 1) = b.take (i + 1) := by rw [List.take_add_one, List.take_add_one, h2, List.getElem?_eq_getElem hi, List.getElem?_eq_getElem hi2, hc]
        have hcn : (a[i] != b[i]) = false := by rw [hc]; simp
        have hcn2 : (b[i] != b[i]) = false := by simp
        generalize hx : a[i] = x at *
        generalize hy : b[i] = y at *
        subst hc
        repeat (first
          | (apply axJ; (focus ((with_reducible constructor) <;> rfl)))
          | (apply awT mixedOK hΓ (by kernel_rfl); (simp (disch := omega) only [go_sem, ↓reduceIte, dk, ↓lk, hx, hy, hcn2] <;> with_reducible rfl))
          | ((first | apply awR hΓ | apply awG | apply awH mixedOK hΓ rfl (by kernel_rfl) | apply ovE rfl); (simp (disch := omega) only [go_sem, ↓reduceIte, dk, ↓lk, hx, hy, hcn2] <;> with_reducible rfl); exact trivial)
          | rfl)
        exact ⟨i + 1, ⟨by omega, hs⟩, by omega, Weak.w⟩
      · have hab : (a == b) = false := by
          rw [beq_eq_false_iff_ne]
          intro h
          subst h
          exact hc rfl
        have hcn : (a[i] == b[i]) = false := beq_eq_false_iff_ne.2 hc
        rw [hab]
        generalize hx : a[i] = x at *
        generalize hy : b[i] = y at *
        repeat (first
          | (apply axJ; (focus ((with_reducible constructor) <;> rfl)))
          | (apply awT mixedOK hΓ (by kernel_rfl); (simp (disch := omega) only [go_sem, ↓reduceIte, dk, ↓lk, hx, hy, hcn, Int.reduceBEq, Int.reduceBNe, Bool.true_bne, Bool.false_bne, Bool.not_true, Bool.not_false] <;> with_reducible rfl))
          | ((first | apply awR hΓ | apply awG | apply awH mixedOK hΓ rfl (by kernel_rfl) | apply ovE rfl); (simp (disch := omega) only [go_sem, ↓reduceIte, dk, ↓lk, hx, hy, hcn, Int.reduceBEq, Int.reduceBNe, Bool.true_bne, Bool.false_bne, Bool.not_true, Bool.not_false] <;> with_reducible rfl); exact trivial)
          | rfl)
        try rfl
    · have hi3 : i = a.length := by omega
      subst hi3
      rw [List.take_length, hne, List.take_length] at h2
      subst h2
      have hab : (a == a) = true := by simp
      rw [hab]
      repeat (first
        | (apply axJ; (focus ((with_reducible constructor) <;> rfl)))
        | (apply awT mixedOK hΓ (by kernel_rfl); (simp (disch := omega) only [go_sem, ↓reduceIte, dk, ↓lk] <;> with_reducible rfl))
        | ((first | apply awR hΓ | apply awG | apply awH mixedOK hΓ rfl (by kernel_rfl) | apply ovE rfl); (simp (disch := omega) only [go_sem, ↓reduceIte, dk, ↓lk] <;> with_reducible rfl); exact trivial)
        | rfl)
      try rfl
  · have hb1 : (((a.length : Nat) : Int) != ((b.length : Nat) : Int)) = true := by
      simp only [bne_iff_ne, ne_eq]
      omega
    have hab : (a == b) = false := by
      rw [beq_eq_false_iff_ne]
      intro h
      exact hne (by rw [h])
    rw [hab]
    repeat (first
      | (apply axJ; (focus ((with_reducible constructor) <;> rfl)))
      | (apply awT mixedOK hΓ (by kernel_rfl); (simp (disch := omega) only [go_sem, ↓reduceIte, dk, ↓lk, hb1] <;> with_reducible rfl))
      | ((first | apply awR hΓ | apply awG | apply awH mixedOK hΓ rfl (by kernel_rfl) | apply ovE rfl); (simp (disch := omega) only [go_sem, ↓reduceIte, dk, ↓lk, hb1] <;> with_reducible rfl); exact trivial)
      | rfl)
    try rfl
def sameB (x y : Stp) : Bool := x.line == y.line && (x.kind == y.kind && (x.out == y.out && (x.inn == y.inn && (x.usg == y.usg && x.wds == y.wds))))
theorem sameB_iff (x y : Stp) : sameB x y = true ↔ x = y := by
  obtain ⟨a1, a2, a3, a4, a5, a6⟩ := x
  obtain ⟨b1, b2, b3, b4, b5, b6⟩ := y
  unfold sameB
  simp only [Bool.and_eq_true, beq_iff_eq, Stp.mk.injEq]
  constructor
  · rintro ⟨h1, h2, h6, h3, h4, h5⟩; exact ⟨h1, h2, h3, h4, h5, h6⟩
  · rintro ⟨h1, h2, h3, h4, h5, h6⟩; exact ⟨h1, h2, h6, h3, h4, h5⟩
noncomputable def g_same14 : List D → Option D := encSpec (fun x : Stp × Stp => [eSt x.1, eSt x.2]) (fun x : Stp × Stp => StOK x.1 ∧ StOK x.2) (fun x : Stp × Stp => .bool (sameB x.1 x.2))
theorem g_same14_eq {x : Stp} {y : Stp} (hd : StOK x ∧ StOK y) : g_same14 [eSt x, eSt y] = some (.bool (sameB x y)) := encSpec_eq (x := (x, y)) hd fun y hy => by
    obtain ⟨y0, y1⟩ := y; simp only [List.cons.injEq, and_true, true_and, D.str.injEq, D.int.injEq, D.list.injEq, D.bool.injEq, D.agg.injEq, D.clo.injEq, Int.natCast_inj, inj_ie, eSt_ie, eSts_ie] at hy
    (try obtain ⟨rfl, rfl⟩ := hy)
    (try subst_vars)
    rfl
theorem f_same14_ok : PureOK Tryd.prog 17 true g_same14 := by
  have hΓ := Γp f_sameS_ok (Γn)
  refine pure_enc (n := 45) (rs := [.tmp 4]) Tryd.func17 (by kernel_rfl) rfl (by kernel_rfl) (by kernel_rfl) ?_
  rintro ⟨x, y⟩ hd
  (try dsimp only at hd ⊢)
  refine ⟨fun _ => by (repeat (first | exact .int _ _ | exact .bool _ | exact .str _ | (refine .tup _ (fun d hd => ?_); simp only [List.mem_cons, List.not_mem_nil, or_false] at hd; rcases hd with rfl | hd))), fun k hz0 => ?_⟩
  obtain ⟨⟨xi, xu, xw, xo⟩, ⟨yi, yu, yw, yo⟩⟩ := hd
  have e1 := g_sameS_eq (a := x.inn) (b := y.inn) ⟨xi.1, yi.1⟩
  have e2 := g_sameS_eq (a := x.usg) (b := y.usg) ⟨xu.1, yu.1⟩
  have e3 := g_sameS_eq (a := x.wds) (b := y.wds) ⟨xw.1, yw.1⟩
  unfold sameB
  rw [eSt_eq, eSt_eq]
  rw [start_frame (by simp)]; simp only [enumV, go_sem, emptyH]
  generalize h1 : (x.line == y.line) = c1 at *
  generalize h2 : (x.kind == y.kind) = c2 at *
  generalize h3 : (x.out == y.out) = c3 at *
  generalize h4 : (x.inn == y.inn) = c4 at *
  generalize h5 : (x.usg == y.usg) = c5 at *
  generalize h6 : (x.wds == y.wds) = c6 at *
  cases c1
  · repeat (first
    | (apply axJ; (focus ((with_reducible constructor) <;> rfl)))
    | (apply awT mixedOK hΓ (by kernel_rfl); (simp (disch := omega) only [go_sem, ↓reduceIte, dk, ↓lk, h1, h2, h3, h4, h5, h6, e1, e2, e3] <;> with_reducible rfl))
    | ((first | apply awR hΓ | apply awG | apply awH mixedOK hΓ rfl (by kernel_rfl) | apply ovE rfl); (simp (disch := omega) only [go_sem, ↓reduceIte, dk, ↓lk, h1, h2, h3, h4, h5, h6, e1, e2, e3] <;> with_reducible rfl); exact trivial)
    | rfl)
    try rfl
  cases c2
  · repeat (first
    | (apply axJ; (focus ((with_reducible constructor) <;> rfl)))
    | (apply awT mixedOK hΓ (by kernel_rfl); (simp (disch := omega) only [go_sem, ↓reduceIte, dk, ↓lk, h1, h2, h3, h4, h5, h6, e1, e2, e3] <;> with_reducible rfl))
    | ((first | apply awR hΓ | apply awG | apply awH mixedOK hΓ rfl (by kernel_rfl) | apply ovE rfl); (simp (disch := omega) only [go_sem, ↓reduceIte, dk, ↓lk, h1, h2, h3, h4, h5, h6, e1, e2, e3] <;> with_reducible rfl); exact trivial)
    | rfl)
    try rfl
  cases c3
  · repeat (first
    | (apply axJ; (focus ((with_reducible constructor) <;> rfl)))
    | (apply awT mixedOK hΓ (by kernel_rfl); (simp (disch := omega) only [go_sem, ↓reduceIte, dk, ↓lk, h1, h2, h3, h4, h5, h6, e1, e2, e3] <;> with_reducible rfl))
    | ((first | apply awR hΓ | apply awG | apply awH mixedOK hΓ rfl (by kernel_rfl) | apply ovE rfl); (simp (disch := omega) only [go_sem, ↓reduceIte, dk, ↓lk, h1, h2, h3, h4, h5, h6, e1, e2, e3] <;> with_reducible rfl); exact trivial)
    | rfl)
    try rfl
  cases c4
  · repeat (first
    | (apply axJ; (focus ((with_reducible constructor) <;> rfl)))
    | (apply awT mixedOK hΓ (by kernel_rfl); (simp (disch := omega) only [go_sem, ↓reduceIte, dk, ↓lk, h1, h2, h3, h4, h5, h6, e1, e2, e3] <;> with_reducible rfl))
    | ((first | apply awR hΓ | apply awG | apply awH mixedOK hΓ rfl (by kernel_rfl) | apply ovE rfl); (simp (disch := omega) only [go_sem, ↓reduceIte, dk, ↓lk, h1, h2, h3, h4, h5, h6, e1, e2, e3] <;> with_reducible rfl); exact trivial)
    | rfl)
    try rfl
  cases c5
  · repeat (first
    | (apply axJ; (focus ((with_reducible constructor) <;> rfl)))
    | (apply awT mixedOK hΓ (by kernel_rfl); (simp (disch := omega) only [go_sem, ↓reduceIte, dk, ↓lk, h1, h2, h3, h4, h5, h6, e1, e2, e3] <;> with_reducible rfl))
    | ((first | apply awR hΓ | apply awG | apply awH mixedOK hΓ rfl (by kernel_rfl) | apply ovE rfl); (simp (disch := omega) only [go_sem, ↓reduceIte, dk, ↓lk, h1, h2, h3, h4, h5, h6, e1, e2, e3] <;> with_reducible rfl); exact trivial)
    | rfl)
    try rfl
  cases c6
  · repeat (first
    | (apply axJ; (focus ((with_reducible constructor) <;> rfl)))
    | (apply awT mixedOK hΓ (by kernel_rfl); (simp (disch := omega) only [go_sem, ↓reduceIte, dk, ↓lk, h1, h2, h3, h4, h5, h6, e1, e2, e3] <;> with_reducible rfl))
    | ((first | apply awR hΓ | apply awG | apply awH mixedOK hΓ rfl (by kernel_rfl) | apply ovE rfl); (simp (disch := omega) only [go_sem, ↓reduceIte, dk, ↓lk, h1, h2, h3, h4, h5, h6, e1, e2, e3] <;> with_reducible rfl); exact trivial)
    | rfl)
    try rfl
  repeat (first
    | (apply axJ; (focus ((with_reducible constructor) <;> rfl)))
    | (apply awT mixedOK hΓ (by kernel_rfl); (simp (disch := omega) only [go_sem, ↓reduceIte, dk, ↓lk, h1, h2, h3, h4, h5, h6, e1, e2, e3] <;> with_reducible rfl))
    | ((first | apply awR hΓ | apply awG | apply awH mixedOK hΓ rfl (by kernel_rfl) | apply ovE rfl); (simp (disch := omega) only [go_sem, ↓reduceIte, dk, ↓lk, h1, h2, h3, h4, h5, h6, e1, e2, e3] <;> with_reducible rfl); exact trivial)
    | rfl)
  try rfl
def sameAll : List Stp → List Stp → Bool
  | [], [] => true
  | x :: a, y :: b => sameB x y && sameAll a b
  | _, _ => false
theorem sameAll_iff : ∀ (a b : List Stp), sameAll a b = true ↔ a = b
  | [], [] => by simp [sameAll]
  | [], y :: b => by simp [sameAll]
  | x :: a, [] => by simp [sameAll]
  | x :: a, y :: b => by rw [sameAll, Bool.and_eq_true, sameB_iff, sameAll_iff a b, List.cons.injEq]
noncomputable def g_sameAll14 : List D → Option D := encSpec (fun x : (List Stp) × (List Stp) => [.list (x.1.map eSt), .list (x.2.map eSt)]) (fun x : (List Stp) × (List Stp) => (x.1.length ≤ 1099511627776 ∧ ∀ w ∈ x.1, StOK w) ∧ (x.2.length ≤ 1099511627776 ∧ ∀ w ∈ x.2, StOK w)) (fun x : (List Stp) × (List Stp) => .bool (sameAll x.1 x.2))
theorem g_sameAll14_eq {a : List Stp} {b : List Stp} (hd : (a.length ≤ 1099511627776 ∧ ∀ w ∈ a, StOK w) ∧ (b.length ≤ 1099511627776 ∧ ∀ w ∈ b, StOK w)) : g_sameAll14 [.list (a.map eSt), .list (b.map eSt)] = some (.bool (sameAll a b)) := encSpec_eq (x := (a, b)) hd fun y hy => by
    obtain ⟨y0, y1⟩ := y; simp only [List.cons.injEq, and_true, true_and, D.str.injEq, D.int.injEq, D.list.injEq, D.bool.injEq, D.agg.injEq, D.clo.injEq, Int.natCast_inj, inj_ie, eSt_ie, eSts_ie] at hy
    (try obtain ⟨rfl, rfl⟩ := hy)
    (try subst_vars)
    rfl
theorem f_sameAll14_ok : PureOK Tryd.prog 10 true g_sameAll14 := by
  have hΓ := Γp f_same14_ok (Γn)
  refine pure_enc (n := 27) (rs := [.tmp 4]) Tryd.func10 (by kernel_rfl) rfl (by kernel_rfl) (by kernel_rfl) ?_
  rintro ⟨a, b⟩ hd
  (try dsimp only at hd ⊢)
  refine ⟨fun _ => by (repeat (first | exact .int _ _ | exact .bool _ | exact .str _ | (refine .tup _ (fun d hd => ?_); simp only [List.mem_cons, List.not_mem_nil, or_false] at hd; rcases hd with rfl | hd))), fun k hz0 => ?_⟩
  obtain ⟨⟨ha, ha2⟩, hb, hb2⟩ := hd
  rw [start_frame (by simp)]; simp only [enumV, go_sem, emptyH]
  by_cases hne : a.length = b.length
  · have hb1 : (((a.length : Nat) : Int) != ((b.length : Nat) : Int)) = false := by rw [hne]; simp
    have hb2' : (((b.length : Nat) : Int) != ((b.length : Nat) : Int)) = false := by simp
    repeat (first
      | (apply axJ; (focus ((with_reducible constructor) <;> rfl)))
      | (apply awT mixedOK hΓ (by kernel_rfl); (simp (disch := omega) only [go_sem, ↓reduceIte, dk, ↓lk, hb1, hb2'] <;> with_reducible rfl))
      | ((first | apply awR hΓ | apply awG | apply awH mixedOK hΓ rfl (by kernel_rfl) | apply ovE rfl); (simp (disch := omega) only [go_sem, ↓reduceIte, dk, ↓lk, hb1, hb2'] <;> with_reducible rfl); exact trivial)
      | rfl)
    refine awp_loop_at (X := Nat) (fun i => (frame 27 [(0, .data (.list (a.map eSt))), (1, .data (.list (b.map eSt))), (11, .data (.list (a.map eSt))), (12, .data (i64 a.length)), (13, .data (i64 i))])) (fun _ => []) 16
      (fun i => i ≤ a.length ∧ a.take i = b.take i) (fun i => a.length - i) 0 ⟨Nat.zero_le _, rfl⟩ (Weak.w) ?_
    rintro i ⟨h1, h2⟩
    by_cases hi : i < a.length
    · have hi2 : i < b.length := by omega
      have e1 := g_same14_eq (x := a[i]) (y := b[i]) ⟨ha2 _ (List.getElem_mem hi), hb2 _ (List.getElem_mem hi2)⟩
      rw [eSt_eq, eSt_eq] at e1
      by_cases hc : a[i] = b[i]
      · have hs : a.take (i + 1) = b.take (i + 1) := by rw [List.take_add_one, List.take_add_one, h2, List.getElem?_eq_getElem hi, List.getElem?_eq_getElem hi2, hc]
        have hcn : sameB a[i] b[i] = true := (sameB_iff _ _).2 hc
        rw [hcn] at e1
        clear hc hcn
        generalize hx : a[i] = x at *
        generalize hy : b[i] = y at *
        repeat (first
          | (apply axJ; (focus ((with_reducible constructor) <;> rfl)))
          | (apply awT mixedOK hΓ (by kernel_rfl); (simp (disch := omega) only [go_sem, ↓reduceIte, dk, ↓lk, hx, hy, e1] <;> with_reducible rfl))
          | ((first | apply awR hΓ | apply awG | apply awH mixedOK hΓ rfl (by kernel_rfl) | apply ovE rfl); (simp (disch := omega) only [go_sem, ↓reduceIte, dk, ↓lk, hx, hy, e1] <;> with_reducible rfl); exact trivial)
          | rfl)
        exact ⟨i + 1, ⟨by omega, hs⟩, by omega, Weak.w⟩
      · have hab : sameAll a b = false := by
          rw [Bool.eq_false_iff]
          intro h
          have := (sameAll_iff _ _).1 h
          subst this
          exact hc rfl
        have hcn : sameB a[i] b[i] = false := by
          rw [Bool.eq_false_iff]
          intro h
          exact hc ((sameB_iff _ _).1 h)
        rw [hcn] at e1
        rw [hab]
        clear hc hcn
        generalize hx : a[i] = x at *
        generalize hy : b[i] = y at *
        repeat (first
          | (apply axJ; (focus ((with_reducible constructor) <;> rfl)))
          | (apply awT mixedOK hΓ (by kernel_rfl); (simp (disch := omega) only [go_sem, ↓reduceIte, dk, ↓lk, hx, hy, e1] <;> with_reducible rfl))
          | ((first | apply awR hΓ | apply awG | apply awH mixedOK hΓ rfl (by kernel_rfl) | apply ovE rfl); (simp (disch := omega) only [go_sem, ↓reduceIte, dk, ↓lk, hx, hy, e1] <;> with_reducible rfl); exact trivial)
          | rfl)
        try rfl
    · have hi3 : i = a.length := by omega
      subst hi3
      rw [List.take_length, hne, List.take_length] at h2
      subst h2
      have hab : sameAll a a = true := (sameAll_iff _ _).2 rfl
      rw [hab]
      repeat (first
        | (apply axJ; (focus ((with_reducible constructor) <;> rfl)))
        | (apply awT mixedOK hΓ (by kernel_rfl); (simp (disch := omega) only [go_sem, ↓reduceIte, dk, ↓lk] <;> with_reducible rfl))
        | ((first | apply awR hΓ | apply awG | apply awH mixedOK hΓ rfl (by kernel_rfl) | apply ovE rfl); (simp (disch := omega) only [go_sem, ↓reduceIte, dk, ↓lk] <;> with_reducible rfl); exact trivial)
        | rfl)
      try rfl
  · have hb1 : (((a.length : Nat) : Int) != ((b.length : Nat) : Int)) = true := by
      simp only [bne_iff_ne, ne_eq]
      omega
    have hab : sameAll a b = false := by
      rw [Bool.eq_false_iff]
      intro h
      exact hne (by rw [(sameAll_iff _ _).1 h])
    rw [hab]
    repeat (first
      | (apply axJ; (focus ((with_reducible constructor) <;> rfl)))
      | (apply awT mixedOK hΓ (by kernel_rfl); (simp (disch := omega) only [go_sem, ↓reduceIte, dk, ↓lk, hb1] <;> with_reducible rfl))
      | ((first | apply awR hΓ | apply awG | apply awH mixedOK hΓ rfl (by kernel_rfl) | apply ovE rfl); (simp (disch := omega) only [go_sem, ↓reduceIte, dk, ↓lk, hb1] <;> with_reducible rfl); exact trivial)
      | rfl)
    try rfl
def shB (w : Bs) : Bool := decide ((w.length : Int) > 300)
def shortB (l : List Bs) : Bool := !(l.any shB) && decide ((l.length : Int) ≤ 70)
noncomputable def g_short14 : List D → Option D := encSpec (fun x : (List Bs) => [.list (x.map .str)]) (fun x : (List Bs) => x.length ≤ 1099511627776) (fun x : (List Bs) => .bool (shortB x))
theorem g_short14_eq {l : List Bs} (hd : l.length ≤ 1099511627776) : g_short14 [.list (l.map .str)] = some (.bool (shortB l)) := encSpec_eq (x := l) hd fun y hy => by
    simp only [List.cons.injEq, and_true, true_and, D.str.injEq, D.int.injEq, D.list.injEq, D.bool.injEq, D.agg.injEq, D.clo.injEq, Int.natCast_inj, inj_ie, eSt_ie, eSts_ie] at hy
    rw [hy]
theorem f_short14_ok : PureOK Tryd.prog 19 true g_short14 := by
  have hΓ := Γ0_ok
  refine pure_enc (n := 18) (rs := [.tmp 2]) Tryd.func19 (by kernel_rfl) rfl (by kernel_rfl) (by kernel_rfl) ?_
  rintro l hd
  (try dsimp only at hd ⊢)
  refine ⟨fun _ => by (repeat (first | exact .int _ _ | exact .bool _ | exact .str _ | (refine .tup _ (fun d hd => ?_); simp only [List.mem_cons, List.not_mem_nil, or_false] at hd; rcases hd with rfl | hd))), fun k hz0 => ?_⟩
  unfold shortB
  rw [start_frame (by simp)]; simp only [enumV, go_sem, emptyH]
  repeat (first
    | (apply axJ; (focus ((with_reducible constructor) <;> rfl)))
    | (apply awT mixedOK hΓ (by kernel_rfl); (simp (disch := omega) only [go_sem, ↓reduceIte, dk, ↓lk] <;> with_reducible rfl))
    | ((first | apply awR hΓ | apply awG | apply awH mixedOK hΓ rfl (by kernel_rfl) | apply ovE rfl); (simp (disch := omega) only [go_sem, ↓reduceIte, dk, ↓lk] <;> with_reducible rfl); exact trivial)
    | rfl)
  refine awp_loop_at (X := Nat) (fun i => (frame 18 [(0, .data (.list (l.map .str))), (5, .data (.list (l.map .str))), (6, .data (i64 l.length)), (7, .data (i64 i))])) (fun _ => []) 8
    (fun i => i ≤ l.length ∧ (l.take i).any shB = false) (fun i => l.length - i) 0 ⟨Nat.zero_le _, rfl⟩ (Weak.w) ?_
  rintro i ⟨hi, hp⟩
  by_cases hi2 : i < l.length
  · have hno := fun h => any_next (p := shB) hi2 hp h
    have hyes := fun h => any_yes (p := shB) hi2 h
    unfold shB at hno hyes
    generalize hy : l[i] = y at *
    generalize hc : decide ((y.length : Int) > 300) = c at *
    cases c
    · repeat (first
      | (apply axJ; (focus ((with_reducible constructor) <;> rfl)))
      | (apply awT mixedOK hΓ (by kernel_rfl); (simp (disch := omega) only [go_sem, ↓reduceIte, dk, ↓lk, hy, hc] <;> with_reducible rfl))
      | ((first | apply awR hΓ | apply awG | apply awH mixedOK hΓ rfl (by kernel_rfl) | apply ovE rfl); (simp (disch := omega) only [go_sem, ↓reduceIte, dk, ↓lk, hy, hc] <;> with_reducible rfl); exact trivial)
      | rfl)
      exact ⟨i + 1, ⟨by omega, hno rfl⟩, by omega, Weak.w⟩
    · rw [show l.any shB = true from hyes rfl]
      repeat (first
        | (apply axJ; (focus ((with_reducible constructor) <;> rfl)))
        | (apply awT mixedOK hΓ (by kernel_rfl); (simp (disch := omega) only [go_sem, ↓reduceIte, dk, ↓lk, hy, hc] <;> with_reducible rfl))
        | ((first | apply awR hΓ | apply awG | apply awH mixedOK hΓ rfl (by kernel_rfl) | apply ovE rfl); (simp (disch := omega) only [go_sem, ↓reduceIte, dk, ↓lk, hy, hc] <;> with_reducible rfl); exact trivial)
        | rfl)
      try rfl
  · have hi3 : i = l.length := by omega
    subst hi3
    rw [List.take_length] at hp
    rw [hp]
    generalize hc : decide ((l.length : Int) ≤ 70) = c
    cases c
    · repeat (first
      | (apply axJ; (focus ((with_reducible constructor) <;> rfl)))
      | (apply awT mixedOK hΓ (by kernel_rfl); (simp (disch := omega) only [go_sem, ↓reduceIte, dk, ↓lk, hc] <;> with_reducible rfl))
      | ((first | apply awR hΓ | apply awG | apply awH mixedOK hΓ rfl (by kernel_rfl) | apply ovE rfl); (simp (disch := omega) only [go_sem, ↓reduceIte, dk, ↓lk, hc] <;> with_reducible rfl); exact trivial)
      | rfl)
      try rfl
    · repeat (first
      | (apply axJ; (focus ((with_reducible constructor) <;> rfl)))
      | (apply awT mixedOK hΓ (by kernel_rfl); (simp (disch := omega) only [go_sem, ↓reduceIte, dk, ↓lk, hc] <;> with_reducible rfl))
      | ((first | apply awR hΓ | apply awG | apply awH mixedOK hΓ rfl (by kernel_rfl) | apply ovE rfl); (simp (disch := omega) only [go_sem, ↓reduceIte, dk, ↓lk, hc] <;> with_reducible rfl); exact trivial)
      | rfl)
      try rfl
def notFew (x : Stp) : Bool := !shortB x.inn || (!shortB x.usg || (!shortB x.wds || decide ((x.out.length : Int) > 300)))
def fewB (l : List Stp) : Bool := !(l.any notFew) && decide ((l.length : Int) ≤ 70)
noncomputable def g_few14 : List D → Option D := encSpec (fun x : (List Stp) => [.list (x.map eSt)]) (fun x : (List Stp) => x.length ≤ 1099511627776 ∧ ∀ w ∈ x, StOK w) (fun x : (List Stp) => .bool (fewB x))
theorem g_few14_eq {l : List Stp} (hd : l.length ≤ 1099511627776 ∧ ∀ w ∈ l, StOK w) : g_few14 [.list (l.map eSt)] = some (.bool (fewB l)) := encSpec_eq (x := l) hd fun y hy => by
    simp only [List.cons.injEq, and_true, true_and, D.str.injEq, D.int.injEq, D.list.injEq, D.bool.injEq, D.agg.injEq, D.clo.injEq, Int.natCast_inj, inj_ie, eSt_ie, eSts_ie] at hy
    rw [hy]
theorem f_few14_ok : PureOK Tryd.prog 7 false g_few14 := by
  have hΓ := Γp f_short14_ok (Γn)
  refine pure_enc (n := 37) (rs := [.tmp 2]) Tryd.func7 (by kernel_rfl) rfl (by kernel_rfl) (by kernel_rfl) ?_
  rintro l hd
  (try dsimp only at hd ⊢)
  refine ⟨fun h => (by cases h), fun k hz0 => ?_⟩
  obtain ⟨hl, hx⟩ := hd
  unfold fewB
  rw [start_frame (by simp)]; simp only [enumV, go_sem, emptyH]
  repeat (first
    | (apply axJ; (focus ((with_reducible constructor) <;> rfl)))
    | (apply awT mixedOK hΓ (by kernel_rfl); (simp (disch := omega) only [go_sem, ↓reduceIte, dk, ↓lk] <;> with_reducible rfl))
    | ((first | apply awR hΓ | apply awG | apply awH mixedOK hΓ rfl (by kernel_rfl) | apply ovE rfl); (simp (disch := omega) only [go_sem, ↓reduceIte, dk, ↓lk] <;> with_reducible rfl); exact trivial)
    | rfl)
  refine awp_loop_at (X := Nat) (fun i => (frame 37 [(0, .data (.list (l.map eSt))), (5, .data (.list (l.map eSt))), (6, .data (i64 l.length)), (7, .data (i64 i))])) (fun _ => []) 8
    (fun i => i ≤ l.length ∧ (l.take i).any notFew = false) (fun i => l.length - i) 0 ⟨Nat.zero_le _, rfl⟩ (Weak.w) ?_
  rintro i ⟨hi, hp⟩
  by_cases hi2 : i < l.length
  · have hno := fun h => any_next (p := notFew) hi2 hp h
    have hyes := fun h => any_yes (p := notFew) hi2 h
    obtain ⟨yi, yu, yw, yo⟩ := hx _ (List.getElem_mem hi2)
    unfold notFew at hno hyes
    generalize hy : l[i] = y at *
    have e1 := g_short14_eq (l := y.inn) yi.1
    have e2 := g_short14_eq (l := y.usg) yu.1
    have e3 := g_short14_eq (l := y.wds) yw.1
    generalize shortB y.inn = c1 at *
    generalize shortB y.usg = c2 at *
    generalize shortB y.wds = c3 at *
    generalize hc : decide ((y.out.length : Int) > 300) = c4 at *
    cases c1
    · rw [show l.any notFew = true from hyes rfl]
      repeat (first
        | (apply axJ; (focus ((with_reducible constructor) <;> rfl)))
        | (apply awT mixedOK hΓ (by kernel_rfl); (simp (disch := omega) only [go_sem, ↓reduceIte, dk, ↓lk, hy, e1, e2, e3, hc] <;> with_reducible rfl))
        | ((first | apply awR hΓ | apply awG | apply awH mixedOK hΓ rfl (by kernel_rfl) | apply ovE rfl); (simp (disch := omega) only [go_sem, ↓reduceIte, dk, ↓lk, hy, e1, e2, e3, hc] <;> with_reducible rfl); exact trivial)
        | rfl)
      try rfl
    cases c2
    · rw [show l.any notFew = true from hyes rfl]
      repeat (first
        | (apply axJ; (focus ((with_reducible constructor) <;> rfl)))
        | (apply awT mixedOK hΓ (by kernel_rfl); (simp (disch := omega) only [go_sem, ↓reduceIte, dk, ↓lk, hy, e1, e2, e3, hc] <;> with_reducible rfl))
        | ((first | apply awR hΓ | apply awG | apply awH mixedOK hΓ rfl (by kernel_rfl) | apply ovE rfl); (simp (disch := omega) only [go_sem, ↓reduceIte, dk, ↓lk, hy, e1, e2, e3, hc] <;> with_reducible rfl); exact trivial)
        | rfl)
      try rfl
    cases c3
    · rw [show l.any notFew = true from hyes rfl]
      repeat (first
        | (apply axJ; (focus ((with_reducible constructor) <;> rfl)))
        | (apply awT mixedOK hΓ (by kernel_rfl); (simp (disch := omega) only [go_sem, ↓reduceIte, dk, ↓lk, hy, e1, e2, e3, hc] <;> with_reducible rfl))
        | ((first | apply awR hΓ | apply awG | apply awH mixedOK hΓ rfl (by kernel_rfl) | apply ovE rfl); (simp (disch := omega) only [go_sem, ↓reduceIte, dk, ↓lk, hy, e1, e2, e3, hc] <;> with_reducible rfl); exact trivial)
        | rfl)
      try rfl
    cases c4
    rotate_left
    · rw [show l.any notFew = true from hyes rfl]
      repeat (first
        | (apply axJ; (focus ((with_reducible constructor) <;> rfl)))
        | (apply awT mixedOK hΓ (by kernel_rfl); (simp (disch := omega) only [go_sem, ↓reduceIte, dk, ↓lk, hy, e1, e2, e3, hc] <;> with_reducible rfl))
        | ((first | apply awR hΓ | apply awG | apply awH mixedOK hΓ rfl (by kernel_rfl) | apply ovE rfl); (simp (disch := omega) only [go_sem, ↓reduceIte, dk, ↓lk, hy, e1, e2, e3, hc] <;> with_reducible rfl); exact trivial)
        | rfl)
      try rfl
    · repeat (first
      | (apply axJ; (focus ((with_reducible constructor) <;> rfl)))
      | (apply awT mixedOK hΓ (by kernel_rfl); (simp (disch := omega) only [go_sem, ↓reduceIte, dk, ↓lk, hy, e1, e2, e3, hc] <;> with_reducible rfl))
      | ((first | apply awR hΓ | apply awG | apply awH mixedOK hΓ rfl (by kernel_rfl) | apply ovE rfl); (simp (disch := omega) only [go_sem, ↓reduceIte, dk, ↓lk, hy, e1, e2, e3, hc] <;> with_reducible rfl); exact trivial)
      | rfl)
      exact ⟨i + 1, ⟨by omega, hno rfl⟩, by omega, Weak.w⟩
  · have hi3 : i = l.length := by omega
    subst hi3
    rw [List.take_length] at hp
    rw [hp]
    generalize hc : decide ((l.length : Int) ≤ 70) = c
    cases c
    · repeat (first
      | (apply axJ; (focus ((with_reducible constructor) <;> rfl)))
      | (apply awT mixedOK hΓ (by kernel_rfl); (simp (disch := omega) only [go_sem, ↓reduceIte, dk, ↓lk, hc] <;> with_reducible rfl))
      | ((first | apply awR hΓ | apply awG | apply awH mixedOK hΓ rfl (by kernel_rfl) | apply ovE rfl); (simp (disch := omega) only [go_sem, ↓reduceIte, dk, ↓lk, hc] <;> with_reducible rfl); exact trivial)
      | rfl)
      try rfl
    · repeat (first
      | (apply axJ; (focus ((with_reducible constructor) <;> rfl)))
      | (apply awT mixedOK hΓ (by kernel_rfl); (simp (disch := omega) only [go_sem, ↓reduceIte, dk, ↓lk, hc] <;> with_reducible rfl))
      | ((first | apply awR hΓ | apply awG | apply awH mixedOK hΓ rfl (by kernel_rfl) | apply ovE rfl); (simp (disch := omega) only [go_sem, ↓reduceIte, dk, ↓lk, hc] <;> with_reducible rfl); exact trivial)
      | rfl)
      try rfl
end Go.Ab
namespace Go.Ab
open Go Go.RowKit Go.Proofs
set_option maxRecDepth 10000
set_option maxHeartbeats 8000000
structure PX (x : Stp) : Prop where
  i : (listS x.inn).length ≤ 100000
  u : (listS x.usg).length ≤ 100000
  w : (listS x.wds).length ≤ 100000
  o : x.out.length ≤ 100000
theorem listS_mem : ∀ {l : List Bs} {w : Bs}, w ∈ l → w.length ≤ (listS l).length
  | v :: r, w, h => by
    rw [listS]
    simp only [List.length_append]
    rcases List.mem_cons.1 h with rfl | h
    · omega
    · have := listS_mem h; omega
theorem PX.tx {x : Stp} (h : PX x) : TX x := ⟨Nat.le_trans h.i (by decide), Nat.le_trans h.u (by decide), Nat.le_trans h.w (by decide), Nat.le_trans h.o (by decide)⟩
theorem wl_of {l : List Bs} {n : Nat} (h : (listS l).length ≤ n) (hn : n ≤ 1099511627776) : WL l := ⟨Nat.le_trans (Nat.le_trans (listS_len l) h) hn, fun w hw => Nat.le_trans (Nat.le_trans (listS_mem hw) h) hn⟩
theorem PX.ok {x : Stp} (h : PX x) : StOK x := ⟨wl_of h.i (by decide), wl_of h.u (by decide), wl_of h.w (by decide), Nat.le_trans h.o (by decide)⟩
theorem usgS_bd (x : Stp) : (usgS x).length ≤ (listS x.usg).length + 6 := by
  unfold usgS
  split
  · simp only [List.length_append, List.length_cons, List.length_nil]; omega
  · simp
theorem textS_bd (x : Stp) : (textS x).length ≤ 2 * (listS x.inn).length + (listS x.usg).length + (listS x.wds).length + x.out.length + 40 := by
  have h1 := usgS_bd x
  have h2 := listS_hd x.inn
  have h3 := listS_ge x.inn 1
  unfold textS txA txB txC
  repeat' split
  all_goals (simp only [List.length_append, List.length_cons, List.length_nil]; omega)
theorem zStp_ok : StOK zStp := ⟨wl_nil, wl_nil, wl_nil, by simp [zStp]⟩
theorem lineR_ok {s : Bs} (hs : s.length ≤ 1000000) : StOK (lineR s).1 := by
  unfold lineR
  split
  · exact zStp_ok
  · have h1 := splitB_len 32 s
    have h2 : ∀ w ∈ splitB 32 s, w.length ≤ 1000000 := fun w hw => Nat.le_trans (splitB_mem_len 32 s w hw) hs
    have h4 := splitB_ne 32 s
    generalize splitB 32 s = ws at *
    have hhd : ws.headD [] ∈ ws := by
      cases ws with
      | nil => exact absurd rfl h4
      | cons w r => simp
    have htl : ∀ w ∈ ws.tail, w ∈ ws := fun w hw => List.mem_of_mem_tail hw
    have g1 := gList_all (P := fun w => w.length ≤ 1000000) (nm := ws.headD []) (l := ws.tail) (h2 _ hhd) (fun w hw => h2 _ (htl w hw))
    have g3 := gList_wl (ws.headD []) ws.tail
    rw [List.length_tail] at g3
    have hx := step_ok (l := gList (ws.headD []) ws.tail) (fun g hg => ⟨Nat.le_trans (g3 g hg) (by omega), fun w hw => Nat.le_trans ((g1 g hg).2 w hw) (by decide)⟩)
    unfold lineP lineS
    split
    · split
      · split
        · exact zStp_ok
        · exact hx
      · exact zStp_ok
    · exact zStp_ok
def checkR (x : Stp) : Int := if decide (x.line < 0) || decide (x.line ≥ 1024) then 1 else if (lineR (textS x)).2 == 0 && sameB x (atL (lineR (textS x)).1 x.line) then 0 else 1
end Go.Ab
namespace Go.Ab
open Go Go.RowKit Go.Proofs
open Go.Proofs.YtdodjhiofpiaaaaDoor
set_option maxRecDepth 4000
mutual
theorem bulk_le {H : Type} : ∀ d : DataW H, bulk d ≤ Rows.uptoBulk d
  | .lit l => by cases l <;> simp [bulk, Rows.uptoBulk]
  | .nil => by simp [bulk, Rows.uptoBulk]
  | .ptr d => by have := bulk_le d; simp only [bulk, Rows.uptoBulk]; omega
  | .slice a b => by have := bulkAll_le a; have := bulkAll_le b; simp only [bulk, Rows.uptoBulk]; omega
  | .agg a => by have := bulkAll_le a; simp only [bulk, Rows.uptoBulk]; omega
  | .iface _ d => by have := bulk_le d; simp only [bulk, Rows.uptoBulk]; omega
  | .map es => by simp [bulk, Rows.uptoBulk]
  | .held _ => by simp [bulk, Rows.uptoBulk]
theorem bulkAll_le {H : Type} : ∀ l : List (DataW H), bulkAll l ≤ Rows.uptoBulkAll l
  | [] => by simp [bulkAll, Rows.uptoBulkAll]
  | d :: r => by have := bulk_le d; have := bulkAll_le r; simp only [bulkAll, Rows.uptoBulkAll]; omega
end
theorem trodAll_len {H : Type} {enc : TypeId × Value → H} {P : Program} {W : World} : ∀ (ts : List TypeId) (vs : List Value) (ds : List (DataW H)) (ps : List MemPlace), DataW.TrodAll enc P W 0 (fun _ => true) true ts vs ds ps → ds.length = ts.length
  | [], vs, ds, ps, h => by
    obtain ⟨rfl, rfl, rfl⟩ := ChangeShapes.trodAll_nil h
    rfl
  | t :: ts, vs, ds, ps, h => by
    obtain ⟨v, vs', d, ds', p, q, rfl, rfl, rfl, h1, h2⟩ := ChangeShapes.trodAll_cons h
    simp [trodAll_len ts vs' ds' q h2]
theorem has_str {n : Nat} {cs : List D} (h : HasTy n .str cs) : ∃ s : List UInt8, s.length ≤ n ∧ Ty.str.pack cs = .str s := by
  obtain ⟨s, hl, rfl⟩ := h
  exact ⟨s, hl, rfl⟩
theorem laid14 : laidOutB Tryd.prog = true := by kernel_rfl
theorem own14 : ownKnob Tryd.prog.godebug = none := by kernel_rfl
def accCells : Array Value := #[.int .u8 128, .int .u8 191, .int .u8 160, .int .u8 191, .int .u8 128, .int .u8 159, .int .u8 144, .int .u8 191, .int .u8 128, .int .u8 143, .int .u8 0, .int .u8 0, .int .u8 0, .int .u8 0, .int .u8 0, .int .u8 0, .int .u8 0, .int .u8 0, .int .u8 0, .int .u8 0, .int .u8 0, .int .u8 0, .int .u8 0, .int .u8 0, .int .u8 0, .int .u8 0, .int .u8 0, .int .u8 0, .int .u8 0, .int .u8 0, .int .u8 0, .int .u8 0]
def firstCells : Array Value := (Go.Pinned.utf8FirstZ.map fun n : Nat => Value.int .u8 (n : Int)).toArray
def layCells (cs : Array Value) : Go.Obj → Go.Obj
  | .cells _ t frozen => .cells cs t frozen
  | o => o
noncomputable def laidWorld (os : Os) : World :=
  { World.holding Tryd.prog os ⟨#[], #[], []⟩ with heap := ((World.holding Tryd.prog os ⟨#[], #[], []⟩).heap.modify 1 (layCells firstCells)).modify 2 (layCells accCells) }
def RT (ty : Ty) (n : Nat) (d : D) : Prop := ∃ cs, HasTy n ty cs ∧ d = ty.pack cs
theorem rt_str {n : Nat} {d : D} (h : RT .str n d) : ∃ s : List UInt8, s.length ≤ n ∧ d = .str s := by
  obtain ⟨cs, h1, rfl⟩ := h
  obtain ⟨s, hl, e⟩ := has_str h1
  exact ⟨s, hl, e⟩
theorem list_chooseP {α β γ : Type} {f : α → γ} {g : β → γ} {p : β → Prop} : ∀ (ls : List α), (∀ c ∈ ls, ∃ x, f c = g x ∧ p x) → ∃ l : List β, ls.map f = l.map g ∧ l.length = ls.length ∧ ∀ x ∈ l, p x
  | [], _ => ⟨[], rfl, rfl, fun x hx => by cases hx⟩
  | c :: ls, h => by
    obtain ⟨x, hx, hp⟩ := h c List.mem_cons_self
    obtain ⟨l, h1, h2, h3⟩ := list_chooseP ls fun c hc => h c (List.mem_cons_of_mem _ hc)
    exact ⟨x :: l, by simp [hx, h1], by simp [h2], fun y hy => by
      rcases List.mem_cons.1 hy with rfl | hy
      · exact hp
      · exact h3 y hy⟩
theorem has_strs {n : Nat} {cs : List D} (h : HasTy n (.slice .str) cs) : ∃ l : List Bs, cs = [.list (l.map .str)] ∧ l.length ≤ n ∧ ∀ w ∈ l, w.length ≤ n := by
  simp only [HasTy] at h
  obtain ⟨ls, hl, hs, rfl⟩ := h
  obtain ⟨m, e, k, hp⟩ := list_chooseP (f := Ty.str.pack) (g := D.str) (p := fun w : Bs => w.length ≤ n) ls fun c hc => by
    obtain ⟨s, hl, rfl⟩ := hs c hc
    exact ⟨s, rfl, hl⟩
  exact ⟨m, by rw [e], by omega, hp⟩
abbrev tyStp : Ty := .struct [.int .i64, .int .i64, .slice .str, .slice .str, .slice .str, .str]
theorem has_stp {n : Nat} (hn : n ≤ 1099511627776) {cs : List D} (h : HasTy n tyStp cs) : ∃ x : Stp, tyStp.pack cs = eSt x ∧ StOK x := by
  simp only [HasTy, HasTyL] at h
  obtain ⟨_, _, ⟨a, wa, rfl⟩, ⟨_, _, ⟨b, wb, rfl⟩, ⟨_, _, h3, ⟨_, _, h4, ⟨_, _, h5, ⟨_, _, ⟨s, hs, rfl⟩, rfl, rfl⟩, rfl⟩, rfl⟩, rfl⟩, rfl⟩, rfl⟩ := h
  obtain ⟨l1, rfl, a1, a2⟩ := has_strs (show HasTy n (.slice .str) _ from h3)
  obtain ⟨l2, rfl, b1, b2⟩ := has_strs (show HasTy n (.slice .str) _ from h4)
  obtain ⟨l3, rfl, c1, c2⟩ := has_strs (show HasTy n (.slice .str) _ from h5)
  exact ⟨⟨a, b, l1, l2, l3, s⟩, rfl, ⟨by dsimp only; omega, fun w hw => Nat.le_trans (a2 w hw) hn⟩, ⟨by dsimp only; omega, fun w hw => Nat.le_trans (b2 w hw) hn⟩, ⟨by dsimp only; omega, fun w hw => Nat.le_trans (c2 w hw) hn⟩, Nat.le_trans hs hn⟩
theorem rt_stps {n : Nat} (hn : n ≤ 1099511627776) {d : D} (h : RT (.slice tyStp) n d) : ∃ l : List Stp, (l.length ≤ 1099511627776 ∧ ∀ x ∈ l, StOK x) ∧ d = .list (l.map eSt) := by
  obtain ⟨cs, h1, rfl⟩ := h
  rw [HasTy] at h1
  obtain ⟨ls, hl, hs, rfl⟩ := h1
  obtain ⟨m, e, k, hp⟩ := list_chooseP (f := tyStp.pack) (g := eSt) (p := StOK) ls fun c hc => has_stp hn (hs c hc)
  exact ⟨m, ⟨by omega, hp⟩, by show D.list (ls.map tyStp.pack) = _; rw [e]⟩
end Go.Ab
