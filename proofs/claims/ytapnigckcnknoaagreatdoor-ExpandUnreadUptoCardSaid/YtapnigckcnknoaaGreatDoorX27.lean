/-
  One text of the proof (own work): contracts of functions of the program, by the abstract machine.
-/
import Derived.Test.YtapnigckcnknoaaGreatDoorX12
import Derived.Test.YtapnigckcnknoaaGreatDoorX26
import Derived.Test.YtapnigckcnknoaaGreatDoorX24
import Derived.Test.YtapnigckcnknoaaGreatDoorX18
import Derived.Test.YtapnigckcnknoaaGreatDoorX15
set_option linter.unusedVariables false
set_option linter.unusedSimpArgs false
namespace Go.Ab
open Go Go.RowKit Go.Proofs
set_option maxRecDepth 10000
set_option maxHeartbeats 16000000
theorem bl_leq (a b : Bs) : (Op.bytesLess a b || a == b) = !(decide (b < a)) := by
  rw [← bl_gtr, Bool.not_not]
theorem bl_lss (a b : Bs) : Op.bytesLess a b = decide (a < b) := Go.Proofs.bytesLess_eq a b
noncomputable def g_belowR : List D → Option D := encSpec (fun x : Bs × Bs => [.str x.1, .str x.2]) (fun x : Bs × Bs => x.1.length ≤ 1099511627776 ∧ x.2.length ≤ 1099511627776) (fun x : Bs × Bs => .bool (belowB x.1 x.2))
theorem g_belowR_eq {p : Bs} {d : Bs} (hd : p.length ≤ 1099511627776 ∧ d.length ≤ 1099511627776) : g_belowR [.str p, .str d] = some (.bool (belowB p d)) := encSpec_eq (x := (p, d)) hd fun y hy => by
    obtain ⟨y0, y1⟩ := y; simp only [List.cons.injEq, and_true, true_and, D.str.injEq, D.int.injEq, D.list.injEq, D.bool.injEq, D.agg.injEq, D.clo.injEq, Int.natCast_inj, inj_ie, D.ref.injEq, eFl_ie, eFl_e] at hy
    (try obtain ⟨rfl, rfl⟩ := hy)
    (try subst_vars)
    rfl
theorem f_belowR_ok : PureOK Tryz.prog 80 true g_belowR := by
  have hΓ := Γ0_ok
  refine pure_enc (n := 25) (rs := [.tmp 4]) Tryz.func80 (by kernel_rfl) rfl (by kernel_rfl) (by kernel_rfl) ?_
  rintro ⟨p, d⟩ hd
  (try dsimp only at hd ⊢)
  refine ⟨fun _ => by (repeat (first | exact .int _ _ | exact .bool _ | exact .str _ | (refine .tup _ (fun d hd => ?_); simp only [List.mem_cons, List.not_mem_nil, or_false] at hd; rcases hd with rfl | hd))), fun k hz0 => ?_⟩
  obtain ⟨d1, d2⟩ := hd
  unfold belowB
  rw [start_frame (by simp)]; simp only [enumV, go_sem, emptyH]
  cases h1 : decide (d.length < p.length)
  · repeat (first
    | (apply axJ; (focus ((with_reducible constructor) <;> rfl)))
    | (apply awT mixedOK hΓ (by kernel_rfl); (simp (disch := omega) only [go_sem, ↓reduceIte, dk, ↓lk, Int.reduceBEq, Int.reduceBNe, Bool.true_bne, Bool.false_bne, Bool.not_true, Bool.not_false, h1] <;> with_reducible rfl))
    | ((first | apply awR hΓ | apply awG | apply awH mixedOK hΓ rfl (by kernel_rfl) | apply ovE rfl); (simp (disch := omega) only [go_sem, ↓reduceIte, dk, ↓lk, Int.reduceBEq, Int.reduceBNe, Bool.true_bne, Bool.false_bne, Bool.not_true, Bool.not_false, h1] <;> with_reducible rfl); exact trivial)
    | rfl)
    try rfl
  have hlt := of_decide_eq_true h1
  have hlt2 : d.length < p.length := hlt
  cases h2 : (p.take d.length == d)
  · repeat (first
    | (apply axJ; (focus ((with_reducible constructor) <;> rfl)))
    | (apply awT mixedOK hΓ (by kernel_rfl); (simp (disch := omega) only [go_sem, ↓reduceIte, dk, ↓lk, Int.reduceBEq, Int.reduceBNe, Bool.true_bne, Bool.false_bne, Bool.not_true, Bool.not_false, Nat.sub_zero, h1, h2] <;> with_reducible rfl))
    | ((first | apply awR hΓ | apply awG | apply awH mixedOK hΓ rfl (by kernel_rfl) | apply ovE rfl); (simp (disch := omega) only [go_sem, ↓reduceIte, dk, ↓lk, Int.reduceBEq, Int.reduceBNe, Bool.true_bne, Bool.false_bne, Bool.not_true, Bool.not_false, Nat.sub_zero, h1, h2] <;> with_reducible rfl); exact trivial)
    | rfl)
    try rfl
  have hg : p.getD d.length 0 = p[d.length] := by
    rw [List.getD_eq_getElem?_getD, List.getElem?_eq_getElem hlt2]
    rfl
  rw [hg]
  generalize hy : p[d.length] = y at *
  repeat (first
    | (apply axJ; (focus ((with_reducible constructor) <;> rfl)))
    | (apply awT mixedOK hΓ (by kernel_rfl); (simp (disch := omega) only [go_sem, ↓reduceIte, dk, ↓lk, Int.reduceBEq, Int.reduceBNe, Bool.true_bne, Bool.false_bne, Bool.not_true, Bool.not_false, Nat.sub_zero, h1, h2, hy] <;> with_reducible rfl))
    | ((first | apply awR hΓ | apply awG | apply awH mixedOK hΓ rfl (by kernel_rfl) | apply ovE rfl); (simp (disch := omega) only [go_sem, ↓reduceIte, dk, ↓lk, Int.reduceBEq, Int.reduceBNe, Bool.true_bne, Bool.false_bne, Bool.not_true, Bool.not_false, Nat.sub_zero, h1, h2, hy] <;> with_reducible rfl); exact trivial)
    | rfl)
  try rfl
theorem last_take {l : List Fl} {j : Nat} (hj : j < l.length) : (l.take (j + 1)).getLastD ([], []) = l[j] := by
  have e : l.take (j + 1) = l.take j ++ [l[j]] := by
    rw [List.take_add_one, List.getElem?_eq_getElem hj]
    rfl
  rw [e, List.getLastD_concat]
theorem take_ne {l : List Fl} {j : Nat} (hj : j < l.length) : (l.take (j + 1)).isEmpty = false := by
  cases l with
  | nil => simp at hj
  | cons x l => rfl
noncomputable def g_checkR3 : List D → Option D := encSpec (fun x : (List Fl) => [.list (x.map eFl)]) (fun x : (List Fl) => x.length ≤ 1099511627776 ∧ ∀ f ∈ x, f.1.length ≤ 1099511627776 ∧ f.2.length ≤ 1099511627776) (fun x : (List Fl) => i64 (checkF x))
theorem g_checkR3_eq {l : List Fl} (hd : l.length ≤ 1099511627776 ∧ ∀ f ∈ l, f.1.length ≤ 1099511627776 ∧ f.2.length ≤ 1099511627776) : g_checkR3 [.list (l.map eFl)] = some (i64 (checkF l)) := encSpec_eq (x := l) hd fun y hy => by
    simp only [List.cons.injEq, and_true, true_and, D.str.injEq, D.int.injEq, D.list.injEq, D.bool.injEq, D.agg.injEq, D.clo.injEq, Int.natCast_inj, inj_ie, D.ref.injEq, eFl_ie, eFl_e] at hy
    rw [hy]
theorem f_checkR3_ok : PureOK Tryz.prog 50 true g_checkR3 := by
  have hΓ := Γp f_pathR_ok (Γp f_belowR_ok (Γn))
  refine pure_enc (n := 51) (rs := [.tmp 2]) Tryz.func50 (by kernel_rfl) rfl (by kernel_rfl) (by kernel_rfl) ?_
  rintro l hd
  (try dsimp only at hd ⊢)
  refine ⟨fun _ => by (repeat (first | exact .int _ _ | exact .bool _ | exact .str _ | (refine .tup _ (fun d hd => ?_); simp only [List.mem_cons, List.not_mem_nil, or_false] at hd; rcases hd with rfl | hd))), fun k hz0 => ?_⟩
  obtain ⟨d1, d2⟩ := hd
  unfold checkF
  rw [start_frame (by simp)]; simp only [enumV, go_sem, emptyH]
  cases h1 : decide ((l.length : Int) > 64)
  case true =>
    simp only [if_true]
    repeat (first
      | (apply axJ; (focus ((with_reducible constructor) <;> rfl)))
      | (apply awT mixedOK hΓ (by kernel_rfl); (simp (disch := omega) only [go_sem, ↓reduceIte, dk, ↓lk, Int.reduceBEq, Int.reduceBNe, Bool.true_bne, Bool.false_bne, Bool.not_true, Bool.not_false, h1] <;> with_reducible rfl))
      | ((first | apply awR hΓ | apply awG | apply awH mixedOK hΓ rfl (by kernel_rfl) | apply ovE rfl); (simp (disch := omega) only [go_sem, ↓reduceIte, dk, ↓lk, Int.reduceBEq, Int.reduceBNe, Bool.true_bne, Bool.false_bne, Bool.not_true, Bool.not_false, h1] <;> with_reducible rfl); exact trivial)
      | rfl)
    try rfl
  simp only [Bool.false_eq_true, if_false]
  repeat (first
    | (apply axJ; (focus ((with_reducible constructor) <;> rfl)))
    | (apply awT mixedOK hΓ (by kernel_rfl); (simp (disch := omega) only [go_sem, ↓reduceIte, dk, ↓lk, Int.reduceBEq, Int.reduceBNe, Bool.true_bne, Bool.false_bne, Bool.not_true, Bool.not_false, h1] <;> with_reducible rfl))
    | ((first | apply awR hΓ | apply awG | apply awH mixedOK hΓ rfl (by kernel_rfl) | apply ovE rfl); (simp (disch := omega) only [go_sem, ↓reduceIte, dk, ↓lk, Int.reduceBEq, Int.reduceBNe, Bool.true_bne, Bool.false_bne, Bool.not_true, Bool.not_false, h1] <;> with_reducible rfl); exact trivial)
    | rfl)
  refine awp_loop_at (X := Nat) (fun i => (frame 51 [(0, .data (.list (l.map eFl))), (9, .data (.list (l.map eFl))), (10, .data (i64 l.length)), (11, .data (i64 i))])) (fun _ => []) 20
    (fun i => i ≤ l.length ∧ checkGo [] l = checkGo (l.take i) (l.drop i)) (fun i => l.length - i) 0 ⟨Nat.zero_le _, rfl⟩ (Weak.w) ?_
  rintro i ⟨hi, hpre⟩
  (try dsimp only at hi hpre ⊢)
  rw [hpre]
  clear hpre
  by_cases hi2 : i < l.length
  case neg =>
    have hi3 : i = l.length := by omega
    subst hi3
    rw [List.drop_length, checkGo]
    repeat (first
      | (apply axJ; (focus ((with_reducible constructor) <;> rfl)))
      | (apply awT mixedOK hΓ (by kernel_rfl); (simp (disch := omega) only [go_sem, ↓reduceIte, dk, ↓lk, Int.reduceBEq, Int.reduceBNe, Bool.true_bne, Bool.false_bne, Bool.not_true, Bool.not_false] <;> with_reducible rfl))
      | ((first | apply awR hΓ | apply awG | apply awH mixedOK hΓ rfl (by kernel_rfl) | apply ovE rfl); (simp (disch := omega) only [go_sem, ↓reduceIte, dk, ↓lk, Int.reduceBEq, Int.reduceBNe, Bool.true_bne, Bool.false_bne, Bool.not_true, Bool.not_false] <;> with_reducible rfl); exact trivial)
      | rfl)
    try rfl
  have hdr := List.drop_eq_getElem_cons hi2
  obtain ⟨k1, k2⟩ := d2 l[i] (List.getElem_mem hi2)
  have htk : l.take (i + 1) = l.take i ++ [l[i]] := by
    rw [List.take_add_one, List.getElem?_eq_getElem hi2]
    rfl
  rw [hdr, checkGo]
  generalize hy : l[i] = y at *
  obtain ⟨y1, y2⟩ := y
  rw [← htk]
  dsimp only at k1 k2 ⊢
  have e1 := g_pathR_eq (s := y1) k1
  generalize pathE y1 = pe at *
  by_cases hpe : pe = 0
  case neg =>
    have hpe2 : (pe != 0) = true := by simpa using hpe
    rw [hpe2]
    simp only [if_true]
    repeat (first
      | (apply axJ; (focus ((with_reducible constructor) <;> rfl)))
      | (apply awT mixedOK hΓ (by kernel_rfl); (simp (disch := omega) only [go_sem, ↓reduceIte, dk, ↓lk, Int.reduceBEq, Int.reduceBNe, Bool.true_bne, Bool.false_bne, Bool.not_true, Bool.not_false, hy, e1, hpe2] <;> with_reducible rfl))
      | ((first | apply awR hΓ | apply awG | apply awH mixedOK hΓ rfl (by kernel_rfl) | apply ovE rfl); (simp (disch := omega) only [go_sem, ↓reduceIte, dk, ↓lk, Int.reduceBEq, Int.reduceBNe, Bool.true_bne, Bool.false_bne, Bool.not_true, Bool.not_false, hy, e1, hpe2] <;> with_reducible rfl); exact trivial)
      | rfl)
    try rfl
  subst hpe
  have hpe2 : ((0 : Int) != 0) = false := rfl
  simp only [hpe2, Bool.false_eq_true, if_false]
  cases h2 : decide ((y2.length : Int) > 65536)
  case true =>
    simp only [if_true]
    repeat (first
      | (apply axJ; (focus ((with_reducible constructor) <;> rfl)))
      | (apply awT mixedOK hΓ (by kernel_rfl); (simp (disch := omega) only [go_sem, ↓reduceIte, dk, ↓lk, Int.reduceBEq, Int.reduceBNe, Bool.true_bne, Bool.false_bne, Bool.not_true, Bool.not_false, hy, e1, hpe2, h2] <;> with_reducible rfl))
      | ((first | apply awR hΓ | apply awG | apply awH mixedOK hΓ rfl (by kernel_rfl) | apply ovE rfl); (simp (disch := omega) only [go_sem, ↓reduceIte, dk, ↓lk, Int.reduceBEq, Int.reduceBNe, Bool.true_bne, Bool.false_bne, Bool.not_true, Bool.not_false, hy, e1, hpe2, h2] <;> with_reducible rfl); exact trivial)
      | rfl)
    try rfl
  simp only [Bool.false_eq_true, if_false]
  have hq0 : i = 0 → (!(l.take i).isEmpty && !(decide (((l.take i).getLastD ([], [])).1 < y1))) = false := fun h => by rw [h]; rfl
  rcases Nat.eq_zero_or_pos i with h0 | h0
  case' inl =>
    rw [hq0 h0]
    simp only [Bool.false_eq_true, if_false]
    have hc : decide ((i : Int) > 0) = false := decide_eq_false (by omega)
    repeat (first
      | (apply axJ; (focus ((with_reducible constructor) <;> rfl)))
      | (apply awT mixedOK hΓ (by kernel_rfl); (simp (disch := omega) only [go_sem, ↓reduceIte, dk, ↓lk, Int.reduceBEq, Int.reduceBNe, Bool.true_bne, Bool.false_bne, Bool.not_true, Bool.not_false, hy, e1, hpe2, h2, hc] <;> with_reducible rfl))
      | ((first | apply awR hΓ | apply awG | apply awH mixedOK hΓ rfl (by kernel_rfl) | apply ovE rfl); (simp (disch := omega) only [go_sem, ↓reduceIte, dk, ↓lk, Int.reduceBEq, Int.reduceBNe, Bool.true_bne, Bool.false_bne, Bool.not_true, Bool.not_false, hy, e1, hpe2, h2, hc] <;> with_reducible rfl); exact trivial)
      | rfl)
    clear h0 hc
  case' inr =>
    obtain ⟨z, hz⟩ : ∃ z, l[i - 1] = z := ⟨_, rfl⟩
    have hq1 : (!(l.take i).isEmpty && !(decide (((l.take i).getLastD ([], [])).1 < y1))) = !(decide (z.1 < y1)) := by
      obtain ⟨j, rfl⟩ : ∃ j, i = j + 1 := ⟨i - 1, by omega⟩
      rw [take_ne (by omega), last_take (by omega)]
      simp only [Nat.add_sub_cancel] at hz
      rw [hz]
      rfl
    rw [hq1, ← bl_leq]
    have hc : decide ((i : Int) > 0) = true := decide_eq_true (by omega)
    have hj : ((i : Int) - 1).toNat = i - 1 := by omega
    obtain ⟨z1, z2⟩ := z
    dsimp only
    cases h3 : (Op.bytesLess y1 z1 || y1 == z1)
    case' true =>
      simp only [if_true]
      repeat (first
        | (apply axJ; (focus ((with_reducible constructor) <;> rfl)))
        | (apply awT mixedOK hΓ (by kernel_rfl); (simp (disch := omega) only [go_sem, ↓reduceIte, dk, ↓lk, Int.reduceBEq, Int.reduceBNe, Bool.true_bne, Bool.false_bne, Bool.not_true, Bool.not_false, hy, e1, hpe2, h2, hc, hj, hz, h3] <;> with_reducible rfl))
        | ((first | apply awR hΓ | apply awG | apply awH mixedOK hΓ rfl (by kernel_rfl) | apply ovE rfl); (simp (disch := omega) only [go_sem, ↓reduceIte, dk, ↓lk, Int.reduceBEq, Int.reduceBNe, Bool.true_bne, Bool.false_bne, Bool.not_true, Bool.not_false, hy, e1, hpe2, h2, hc, hj, hz, h3] <;> with_reducible rfl); exact trivial)
        | rfl)
      try rfl
    case' false =>
      simp only [Bool.false_eq_true, if_false]
      repeat (first
        | (apply axJ; (focus ((with_reducible constructor) <;> rfl)))
        | (apply awT mixedOK hΓ (by kernel_rfl); (simp (disch := omega) only [go_sem, ↓reduceIte, dk, ↓lk, Int.reduceBEq, Int.reduceBNe, Bool.true_bne, Bool.false_bne, Bool.not_true, Bool.not_false, hy, e1, hpe2, h2, hc, hj, hz, h3] <;> with_reducible rfl))
        | ((first | apply awR hΓ | apply awG | apply awH mixedOK hΓ rfl (by kernel_rfl) | apply ovE rfl); (simp (disch := omega) only [go_sem, ↓reduceIte, dk, ↓lk, Int.reduceBEq, Int.reduceBNe, Bool.true_bne, Bool.false_bne, Bool.not_true, Bool.not_false, hy, e1, hpe2, h2, hc, hj, hz, h3] <;> with_reducible rfl); exact trivial)
        | rfl)
  all_goals
    refine awp_loop_at (X := Nat) (fun j => (frame 51 [(0, .data (.list (l.map eFl))), (3, .data (i64 i)), (4, .ptr 24 0), (5, .data (i64 j)), (9, .data (.list (l.map eFl))), (10, .data (i64 l.length)), (11, .data (i64 i))])) (fun _ => [(24, .box [.data (.str y1), .data (.str y2)])]) 60
      (fun j => j ≤ i ∧ (l.take j).any (fun g => belowB y1 g.1) = false) (fun j => i - j) 0 ⟨Nat.zero_le _, rfl⟩ (Weak.w) ?_
    rintro j ⟨hj1, hj2⟩
    (try dsimp only at hj1 hj2 ⊢)
    by_cases hji : j < i
    case neg =>
      have hj3 : j = i := by omega
      subst hj3
      rw [hj2]
      simp only [Bool.false_eq_true, if_false]
      repeat (first
        | (apply axJ; (focus ((with_reducible constructor) <;> rfl)))
        | (apply awT mixedOK hΓ (by kernel_rfl); (simp (disch := omega) only [go_sem, ↓reduceIte, dk, ↓lk, Int.reduceBEq, Int.reduceBNe, Bool.true_bne, Bool.false_bne, Bool.not_true, Bool.not_false] <;> with_reducible rfl))
        | ((first | apply awR hΓ | apply awG | apply awH mixedOK hΓ rfl (by kernel_rfl) | apply ovE rfl); (simp (disch := omega) only [go_sem, ↓reduceIte, dk, ↓lk, Int.reduceBEq, Int.reduceBNe, Bool.true_bne, Bool.false_bne, Bool.not_true, Bool.not_false] <;> with_reducible rfl); exact trivial)
        | rfl)
      exact ⟨j + 1, ⟨by omega, rfl⟩, by omega, Weak.w⟩
    have hjl : j < l.length := by omega
    have e2 := g_belowR_eq (p := y1) (d := l[j].1) ⟨k1, (d2 l[j] (List.getElem_mem hjl)).1⟩
    have hnx : belowB y1 l[j].1 = false → (l.take (j + 1)).any (fun g => belowB y1 g.1) = false := fun h => by
      rw [List.take_add_one, List.getElem?_eq_getElem hjl, List.any_append, hj2]
      simp [h]
    have hyes : belowB y1 l[j].1 = true → (l.take i).any (fun g => belowB y1 g.1) = true := fun h => by
      rw [List.any_eq_true]
      exact ⟨l[j], by rw [List.mem_take_iff_getElem]; exact ⟨j, by omega, rfl⟩, h⟩
    generalize hw : l[j] = w at *
    obtain ⟨w1, w2⟩ := w
    dsimp only at e2 hnx hyes
    cases hb : belowB y1 w1
    · rw [hb] at e2
      (repeat (first | (apply axJ; (focus ((with_reducible constructor) <;> rfl))) | ((first | apply awR hΓ | apply awG | apply ovE rfl); (simp (disch := omega) only [go_sem, ↓reduceIte, dk, ↓lk, Int.reduceBEq, Int.reduceBNe, Bool.true_bne, Bool.false_bne, Bool.not_true, Bool.not_false, hw, e2] <;> with_reducible rfl); exact trivial) | rfl))
      (apply awp_regf mixedOK hΓ (by kernel_rfl); (simp (disch := omega) only [go_sem, ↓reduceIte, dk, ↓lk, Int.reduceBEq, Int.reduceBNe, Bool.true_bne, Bool.false_bne, Bool.not_true, Bool.not_false, hw, e2] <;> with_reducible rfl); (simp only [go_sem] <;> with_reducible rfl))
      repeat (first
        | (apply axJ; (focus ((with_reducible constructor) <;> rfl)))
        | (apply awT mixedOK hΓ (by kernel_rfl); (simp (disch := omega) only [go_sem, ↓reduceIte, dk, ↓lk, Int.reduceBEq, Int.reduceBNe, Bool.true_bne, Bool.false_bne, Bool.not_true, Bool.not_false, hw, e2] <;> with_reducible rfl))
        | ((first | apply awR hΓ | apply awG | apply awH mixedOK hΓ rfl (by kernel_rfl) | apply ovE rfl); (simp (disch := omega) only [go_sem, ↓reduceIte, dk, ↓lk, Int.reduceBEq, Int.reduceBNe, Bool.true_bne, Bool.false_bne, Bool.not_true, Bool.not_false, hw, e2] <;> with_reducible rfl); exact trivial)
        | rfl)
      exact ⟨j + 1, ⟨by omega, hnx hb⟩, by omega, Weak.w⟩
    · rw [hb] at e2
      rw [hyes hb]
      simp only [if_true]
      (repeat (first | (apply axJ; (focus ((with_reducible constructor) <;> rfl))) | ((first | apply awR hΓ | apply awG | apply ovE rfl); (simp (disch := omega) only [go_sem, ↓reduceIte, dk, ↓lk, Int.reduceBEq, Int.reduceBNe, Bool.true_bne, Bool.false_bne, Bool.not_true, Bool.not_false, hw, e2] <;> with_reducible rfl); exact trivial) | rfl))
      (apply awp_regf mixedOK hΓ (by kernel_rfl); (simp (disch := omega) only [go_sem, ↓reduceIte, dk, ↓lk, Int.reduceBEq, Int.reduceBNe, Bool.true_bne, Bool.false_bne, Bool.not_true, Bool.not_false, hw, e2] <;> with_reducible rfl); (simp only [go_sem] <;> with_reducible rfl))
      repeat (first
        | (apply axJ; (focus ((with_reducible constructor) <;> rfl)))
        | (apply awT mixedOK hΓ (by kernel_rfl); (simp (disch := omega) only [go_sem, ↓reduceIte, dk, ↓lk, Int.reduceBEq, Int.reduceBNe, Bool.true_bne, Bool.false_bne, Bool.not_true, Bool.not_false, hw, e2] <;> with_reducible rfl))
        | ((first | apply awR hΓ | apply awG | apply awH mixedOK hΓ rfl (by kernel_rfl) | apply ovE rfl); (simp (disch := omega) only [go_sem, ↓reduceIte, dk, ↓lk, Int.reduceBEq, Int.reduceBNe, Bool.true_bne, Bool.false_bne, Bool.not_true, Bool.not_false, hw, e2] <;> with_reducible rfl); exact trivial)
        | rfl)
      try rfl
noncomputable def g_putR3 : List D → Option D := encSpec (fun x : (List Fl) × Fl => [.list (x.1.map eFl), eFl x.2]) (fun x : (List Fl) × Fl => (x.1.length ≤ 1000000 ∧ ∀ g ∈ x.1, g.1.length ≤ 1099511627776 ∧ g.2.length ≤ 1099511627776) ∧ x.2.1.length ≤ 1099511627776 ∧ x.2.2.length ≤ 1099511627776) (fun x : (List Fl) × Fl => .tup [.list ((putF x.1 x.2).1.map eFl), i64 (putF x.1 x.2).2])
theorem g_putR3_eq {l : List Fl} {v : Fl} (hd : (l.length ≤ 1000000 ∧ ∀ g ∈ l, g.1.length ≤ 1099511627776 ∧ g.2.length ≤ 1099511627776) ∧ v.1.length ≤ 1099511627776 ∧ v.2.length ≤ 1099511627776) : g_putR3 [.list (l.map eFl), eFl v] = some (.tup [.list ((putF l v).1.map eFl), i64 (putF l v).2]) := encSpec_eq (x := (l, v)) hd fun y hy => by
    obtain ⟨y0, y1⟩ := y; simp only [List.cons.injEq, and_true, true_and, D.str.injEq, D.int.injEq, D.list.injEq, D.bool.injEq, D.agg.injEq, D.clo.injEq, Int.natCast_inj, inj_ie, D.ref.injEq, eFl_ie, eFl_e] at hy
    (try obtain ⟨rfl, rfl⟩ := hy)
    (try subst_vars)
    rfl
theorem f_putR3_ok : PureOK Tryz.prog 53 false g_putR3 := by
  have hΓ := Γp f_checkR3_ok (Γp f_pathR_ok (Γp f_belowR_ok (Γn)))
  refine pure_enc (n := 72) (rs := [.tmp 4, .tmp 5]) Tryz.func53 (by kernel_rfl) rfl (by kernel_rfl) (by kernel_rfl) ?_
  rintro ⟨l, v⟩ hd
  (try dsimp only at hd ⊢)
  refine ⟨fun h => (by cases h), fun k hz0 => ?_⟩
  obtain ⟨⟨d1, d2⟩, d3, d4⟩ := hd
  obtain ⟨f1, f2⟩ := v
  rw [eFl_eq]
  dsimp only at d3 d4 ⊢
  have e1 := g_checkR3_eq (l := l) ⟨by omega, d2⟩
  have e2 := g_pathR_eq (s := f1) d3
  unfold putF
  dsimp only
  generalize checkF l = ck at *
  generalize pathE f1 = pe at *
  rw [start_frame (by simp)]; simp only [enumV, go_sem, emptyH]
  by_cases hck : ck = 0
  case neg =>
    have hck2 : (ck != 0) = true := by simpa using hck
    rw [hck2]
    simp only [if_true]
    repeat (first
      | (apply axJ; (focus ((with_reducible constructor) <;> rfl)))
      | (apply awT mixedOK hΓ (by kernel_rfl); (simp (disch := omega) only [go_sem, ↓reduceIte, dk, ↓lk, Int.reduceBEq, Int.reduceBNe, Bool.true_bne, Bool.false_bne, Bool.not_true, Bool.not_false, e1, hck2] <;> with_reducible rfl))
      | ((first | apply awR hΓ | apply awG | apply awH mixedOK hΓ rfl (by kernel_rfl) | apply ovE rfl); (simp (disch := omega) only [go_sem, ↓reduceIte, dk, ↓lk, Int.reduceBEq, Int.reduceBNe, Bool.true_bne, Bool.false_bne, Bool.not_true, Bool.not_false, e1, hck2] <;> with_reducible rfl); exact trivial)
      | rfl)
    try rfl
  subst hck
  have hck2 : ((0 : Int) != 0) = false := rfl
  simp only [hck2, Bool.false_eq_true, if_false]
  by_cases hpe : pe = 0
  case neg =>
    have hpe2 : (pe != 0) = true := by simpa using hpe
    rw [hpe2]
    simp only [if_true]
    repeat (first
      | (apply axJ; (focus ((with_reducible constructor) <;> rfl)))
      | (apply awT mixedOK hΓ (by kernel_rfl); (simp (disch := omega) only [go_sem, ↓reduceIte, dk, ↓lk, Int.reduceBEq, Int.reduceBNe, Bool.true_bne, Bool.false_bne, Bool.not_true, Bool.not_false, e1, e2, hck2, hpe2] <;> with_reducible rfl))
      | ((first | apply awR hΓ | apply awG | apply awH mixedOK hΓ rfl (by kernel_rfl) | apply ovE rfl); (simp (disch := omega) only [go_sem, ↓reduceIte, dk, ↓lk, Int.reduceBEq, Int.reduceBNe, Bool.true_bne, Bool.false_bne, Bool.not_true, Bool.not_false, e1, e2, hck2, hpe2] <;> with_reducible rfl); exact trivial)
      | rfl)
    try rfl
  subst hpe
  simp only [hck2, Bool.false_eq_true, if_false]
  cases h3 : decide ((f2.length : Int) > 65536)
  case true =>
    simp only [if_true]
    repeat (first
      | (apply axJ; (focus ((with_reducible constructor) <;> rfl)))
      | (apply awT mixedOK hΓ (by kernel_rfl); (simp (disch := omega) only [go_sem, ↓reduceIte, dk, ↓lk, Int.reduceBEq, Int.reduceBNe, Bool.true_bne, Bool.false_bne, Bool.not_true, Bool.not_false, e1, e2, hck2, h3] <;> with_reducible rfl))
      | ((first | apply awR hΓ | apply awG | apply awH mixedOK hΓ rfl (by kernel_rfl) | apply ovE rfl); (simp (disch := omega) only [go_sem, ↓reduceIte, dk, ↓lk, Int.reduceBEq, Int.reduceBNe, Bool.true_bne, Bool.false_bne, Bool.not_true, Bool.not_false, e1, e2, hck2, h3] <;> with_reducible rfl); exact trivial)
      | rfl)
    try rfl
  simp only [Bool.false_eq_true, if_false]
  repeat (first
    | (apply axJ; (focus ((with_reducible constructor) <;> rfl)))
    | (apply awT mixedOK hΓ (by kernel_rfl); (simp (disch := omega) only [go_sem, ↓reduceIte, dk, ↓lk, Int.reduceBEq, Int.reduceBNe, Bool.true_bne, Bool.false_bne, Bool.not_true, Bool.not_false, e1, e2, hck2, h3] <;> with_reducible rfl))
    | ((first | apply awR hΓ | apply awG | apply awH mixedOK hΓ rfl (by kernel_rfl) | apply ovE rfl); (simp (disch := omega) only [go_sem, ↓reduceIte, dk, ↓lk, Int.reduceBEq, Int.reduceBNe, Bool.true_bne, Bool.false_bne, Bool.not_true, Bool.not_false, e1, e2, hck2, h3] <;> with_reducible rfl); exact trivial)
    | rfl)
  refine awp_weak (Weak.nilrowF (i := 6) 67 (sz := 2) (by omega) (by omega) rfl) ?_
  refine awp_loop_at (X := Nat × Bool × List Fl) (fun y => (frame 72 [(3, .ptr 0 0), (6, .row 19 y.2.2.length), (7, .data (.bool y.2.1)), (21, .data (.list (l.map eFl))), (22, .data (i64 l.length)), (23, .data (i64 y.1))])) (fun y => [(0, .box [.data (.str f1), .data (.str f2)]), (19, .row 67 2 (y.2.2.map eFl))]) 20
    (fun y => y.1 ≤ l.length ∧ putGo (f1, f2) false [] l = putGo (f1, f2) y.2.1 y.2.2 (l.drop y.1) ∧ y.2.2.length ≤ 2 * y.1) (fun y => l.length - y.1) (0, false, []) ⟨Nat.zero_le _, rfl, Nat.zero_le _⟩ (Weak.v (by (simp [ConvF, lookV, Conv, ints, upd]; done)) (by (simp (disch := omega) only [TabSub, look, if_pos, if_neg, Obj.refsOK, refsOKs, AV.refsOK, decide_eq_true_eq, Bool.and_true, Bool.and_self, upd] ) <;> ((repeat' apply And.intro) <;> first | exact True.intro | omega | (simp; done) | rfl))) ?_
  rintro ⟨i, dn, out⟩ ⟨hi, hpre, hol⟩
  (try dsimp only at hi hpre hol ⊢)
  have hmf : ∀ o : List Fl, (o ++ [(f1, f2)]).map eFl = o.map eFl ++ [.agg [.str f1, .str f2]] := fun o => by rw [List.map_append]; rfl
  by_cases hi2 : i < l.length
  case neg =>
    have hi3 : i = l.length := by omega
    subst hi3
    rw [List.drop_length, putGo] at hpre
    rw [hpre]
    unfold putE
    dsimp only
    cases dn
    · simp only [Bool.false_eq_true, if_false]
      have hll : (out ++ [(f1, f2)]).length = out.length + 1 := by rw [List.length_append]; rfl
      rw [hll]
      cases h4 : decide (((out.length + 1 : Nat) : Int) > 64)
      · simp only [Bool.false_eq_true, if_false]
        rw [hmf]
        repeat (first
          | (apply axJ; (focus ((with_reducible constructor) <;> rfl)))
          | (apply awT mixedOK hΓ (by kernel_rfl); (simp (disch := omega) only [go_sem, ↓reduceIte, dk, ↓lk, Int.reduceBEq, Int.reduceBNe, Bool.true_bne, Bool.false_bne, Bool.not_true, Bool.not_false, h4] <;> with_reducible rfl))
          | ((first | apply awR hΓ | apply awG | apply awH mixedOK hΓ rfl (by kernel_rfl) | apply ovE rfl); (simp (disch := omega) only [go_sem, ↓reduceIte, dk, ↓lk, Int.reduceBEq, Int.reduceBNe, Bool.true_bne, Bool.false_bne, Bool.not_true, Bool.not_false, h4] <;> with_reducible rfl); exact trivial)
          | rfl)
        try rfl
      · simp only [if_true]
        repeat (first
          | (apply axJ; (focus ((with_reducible constructor) <;> rfl)))
          | (apply awT mixedOK hΓ (by kernel_rfl); (simp (disch := omega) only [go_sem, ↓reduceIte, dk, ↓lk, Int.reduceBEq, Int.reduceBNe, Bool.true_bne, Bool.false_bne, Bool.not_true, Bool.not_false, h4] <;> with_reducible rfl))
          | ((first | apply awR hΓ | apply awG | apply awH mixedOK hΓ rfl (by kernel_rfl) | apply ovE rfl); (simp (disch := omega) only [go_sem, ↓reduceIte, dk, ↓lk, Int.reduceBEq, Int.reduceBNe, Bool.true_bne, Bool.false_bne, Bool.not_true, Bool.not_false, h4] <;> with_reducible rfl); exact trivial)
          | rfl)
        try rfl
    · simp only [if_true]
      cases h4 : decide ((out.length : Int) > 64)
      · simp only [Bool.false_eq_true, if_false]
        repeat (first
          | (apply axJ; (focus ((with_reducible constructor) <;> rfl)))
          | (apply awT mixedOK hΓ (by kernel_rfl); (simp (disch := omega) only [go_sem, ↓reduceIte, dk, ↓lk, Int.reduceBEq, Int.reduceBNe, Bool.true_bne, Bool.false_bne, Bool.not_true, Bool.not_false, h4] <;> with_reducible rfl))
          | ((first | apply awR hΓ | apply awG | apply awH mixedOK hΓ rfl (by kernel_rfl) | apply ovE rfl); (simp (disch := omega) only [go_sem, ↓reduceIte, dk, ↓lk, Int.reduceBEq, Int.reduceBNe, Bool.true_bne, Bool.false_bne, Bool.not_true, Bool.not_false, h4] <;> with_reducible rfl); exact trivial)
          | rfl)
        try rfl
      · simp only [if_true]
        repeat (first
          | (apply axJ; (focus ((with_reducible constructor) <;> rfl)))
          | (apply awT mixedOK hΓ (by kernel_rfl); (simp (disch := omega) only [go_sem, ↓reduceIte, dk, ↓lk, Int.reduceBEq, Int.reduceBNe, Bool.true_bne, Bool.false_bne, Bool.not_true, Bool.not_false, h4] <;> with_reducible rfl))
          | ((first | apply awR hΓ | apply awG | apply awH mixedOK hΓ rfl (by kernel_rfl) | apply ovE rfl); (simp (disch := omega) only [go_sem, ↓reduceIte, dk, ↓lk, Int.reduceBEq, Int.reduceBNe, Bool.true_bne, Bool.false_bne, Bool.not_true, Bool.not_false, h4] <;> with_reducible rfl); exact trivial)
          | rfl)
        try rfl
  have hdr := List.drop_eq_getElem_cons hi2
  obtain ⟨k1, k2⟩ := d2 l[i] (List.getElem_mem hi2)
  rw [hdr, putGo] at hpre
  generalize hy : l[i] = y at *
  obtain ⟨y1, y2⟩ := y
  have hmy : ∀ o : List Fl, (o ++ [(y1, y2)]).map eFl = o.map eFl ++ [.agg [.str y1, .str y2]] := fun o => by rw [List.map_append]; rfl
  dsimp only at k1 k2 hpre
  have e3 := g_belowR_eq (p := y1) (d := f1) ⟨k1, d3⟩
  have e4 := g_belowR_eq (p := f1) (d := y1) ⟨d3, k1⟩
  rw [← bl_lss] at hpre
  have hne : (y1 != f1) = !(y1 == f1) := rfl
  generalize belowB y1 f1 = b1 at *
  generalize belowB f1 y1 = b2 at *
  generalize hbl : Op.bytesLess y1 f1 = c at *
  generalize hye : (y1 == f1) = e at *
  cases b1
  case true =>
    simp only [Bool.true_or, if_true] at hpre
    rw [hpre]
    repeat (first
      | (apply axJ; (focus ((with_reducible constructor) <;> rfl)))
      | (apply awT mixedOK hΓ (by kernel_rfl); (simp (disch := omega) only [go_sem, ↓reduceIte, dk, ↓lk, Int.reduceBEq, Int.reduceBNe, Bool.true_bne, Bool.false_bne, Bool.not_true, Bool.not_false, hy, e3] <;> with_reducible rfl))
      | ((first | apply awR hΓ | apply awG | apply awH mixedOK hΓ rfl (by kernel_rfl) | apply ovE rfl); (simp (disch := omega) only [go_sem, ↓reduceIte, dk, ↓lk, Int.reduceBEq, Int.reduceBNe, Bool.true_bne, Bool.false_bne, Bool.not_true, Bool.not_false, hy, e3] <;> with_reducible rfl); exact trivial)
      | rfl)
    try rfl
  cases b2
  case true =>
    simp only [Bool.false_or, if_true] at hpre
    rw [hpre]
    repeat (first
      | (apply axJ; (focus ((with_reducible constructor) <;> rfl)))
      | (apply awT mixedOK hΓ (by kernel_rfl); (simp (disch := omega) only [go_sem, ↓reduceIte, dk, ↓lk, Int.reduceBEq, Int.reduceBNe, Bool.true_bne, Bool.false_bne, Bool.not_true, Bool.not_false, hy, e3, e4] <;> with_reducible rfl))
      | ((first | apply awR hΓ | apply awG | apply awH mixedOK hΓ rfl (by kernel_rfl) | apply ovE rfl); (simp (disch := omega) only [go_sem, ↓reduceIte, dk, ↓lk, Int.reduceBEq, Int.reduceBNe, Bool.true_bne, Bool.false_bne, Bool.not_true, Bool.not_false, hy, e3, e4] <;> with_reducible rfl); exact trivial)
      | rfl)
    try rfl
  simp only [Bool.or_self, Bool.false_eq_true, if_false] at hpre
  cases dn <;> cases c <;> cases e
  all_goals
    simp only [Bool.not_false, Bool.not_true, Bool.or_false, Bool.or_true, Bool.true_or, Bool.false_or, Bool.and_true, Bool.and_false, Bool.true_and, Bool.false_and, Bool.and_self, Bool.or_self, Bool.false_eq_true, if_true, if_false] at hpre hne
    repeat (first
      | (apply axJ; (focus ((with_reducible constructor) <;> rfl)))
      | (apply awT mixedOK hΓ (by kernel_rfl); (simp (disch := omega) only [go_sem, ↓reduceIte, dk, ↓lk, Int.reduceBEq, Int.reduceBNe, Bool.true_bne, Bool.false_bne, Bool.not_true, Bool.not_false, hy, e3, e4, hbl, hye, hne] <;> with_reducible rfl))
      | ((first | apply awR hΓ | apply awG | apply awH mixedOK hΓ rfl (by kernel_rfl) | apply ovE rfl); (simp (disch := omega) only [go_sem, ↓reduceIte, dk, ↓lk, Int.reduceBEq, Int.reduceBNe, Bool.true_bne, Bool.false_bne, Bool.not_true, Bool.not_false, hy, e3, e4, hbl, hye, hne] <;> with_reducible rfl); exact trivial)
      | rfl)
    refine ⟨(i + 1, _, _), ⟨by dsimp only; omega, hpre, ?_⟩, by dsimp only; omega, ?_⟩
    · dsimp only
      (try simp only [List.length_append, List.length_cons, List.length_nil])
      omega
    · dsimp only
      (try simp only [hmy, hmf])
      exact Weak.v (by (simp [ConvF, lookV, Conv, ints, List.length_append]; done)) (by (simp (disch := omega) only [TabSub, look, if_pos, if_neg, Obj.refsOK, refsOKs, AV.refsOK, decide_eq_true_eq, Bool.and_true, Bool.and_self, List.length_append] ) <;> ((repeat' apply And.intro) <;> first | exact True.intro | omega | (simp; done) | rfl))
end Go.Ab
namespace Go.Ab
open Go Go.RowKit Go.Proofs
set_option maxRecDepth 10000
set_option maxHeartbeats 16000000
theorem strs_el7 (l : List Bs) : elemsOK 1 (l.map D.str) = true := elemsOK_map (f := D.str) (sz := 1) (fun _ => ⟨rfl, rfl⟩) l
noncomputable def g_splitRo : List D → Option (TypeId × Nat × List D) := encSpec (fun x : Bs × UInt8 => [.str x.1, u8 x.2.toNat]) (fun x : Bs × UInt8 => x.1.length ≤ 1099511627776) (fun x : Bs × UInt8 => (9, 1, (splitB x.2 x.1).map .str))
theorem g_splitRo_eq {s : Bs} {c : UInt8} (hd : s.length ≤ 1099511627776) : g_splitRo [.str s, .int .u8 c.toNat] = some (9, 1, (splitB c s).map .str) := encSpec_eq (x := (s, c)) hd fun y hy => by
  obtain ⟨y0, y1⟩ := y
  simp only [List.cons.injEq, and_true, D.str.injEq, D.int.injEq, true_and, Int.natCast_inj, UInt8.toNat_inj] at hy
  obtain ⟨rfl, rfl⟩ := hy
  rfl
theorem f_splitRo_ok : OwnOK Tryz.prog 51 g_splitRo := by
  have hΓ := Γ0_ok
  refine own_enc (n := 34) (rs := [.tmp 4]) Tryz.func51 (by kernel_rfl) rfl (by kernel_rfl) (by kernel_rfl) ?_
  rintro ⟨s, c⟩ hd
  dsimp only at hd ⊢
  refine ⟨⟨by decide, strs_el7 _⟩, fun k hz0 => ?_⟩
  rw [start_frame (by simp)]; simp only [enumV, go_sem, emptyH]
  repeat (first
    | (apply axJ; (focus ((with_reducible constructor) <;> rfl)))
    | (apply awT mixedOK hΓ (by kernel_rfl); (simp (disch := omega) only [go_sem, ↓reduceIte, dk] <;> with_reducible rfl))
    | ((first | apply awR hΓ | apply awG | apply awH mixedOK hΓ rfl (by kernel_rfl) | apply ovE rfl); (simp (disch := omega) only [go_sem, ↓reduceIte, dk] <;> with_reducible rfl); exact trivial)
    | rfl)
  refine awp_weak (Weak.nilrowF (i := 5) 9 (sz := 1) (by omega) (by omega) rfl) ?_
  refine awp_loop_at (X := Nat × Nat × List Bs) (fun y => (frame 34 [(0, .data (.str s)), (1, .data (u8 c.toNat)), (5, .row 4 y.2.2.length), (6, .data (i64 y.2.1)), (7, .data (i64 y.1))])) (fun y => [(4, .row 9 1 (y.2.2.map .str))]) 5
    (fun y => y.1 ≤ s.length ∧ y.2.1 ≤ y.1 ∧ y.2.2.length ≤ y.1 ∧ splitB c s = y.2.2 ++ cons1 ((s.drop y.2.1).take (y.1 - y.2.1)) (splitB c (s.drop y.1))) (fun y => s.length - y.1) (0, 0, [])
    ⟨Nat.zero_le _, Nat.zero_le _, Nat.zero_le _, by simp [cons1_nil (splitB_ne c s)]⟩ (Weak.v (by (simp [ConvF, lookV, Conv, ints, upd]; done)) (by (simp (disch := omega) only [TabSub, look, if_pos, if_neg, Obj.refsOK, refsOKs, AV.refsOK, decide_eq_true_eq, Bool.and_true, Bool.and_self, upd] ) <;> ((repeat' apply And.intro) <;> first | exact True.intro | omega | (simp; done) | rfl))) ?_
  rintro ⟨i, f, acc⟩ ⟨h1, h2, h3, h4⟩
  dsimp only at h1 h2 h3 h4 ⊢
  by_cases hi : i < s.length
  · have hst := split_step (c := c) hi h2
    have hbe := byteEq s[i] c
    generalize hy : s[i] = y at *
    generalize hc : (y == c) = b at *
    rw [hst] at h4
    cases b
    · repeat (first
      | (apply axJ; (focus ((with_reducible constructor) <;> rfl)))
      | (apply awT mixedOK hΓ (by kernel_rfl); (simp (disch := omega) only [go_sem, ↓reduceIte, dk, hy, hbe] <;> with_reducible rfl))
      | ((first | apply awR hΓ | apply awG | apply awH mixedOK hΓ rfl (by kernel_rfl) | apply ovE rfl); (simp (disch := omega) only [go_sem, ↓reduceIte, dk, hy, hbe] <;> with_reducible rfl); exact trivial)
      | rfl)
      exact ⟨(i + 1, f, acc), ⟨by dsimp only; omega, by dsimp only; omega, by dsimp only; omega, h4⟩, by dsimp only; omega, Weak.w⟩
    · repeat (first
      | (apply axJ; (focus ((with_reducible constructor) <;> rfl)))
      | (apply awT mixedOK hΓ (by kernel_rfl); (simp (disch := omega) only [go_sem, ↓reduceIte, dk, ↓lk, hy, hbe] <;> with_reducible rfl))
      | ((first | apply awR hΓ | apply awG | apply awH mixedOK hΓ rfl (by kernel_rfl) | apply ovE rfl); (simp (disch := omega) only [go_sem, ↓reduceIte, dk, ↓lk, hy, hbe] <;> with_reducible rfl); exact trivial)
      | rfl)
      refine ⟨(i + 1, i + 1, acc ++ [(s.drop f).take (i - f)]), ⟨by dsimp only; omega, Nat.le_refl _, by dsimp only; rw [List.length_append]; simp only [List.length_cons, List.length_nil]; omega, by dsimp only; rw [h4]; simp⟩, by dsimp only; omega, ?_⟩
      have hm : (acc ++ [(s.drop f).take (i - f)]).map D.str = acc.map D.str ++ [.str ((s.drop f).take (i - f))] := by rw [List.map_append]; rfl
      exact Weak.v (by (simp [ConvF, lookV, Conv, ints, hm]; done)) (by (simp (disch := omega) only [TabSub, look, if_pos, if_neg, Obj.refsOK, refsOKs, AV.refsOK, decide_eq_true_eq, Bool.and_true, Bool.and_self, hm] ) <;> ((repeat' apply And.intro) <;> first | exact True.intro | omega | (simp; done) | rfl))
  · have hi2 : i = s.length := by omega
    subst hi2
    rw [List.drop_length] at h4
    have h5 : splitB c s = acc ++ [(s.drop f).take (s.length - f)] := by
      rw [h4]
      show acc ++ [(s.drop f).take (s.length - f) ++ []] = _
      rw [List.append_nil]
    rw [h5, List.map_append]
    repeat (first
      | (apply axJ; (focus ((with_reducible constructor) <;> rfl)))
      | (apply awT mixedOK hΓ (by kernel_rfl); (simp (disch := omega) only [go_sem, ↓reduceIte, dk, ↓lk] <;> with_reducible rfl))
      | ((first | apply awR hΓ | apply awG | apply awH mixedOK hΓ rfl (by kernel_rfl) | apply ovE rfl); (simp (disch := omega) only [go_sem, ↓reduceIte, dk, ↓lk] <;> with_reducible rfl); exact trivial)
      | rfl)
    exact ⟨rfl, 4, by rw [List.length_append, List.length_map]; rfl, rfl⟩
noncomputable def g_linesRo := locSpec (fun s : Bs => [AV.data (.str s)]) (fun _ => []) (fun s => s.length ≤ 1099511627776) (fun s => if (linesE s).2 == 0 then (.tup [.row 0 (linesE s).1.length, .data (i64 0)], [.row 9 1 ((linesE s).1.map .str)]) else (.tup [.nils, .data (i64 (linesE s).2)], []))
theorem g_linesRo_eq {s : Bs} (hd : s.length ≤ 1099511627776) : g_linesRo [.data (.str s)] [] = some (if (linesE s).2 == 0 then (.tup [.row 0 (linesE s).1.length, .data (i64 0)], [.row 9 1 ((linesE s).1.map .str)]) else (.tup [.nils, .data (i64 (linesE s).2)], [])) :=
  locSpec_eq (enc := fun s : Bs => [AV.data (.str s)]) (eno := fun _ => []) (dom := fun s => s.length ≤ 1099511627776) (x := s) hd fun y hy _ => by
    simp only [List.cons.injEq, and_true, AV.data.injEq, D.str.injEq] at hy
    rw [hy]
theorem f_linesRo_ok : LocOK Tryz.prog 36 g_linesRo := by
  have hΓ := (Γo f_splitRo_ok (Γn))
  refine loc_enc (n := 14) (rs := [.tmp 2, .tmp 3]) Tryz.func36 (by kernel_rfl) rfl (by kernel_rfl) (by kernel_rfl) ?_
  intro s hd k hcb
  (try dsimp only at hd ⊢)
  have e1 := g_splitRo_eq (s := s) (c := 10) hd
  have hl := splitB_len 10 s
  have hL : linesE s = if decide ((s.length : Int) > 65536) then ([], 10) else if decide (((splitB 10 s).length : Int) > 1024) then ([], 10) else (splitB 10 s, 0) := rfl
  generalize linesE s = L at *
  generalize splitB 10 s = l at *
  rw [start_frameA (by simp)]; simp only [enumA, enumO, List.length_cons, List.length_nil, Nat.reduceAdd, go_sem]
  generalize hc0 : decide ((s.length : Int) > 65536) = c0 at *
  generalize hc1 : decide ((l.length : Int) > 1024) = c1 at *
  rw [show (((10 : UInt8).toNat : Nat) : Int) = 10 from rfl] at e1
  cases c0
  case true =>
    simp only [if_true] at hL
    subst hL
    repeat (first
      | (apply axJ; (focus ((with_reducible constructor) <;> rfl)))
      | (apply awT mixedOK hΓ (by kernel_rfl); (simp (disch := omega) only [go_sem, ↓reduceIte, dk, ↓lk, e1, hc0, hc1] <;> with_reducible rfl))
      | ((first | apply awR hΓ | apply awG | apply awH mixedOK hΓ rfl (by kernel_rfl) | apply ovE rfl); (simp (disch := omega) only [go_sem, ↓reduceIte, dk, ↓lk, e1, hc0, hc1] <;> with_reducible rfl); exact trivial)
      | rfl)
    exact retL_x (r := .tup [.nils, .data (i64 10)]) (os := []) rfl (by simp (disch := omega) only [go_sem, ↓reduceIte, dk] <;> rfl) (Weak.packd (objs := []) (fp := []) rfl rfl (by decide) rfl rfl)
  cases c1
  case true =>
    simp only [if_true, Bool.false_eq_true, if_false] at hL
    subst hL
    repeat (first
      | (apply axJ; (focus ((with_reducible constructor) <;> rfl)))
      | (apply awT mixedOK hΓ (by kernel_rfl); (simp (disch := omega) only [go_sem, ↓reduceIte, dk, ↓lk, e1, hc0, hc1, List.length_map] <;> with_reducible rfl))
      | ((first | apply awR hΓ | apply awG | apply awH mixedOK hΓ rfl (by kernel_rfl) | apply ovE rfl); (simp (disch := omega) only [go_sem, ↓reduceIte, dk, ↓lk, e1, hc0, hc1, List.length_map] <;> with_reducible rfl); exact trivial)
      | rfl)
    exact retL_x (r := .tup [.nils, .data (i64 10)]) (os := []) rfl (by simp (disch := omega) only [go_sem, ↓reduceIte, dk] <;> rfl) (Weak.packd (objs := []) (fp := []) rfl rfl (by decide) rfl rfl)
  simp only [if_true, Bool.false_eq_true, if_false] at hL
  subst hL
  repeat (first
    | (apply axJ; (focus ((with_reducible constructor) <;> rfl)))
    | (apply awT mixedOK hΓ (by kernel_rfl); (simp (disch := omega) only [go_sem, ↓reduceIte, dk, ↓lk, e1, hc0, hc1, List.length_map] <;> with_reducible rfl))
    | ((first | apply awR hΓ | apply awG | apply awH mixedOK hΓ rfl (by kernel_rfl) | apply ovE rfl); (simp (disch := omega) only [go_sem, ↓reduceIte, dk, ↓lk, e1, hc0, hc1, List.length_map] <;> with_reducible rfl); exact trivial)
    | rfl)
  exact retL_x (r := .tup [.row 0 l.length, .data (i64 0)]) (os := [.row 9 1 (l.map .str)]) rfl (by simp (disch := omega) only [go_sem, ↓reduceIte, dk] <;> rfl) (Weak.packd (objs := [.row 9 1 (l.map .str)]) (fp := [6]) rfl rfl (by decide) rfl rfl)
noncomputable def g_replR3 : List D → Option D := encSpec (fun x : (List Fl) × Bs × Int × Bs => [.list (x.1.map eFl), .agg [.str x.2.1, i64 x.2.2.1], .str x.2.2.2]) (fun x : (List Fl) × Bs × Int × Bs => (x.1.length ≤ 1000000 ∧ ∀ g ∈ x.1, g.1.length ≤ 1099511627776 ∧ g.2.length ≤ 1000000) ∧ x.2.1.length ≤ 1099511627776 ∧ x.2.2.2.length ≤ 1000000) (fun x : (List Fl) × Bs × Int × Bs => .tup [.list ((replE x.1 x.2.1 x.2.2.1 x.2.2.2).1.map eFl), i64 (replE x.1 x.2.1 x.2.2.1 x.2.2.2).2])
theorem g_replR3_eq {l : List Fl} {p : Bs} {n : Int} {tx : Bs} (hd : (l.length ≤ 1000000 ∧ ∀ g ∈ l, g.1.length ≤ 1099511627776 ∧ g.2.length ≤ 1000000) ∧ p.length ≤ 1099511627776 ∧ tx.length ≤ 1000000) : g_replR3 [.list (l.map eFl), .agg [.str p, .int .i64 n], .str tx] = some (.tup [.list ((replE l p n tx).1.map eFl), i64 (replE l p n tx).2]) := encSpec_eq (x := (l, p, n, tx)) hd fun y hy => by
    obtain ⟨y0, y1, y2, y3⟩ := y; simp only [List.cons.injEq, and_true, true_and, D.str.injEq, D.int.injEq, D.list.injEq, D.bool.injEq, D.agg.injEq, D.clo.injEq, Int.natCast_inj, inj_ie, D.ref.injEq, eFl_ie, eFl_e, and_assoc] at hy
    (try obtain ⟨rfl, rfl, rfl, rfl⟩ := hy)
    (try subst_vars)
    rfl
theorem f_replR3_ok : PureOK Tryz.prog 28 false g_replR3 := by
  have hΓ := Γp f_checkR3_ok (Γp f_findR3_ok (Γq f_linesRo_ok (Γp f_splitR_ok (Γp f_joinR3_ok (Γp f_putR3_ok (Γn))))))
  refine pure_enc (n := 68) (rs := [.tmp 6, .tmp 7]) Tryz.func28 (by kernel_rfl) rfl (by kernel_rfl) (by kernel_rfl) ?_
  rintro ⟨l, p, n, tx⟩ hd
  (try dsimp only at hd ⊢)
  refine ⟨fun h => (by cases h), fun k hz0 => ?_⟩
  obtain ⟨⟨d1, d2⟩, d3, d4⟩ := hd
  have e1 := g_checkR3_eq (l := l) ⟨by omega, fun g hg => by have := d2 g hg; omega⟩
  have e2 := g_findR3_eq (l := l) (q := p) (by omega)
  have hfl := find_le (l := l) (m := 1000000) (fun f hf => (d2 f hf).2) p
  have hfm : (findF l p).2 = true → ∃ g ∈ l, g.1 = p := fun h => by
    unfold findF at h
    cases hq : l.find? (fun x => x.1 == p) with
    | none => rw [hq] at h; cases h
    | some f => exact ⟨f, List.mem_of_find?_eq_some hq, by simpa using List.find?_some hq⟩
  unfold replE
  generalize checkF l = ck at *
  generalize findF l p = F at *
  obtain ⟨F1, F2⟩ := F
  dsimp only at hfl hfm
  have e3 := g_linesRo_eq (s := F1) (by omega)
  have e4 := g_splitR_eq (s := tx) (c := 10) (by omega)
  have hj := fun r : List Bs => g_joinR3_eq (l := r)
  have hp := fun d : Bs => g_putR3_eq (l := l) (v := (p, d))
  have hlm := splitB_mem_len 10 F1
  have hll := splitB_len 10 F1
  have hL : linesE F1 = if decide ((F1.length : Int) > 65536) then ([], 10) else if decide (((splitB 10 F1).length : Int) > 1024) then ([], 10) else (splitB 10 F1, 0) := rfl
  have hlb : (linesE F1).2 = 0 → (linesE F1).1.length ≤ 1024 ∧ ∀ w ∈ (linesE F1).1, w.length ≤ 1000000 := fun h => by
    rw [hL] at h ⊢
    split
    · rename_i h1
      rw [if_pos h1] at h
      cases h
    · rename_i h1
      rw [if_neg h1] at h
      split
      · rename_i h2
        rw [if_pos h2] at h
        cases h
      · rename_i h2
        simp only [decide_eq_true_eq, gt_iff_lt, Int.not_lt] at h2
        exact ⟨by dsimp only; omega, fun w hw => Nat.le_trans (hlm w hw) hfl⟩
  clear hL hlm hll
  dsimp only
  generalize linesE F1 = L at *
  obtain ⟨ls, le⟩ := L
  dsimp only at hlb e3 ⊢
  have ho : oneL tx = (((splitB 10 tx).length : Int) == 1) := rfl
  have hsl := splitB_len 10 tx
  rw [ho]
  rw [show (((10 : UInt8).toNat : Nat) : Int) = 10 from rfl] at e4
  generalize splitB 10 tx = sp at *
  rw [start_frame (by simp)]; simp only [enumV, go_sem, emptyH]
  by_cases hck : ck = 0
  case neg =>
    have hck2 : (ck != 0) = true := by simpa using hck
    rw [hck2]
    simp only [if_true]
    repeat (first
      | (apply axJ; (focus ((with_reducible constructor) <;> rfl)))
      | (apply awT mixedOK hΓ (by kernel_rfl); (simp (disch := omega) only [go_sem, ↓reduceIte, dk, ↓lk, Int.reduceBEq, Int.reduceBNe, Bool.true_bne, Bool.false_bne, Bool.not_true, Bool.not_false, e1, hck2] <;> with_reducible rfl))
      | ((first | apply awR hΓ | apply awG | apply awH mixedOK hΓ rfl (by kernel_rfl) | apply ovE rfl); (simp (disch := omega) only [go_sem, ↓reduceIte, dk, ↓lk, Int.reduceBEq, Int.reduceBNe, Bool.true_bne, Bool.false_bne, Bool.not_true, Bool.not_false, e1, hck2] <;> with_reducible rfl); exact trivial)
      | rfl)
    try rfl
  subst hck
  have hck2 : ((0 : Int) != 0) = false := rfl
  simp only [hck2, Bool.false_eq_true, if_false]
  cases F2
  case false =>
    simp only [Bool.false_eq_true, if_false]
    repeat (first
      | (apply axJ; (focus ((with_reducible constructor) <;> rfl)))
      | (apply awT mixedOK hΓ (by kernel_rfl); (simp (disch := omega) only [go_sem, ↓reduceIte, dk, ↓lk, Int.reduceBEq, Int.reduceBNe, Bool.true_bne, Bool.false_bne, Bool.not_true, Bool.not_false, e1, e2] <;> with_reducible rfl))
      | ((first | apply awR hΓ | apply awG | apply awH mixedOK hΓ rfl (by kernel_rfl) | apply ovE rfl); (simp (disch := omega) only [go_sem, ↓reduceIte, dk, ↓lk, Int.reduceBEq, Int.reduceBNe, Bool.true_bne, Bool.false_bne, Bool.not_true, Bool.not_false, e1, e2] <;> with_reducible rfl); exact trivial)
      | rfl)
    try rfl
  simp only [if_true]
  by_cases hle : le = 0
  case neg =>
    have hle2 : (le != 0) = true := by simpa using hle
    have hle3 : (le == 0) = false := by simpa using hle
    rw [hle3] at e3 ⊢
    simp only [Bool.false_eq_true, if_false] at e3 ⊢
    have hcall : ∀ m, callLoc 18 ⟨[(0, .box [.data (.str p), .data (.int .i64 n)])], m⟩ g_linesRo [.data (.str F1)] = some (.tup [.nils, .data (.int .i64 le)], ⟨[(0, .box [.data (.str p), .data (.int .i64 n)])], 18⟩) := fun m => (callLoc_of (fp := []) rfl rfl rfl e3 (by simp)).trans rfl
    repeat (first
      | (apply axJ; (focus ((with_reducible constructor) <;> rfl)))
      | (apply awT mixedOK hΓ (by kernel_rfl); (simp (disch := omega) only [go_sem, ↓reduceIte, dk, ↓lk, Int.reduceBEq, Int.reduceBNe, Bool.true_bne, Bool.false_bne, Bool.not_true, Bool.not_false, e1, e2, hcall, hle2] <;> with_reducible rfl))
      | ((first | apply awR hΓ | apply awG | apply awH mixedOK hΓ rfl (by kernel_rfl) | apply ovE rfl); (simp (disch := omega) only [go_sem, ↓reduceIte, dk, ↓lk, Int.reduceBEq, Int.reduceBNe, Bool.true_bne, Bool.false_bne, Bool.not_true, Bool.not_false, e1, e2, hcall, hle2] <;> with_reducible rfl); exact trivial)
      | rfl)
    try rfl
  subst hle
  simp only [beq_self_eq_true, if_true] at e3 ⊢
  obtain ⟨hb1, hb2⟩ := hlb rfl
  have hcall : ∀ m, callLoc 18 ⟨[(0, .box [.data (.str p), .data (.int .i64 n)])], m⟩ g_linesRo [.data (.str F1)] = some (.tup [.row 18 ls.length, .data (.int .i64 0)], ⟨[(0, .box [.data (.str p), .data (.int .i64 n)]), (18, .row 9 1 (ls.map .str))], 19⟩) := fun m => (callLoc_of (fp := []) rfl rfl rfl e3 (by simp)).trans rfl
  repeat (first
    | (apply axJ; (focus ((with_reducible constructor) <;> rfl)))
    | (apply awT mixedOK hΓ (by kernel_rfl); (simp (disch := omega) only [go_sem, ↓reduceIte, dk, ↓lk, Int.reduceBEq, Int.reduceBNe, Bool.true_bne, Bool.false_bne, Bool.not_true, Bool.not_false, e1, e2, hcall] <;> with_reducible rfl))
    | ((first | apply awR hΓ | apply awG | apply awH mixedOK hΓ rfl (by kernel_rfl) | apply ovE rfl); (simp (disch := omega) only [go_sem, ↓reduceIte, dk, ↓lk, Int.reduceBEq, Int.reduceBNe, Bool.true_bne, Bool.false_bne, Bool.not_true, Bool.not_false, e1, e2, hcall] <;> with_reducible rfl); exact trivial)
    | rfl)
  cases hn1 : decide (n < 0)
  case true =>
    simp only [Bool.true_or, if_true]
    repeat (first
      | (apply axJ; (focus ((with_reducible constructor) <;> rfl)))
      | (apply awT mixedOK hΓ (by kernel_rfl); (simp (disch := omega) only [go_sem, ↓reduceIte, dk, ↓lk, Int.reduceBEq, Int.reduceBNe, Bool.true_bne, Bool.false_bne, Bool.not_true, Bool.not_false, hn1] <;> with_reducible rfl))
      | ((first | apply awR hΓ | apply awG | apply awH mixedOK hΓ rfl (by kernel_rfl) | apply ovE rfl); (simp (disch := omega) only [go_sem, ↓reduceIte, dk, ↓lk, Int.reduceBEq, Int.reduceBNe, Bool.true_bne, Bool.false_bne, Bool.not_true, Bool.not_false, hn1] <;> with_reducible rfl); exact trivial)
      | rfl)
    try rfl
  simp only [Bool.false_or]
  have hn2 := of_decide_eq_false hn1
  obtain ⟨i, rfl⟩ : ∃ i : Nat, n = i := ⟨n.toNat, by omega⟩
  rw [Int.toNat_natCast]
  cases hn3 : decide ((i : Int) ≥ (ls.length : Int))
  case true =>
    simp only [if_true]
    have hn4 : decide (ls.length ≤ i) = true := decide_eq_true (by have := of_decide_eq_true hn3; omega)
    repeat (first
      | (apply axJ; (focus ((with_reducible constructor) <;> rfl)))
      | (apply awT mixedOK hΓ (by kernel_rfl); (simp (disch := omega) only [go_sem, ↓reduceIte, dk, ↓lk, Int.reduceBEq, Int.reduceBNe, Bool.true_bne, Bool.false_bne, Bool.not_true, Bool.not_false, hn1, hn3, hn4, List.length_map] <;> with_reducible rfl))
      | ((first | apply awR hΓ | apply awG | apply awH mixedOK hΓ rfl (by kernel_rfl) | apply ovE rfl); (simp (disch := omega) only [go_sem, ↓reduceIte, dk, ↓lk, Int.reduceBEq, Int.reduceBNe, Bool.true_bne, Bool.false_bne, Bool.not_true, Bool.not_false, hn1, hn3, hn4, List.length_map] <;> with_reducible rfl); exact trivial)
      | rfl)
    try rfl
  simp only [Bool.false_eq_true, if_false]
  have hn4 : decide (ls.length ≤ i) = false := decide_eq_false (by have := of_decide_eq_false hn3; omega)
  have hil : i < ls.length := by have := of_decide_eq_false hn3; omega
  have hsne : ((sp.length : Int) != 1) = !((sp.length : Int) == 1) := rfl
  cases hs1 : ((sp.length : Int) == 1)
  case false =>
    rw [hs1] at hsne
    simp only [Bool.false_eq_true, if_false]
    repeat (first
      | (apply axJ; (focus ((with_reducible constructor) <;> rfl)))
      | (apply awT mixedOK hΓ (by kernel_rfl); (simp (disch := omega) only [go_sem, ↓reduceIte, dk, ↓lk, Int.reduceBEq, Int.reduceBNe, Bool.true_bne, Bool.false_bne, Bool.not_true, Bool.not_false, hn1, hn3, hn4, List.length_map, e4, hsne] <;> with_reducible rfl))
      | ((first | apply awR hΓ | apply awG | apply awH mixedOK hΓ rfl (by kernel_rfl) | apply ovE rfl); (simp (disch := omega) only [go_sem, ↓reduceIte, dk, ↓lk, Int.reduceBEq, Int.reduceBNe, Bool.true_bne, Bool.false_bne, Bool.not_true, Bool.not_false, hn1, hn3, hn4, List.length_map, e4, hsne] <;> with_reducible rfl); exact trivial)
      | rfl)
    try rfl
  rw [hs1] at hsne
  simp only [if_true]
  have hset : (ls.map D.str).set i (.str tx) = (ls.set i tx).map D.str := by rw [List.map_set]
  have hsl2 : (ls.set i tx).length = ls.length := List.length_set
  have hjb := joinT_bd 1000000 (ls.set i tx) (fun w hw => by
    rcases List.mem_or_eq_of_mem_set hw with h | h
    · exact hb2 w h
    · rw [h]; exact d4)
  have e5 := hj (ls.set i tx) (by omega)
  unfold eSE at e5
  have hjd : (joinR (ls.set i tx)).1.length ≤ 1099511627776 := by
    have : (joinR (ls.set i tx)).1.length ≤ (joinT (ls.set i tx)).length := by
      cases hc : ls.set i tx with
      | nil => simp [joinR]
      | cons w r =>
        rw [joinR]
        split
        · split
          · simp
          · rw [joinT]
            simp only [List.length_append]
            omega
        · simp
    omega
  generalize joinR (ls.set i tx) = J at *
  obtain ⟨jd, je⟩ := J
  dsimp only at e5 hjd ⊢
  by_cases hje : je = 0
  case neg =>
    have hje2 : (je != 0) = true := by simpa using hje
    have hje3 : (je == 0) = false := by simpa using hje
    rw [hje3]
    simp only [Bool.false_eq_true, if_false]
    repeat (first
      | (apply axJ; (focus ((with_reducible constructor) <;> rfl)))
      | (apply awT mixedOK hΓ (by kernel_rfl); (simp (disch := omega) only [go_sem, ↓reduceIte, dk, ↓lk, Int.reduceBEq, Int.reduceBNe, Bool.true_bne, Bool.false_bne, Bool.not_true, Bool.not_false, hn1, hn3, hn4, List.length_map, e4, hsne, hset, hsl2, e5, hje2] <;> with_reducible rfl))
      | ((first | apply awR hΓ | apply awG | apply awH mixedOK hΓ rfl (by kernel_rfl) | apply ovE rfl); (simp (disch := omega) only [go_sem, ↓reduceIte, dk, ↓lk, Int.reduceBEq, Int.reduceBNe, Bool.true_bne, Bool.false_bne, Bool.not_true, Bool.not_false, hn1, hn3, hn4, List.length_map, e4, hsne, hset, hsl2, e5, hje2] <;> with_reducible rfl); exact trivial)
      | rfl)
    try rfl
  subst hje
  simp only [beq_self_eq_true, if_true]
  have e6 := hp jd ⟨⟨by omega, fun g hg => by have := d2 g hg; omega⟩, d3, hjd⟩
  rw [eFl_eq] at e6
  dsimp only at e6
  generalize putF l (p, jd) = P at *
  obtain ⟨P1, P2⟩ := P
  dsimp only at e6 ⊢
  repeat (first
    | (apply axJ; (focus ((with_reducible constructor) <;> rfl)))
    | (apply awT mixedOK hΓ (by kernel_rfl); (simp (disch := omega) only [go_sem, ↓reduceIte, dk, ↓lk, Int.reduceBEq, Int.reduceBNe, Bool.true_bne, Bool.false_bne, Bool.not_true, Bool.not_false, hn1, hn3, hn4, List.length_map, e4, hsne, hset, hsl2, e5, ↓ty_build67, e6] <;> with_reducible rfl))
    | ((first | apply awR hΓ | apply awG | apply awH mixedOK hΓ rfl (by kernel_rfl) | apply ovE rfl); (simp (disch := omega) only [go_sem, ↓reduceIte, dk, ↓lk, Int.reduceBEq, Int.reduceBNe, Bool.true_bne, Bool.false_bne, Bool.not_true, Bool.not_false, hn1, hn3, hn4, List.length_map, e4, hsne, hset, hsl2, e5, ↓ty_build67, e6] <;> with_reducible rfl); exact trivial)
    | rfl)
  try rfl
end Go.Ab
