/-
  One text of the proof (own work): contracts of functions of the program, by the abstract machine.
-/
import Derived.Test.YtdodjhiofpiaaaaGreatDoorX19
import Derived.Test.YtdodjhiofpiaaaaGreatDoorX22
import Derived.Test.YtdodjhiofpiaaaaGreatDoorX20
set_option linter.unusedVariables false
set_option linter.unusedSimpArgs false
namespace Go.Ab
open Go Go.RowKit Go.Proofs
set_option maxRecDepth 10000
set_option maxHeartbeats 4000000
def lettI (c : Int) : Bool := (decide (c ≥ 97) && decide (c ≤ 122)) || c == 95
def digI (c : Int) : Bool := decide (c ≥ 48) && decide (c ≤ 57)
noncomputable def g_letR : List D → Option D := encSpec (fun x : Int => [u8 x]) (fun x : Int => True) (fun x : Int => .bool (lettI x))
theorem g_letR_eq {c : Int} (hd : True) : g_letR [.int .u8 c] = some (.bool (lettI c)) := encSpec_eq (x := c) hd fun y hy => by
    simp only [List.cons.injEq, and_true, true_and, D.str.injEq, D.int.injEq, D.list.injEq, D.bool.injEq, D.agg.injEq, D.clo.injEq, Int.natCast_inj, inj_ie, UInt8.toNat_inj] at hy
    rw [hy]
theorem f_letR_ok : PureOK Tryz.prog 129 true g_letR := by
  have hΓ := Γ0_ok
  refine pure_enc (n := 13) (rs := [.tmp 2]) Tryz.func129 (by kernel_rfl) rfl (by kernel_rfl) (by kernel_rfl) ?_
  rintro c hd
  (try dsimp only at hd ⊢)
  refine ⟨fun _ => by (repeat (first | exact .int _ _ | exact .bool _ | exact .str _ | (refine .tup _ (fun d hd => ?_); simp only [List.mem_cons, List.not_mem_nil, or_false] at hd; rcases hd with rfl | hd))), fun k hz0 => ?_⟩
  unfold lettI
  generalize hc1 : decide (c ≥ 97) = c1
  generalize hc2 : decide (c ≤ 122) = c2
  generalize hc3 : (c == 95) = c3
  rw [start_frame (by simp)]; simp only [enumV, go_sem, emptyH]
  (first | (((repeat (first | (apply axJ; (focus ((with_reducible constructor) <;> rfl))) | (apply awT mixedOK hΓ (by kernel_rfl); (simp (disch := omega) only [go_sem, ↓reduceIte, dk, ↓lk, hc1, hc2, hc3] <;> with_reducible rfl)) | ((first | apply awR hΓ | apply awG | apply awH mixedOK hΓ rfl (by kernel_rfl) | apply ovE rfl); (simp (disch := omega) only [go_sem, ↓reduceIte, dk, ↓lk, hc1, hc2, hc3] <;> with_reducible rfl); exact trivial) | rfl)); (first | done | rfl)); done) | (cases c1 <;> (first | (((repeat (first | (apply axJ; (focus ((with_reducible constructor) <;> rfl))) | (apply awT mixedOK hΓ (by kernel_rfl); (simp (disch := omega) only [go_sem, ↓reduceIte, dk, ↓lk, hc1, hc2, hc3] <;> with_reducible rfl)) | ((first | apply awR hΓ | apply awG | apply awH mixedOK hΓ rfl (by kernel_rfl) | apply ovE rfl); (simp (disch := omega) only [go_sem, ↓reduceIte, dk, ↓lk, hc1, hc2, hc3] <;> with_reducible rfl); exact trivial) | rfl)); (first | done | rfl)); done) | (cases c2 <;> (first | (((repeat (first | (apply axJ; (focus ((with_reducible constructor) <;> rfl))) | (apply awT mixedOK hΓ (by kernel_rfl); (simp (disch := omega) only [go_sem, ↓reduceIte, dk, ↓lk, hc1, hc2, hc3] <;> with_reducible rfl)) | ((first | apply awR hΓ | apply awG | apply awH mixedOK hΓ rfl (by kernel_rfl) | apply ovE rfl); (simp (disch := omega) only [go_sem, ↓reduceIte, dk, ↓lk, hc1, hc2, hc3] <;> with_reducible rfl); exact trivial) | rfl)); (first | done | rfl)); done) | (cases c3 <;> (first | (((repeat (first | (apply axJ; (focus ((with_reducible constructor) <;> rfl))) | (apply awT mixedOK hΓ (by kernel_rfl); (simp (disch := omega) only [go_sem, ↓reduceIte, dk, ↓lk, hc1, hc2, hc3] <;> with_reducible rfl)) | ((first | apply awR hΓ | apply awG | apply awH mixedOK hΓ rfl (by kernel_rfl) | apply ovE rfl); (simp (disch := omega) only [go_sem, ↓reduceIte, dk, ↓lk, hc1, hc2, hc3] <;> with_reducible rfl); exact trivial) | rfl)); (first | done | rfl)); done))))))))
noncomputable def g_digR : List D → Option D := encSpec (fun x : Int => [u8 x]) (fun x : Int => True) (fun x : Int => .bool (digI x))
theorem g_digR_eq {c : Int} (hd : True) : g_digR [.int .u8 c] = some (.bool (digI c)) := encSpec_eq (x := c) hd fun y hy => by
    simp only [List.cons.injEq, and_true, true_and, D.str.injEq, D.int.injEq, D.list.injEq, D.bool.injEq, D.agg.injEq, D.clo.injEq, Int.natCast_inj, inj_ie, UInt8.toNat_inj] at hy
    rw [hy]
theorem f_digR_ok : PureOK Tryz.prog 130 true g_digR := by
  have hΓ := Γ0_ok
  refine pure_enc (n := 9) (rs := [.tmp 2]) Tryz.func130 (by kernel_rfl) rfl (by kernel_rfl) (by kernel_rfl) ?_
  rintro c hd
  (try dsimp only at hd ⊢)
  refine ⟨fun _ => by (repeat (first | exact .int _ _ | exact .bool _ | exact .str _ | (refine .tup _ (fun d hd => ?_); simp only [List.mem_cons, List.not_mem_nil, or_false] at hd; rcases hd with rfl | hd))), fun k hz0 => ?_⟩
  unfold digI
  generalize hc1 : decide (c ≥ 48) = c1
  generalize hc2 : decide (c ≤ 57) = c2
  rw [start_frame (by simp)]; simp only [enumV, go_sem, emptyH]
  (first | (((repeat (first | (apply axJ; (focus ((with_reducible constructor) <;> rfl))) | (apply awT mixedOK hΓ (by kernel_rfl); (simp (disch := omega) only [go_sem, ↓reduceIte, dk, ↓lk, hc1, hc2] <;> with_reducible rfl)) | ((first | apply awR hΓ | apply awG | apply awH mixedOK hΓ rfl (by kernel_rfl) | apply ovE rfl); (simp (disch := omega) only [go_sem, ↓reduceIte, dk, ↓lk, hc1, hc2] <;> with_reducible rfl); exact trivial) | rfl)); (first | done | rfl)); done) | (cases c1 <;> (first | (((repeat (first | (apply axJ; (focus ((with_reducible constructor) <;> rfl))) | (apply awT mixedOK hΓ (by kernel_rfl); (simp (disch := omega) only [go_sem, ↓reduceIte, dk, ↓lk, hc1, hc2] <;> with_reducible rfl)) | ((first | apply awR hΓ | apply awG | apply awH mixedOK hΓ rfl (by kernel_rfl) | apply ovE rfl); (simp (disch := omega) only [go_sem, ↓reduceIte, dk, ↓lk, hc1, hc2] <;> with_reducible rfl); exact trivial) | rfl)); (first | done | rfl)); done) | (cases c2 <;> (first | (((repeat (first | (apply axJ; (focus ((with_reducible constructor) <;> rfl))) | (apply awT mixedOK hΓ (by kernel_rfl); (simp (disch := omega) only [go_sem, ↓reduceIte, dk, ↓lk, hc1, hc2] <;> with_reducible rfl)) | ((first | apply awR hΓ | apply awG | apply awH mixedOK hΓ rfl (by kernel_rfl) | apply ovE rfl); (simp (disch := omega) only [go_sem, ↓reduceIte, dk, ↓lk, hc1, hc2] <;> with_reducible rfl); exact trivial) | rfl)); (first | done | rfl)); done))))))
def ldB (b : UInt8) : Bool := lettI b.toNat || digI b.toNat
def idForm (s : Bs) : Bool := match s with
  | [] => false
  | b :: r => !(decide (((b :: r).length : Int) > 32)) && (lettI b.toNat && (b :: r).all ldB)
noncomputable def g_form05 : List D → Option D := encSpec (fun x : Bs => [.str x]) (fun x : Bs => x.length ≤ 1099511627776) (fun x : Bs => .bool (idForm x))
theorem g_form05_eq {s : Bs} (hd : s.length ≤ 1099511627776) : g_form05 [.str s] = some (.bool (idForm s)) := encSpec_eq (x := s) hd fun y hy => by
    simp only [List.cons.injEq, and_true, true_and, D.str.injEq, D.int.injEq, D.list.injEq, D.bool.injEq, D.agg.injEq, D.clo.injEq, Int.natCast_inj, inj_ie, UInt8.toNat_inj] at hy
    rw [hy]
theorem f_form05_ok : PureOK Tryz.prog 116 true g_form05 := by
  have hΓ := Γp f_letR_ok (Γp f_digR_ok (Γn))
  refine pure_enc (n := 36) (rs := [.tmp 2]) Tryz.func116 (by kernel_rfl) rfl (by kernel_rfl) (by kernel_rfl) ?_
  rintro s hd
  (try dsimp only at hd ⊢)
  refine ⟨fun _ => by (repeat (first | exact .int _ _ | exact .bool _ | exact .str _ | (refine .tup _ (fun d hd => ?_); simp only [List.mem_cons, List.not_mem_nil, or_false] at hd; rcases hd with rfl | hd))), fun k hz0 => ?_⟩
  rw [start_frame (by simp)]; simp only [enumV, go_sem, emptyH]
  cases s with
  | nil =>
    repeat (first
      | (apply axJ; (focus ((with_reducible constructor) <;> rfl)))
      | (apply awT mixedOK hΓ (by kernel_rfl); (simp (disch := omega) only [go_sem, ↓reduceIte, dk, ↓lk] <;> with_reducible rfl))
      | ((first | apply awR hΓ | apply awG | apply awH mixedOK hΓ rfl (by kernel_rfl) | apply ovE rfl); (simp (disch := omega) only [go_sem, ↓reduceIte, dk, ↓lk] <;> with_reducible rfl); exact trivial)
      | rfl)
    try rfl
  | cons b r =>
    have hdef : idForm (b :: r) = (!(decide (((b :: r).length : Int) > 32)) && (lettI b.toNat && (b :: r).all ldB)) := rfl
    rw [hdef]
    have hlen : 1 ≤ (b :: r).length := by simp
    have hb0 : (b :: r)[0]? = some b := rfl
    generalize b :: r = s at *
    have e0 := g_letR_eq (c := (b.toNat : Int)) trivial
    generalize hc0 : decide ((s.length : Int) > 32) = c0
    generalize lettI b.toNat = c1 at *
    have h1 : decide ((s.length : Int) < 1) = false := decide_eq_false (by omega)
    have hb1 : ∀ h : 0 < s.length, s[0]'h = b := fun h => by rw [List.getElem?_eq_getElem h] at hb0; simpa using hb0
    cases c0
    rotate_left
    · repeat (first
      | (apply axJ; (focus ((with_reducible constructor) <;> rfl)))
      | (apply awT mixedOK hΓ (by kernel_rfl); (simp (disch := omega) only [go_sem, ↓reduceIte, dk, ↓lk, Int.reduceToNat, h1, hb1, hc0, e0] <;> with_reducible rfl))
      | ((first | apply awR hΓ | apply awG | apply awH mixedOK hΓ rfl (by kernel_rfl) | apply ovE rfl); (simp (disch := omega) only [go_sem, ↓reduceIte, dk, ↓lk, Int.reduceToNat, h1, hb1, hc0, e0] <;> with_reducible rfl); exact trivial)
      | rfl)
      try rfl
    cases c1
    · repeat (first
      | (apply axJ; (focus ((with_reducible constructor) <;> rfl)))
      | (apply awT mixedOK hΓ (by kernel_rfl); (simp (disch := omega) only [go_sem, ↓reduceIte, dk, ↓lk, Int.reduceToNat, h1, hb1, hc0, e0] <;> with_reducible rfl))
      | ((first | apply awR hΓ | apply awG | apply awH mixedOK hΓ rfl (by kernel_rfl) | apply ovE rfl); (simp (disch := omega) only [go_sem, ↓reduceIte, dk, ↓lk, Int.reduceToNat, h1, hb1, hc0, e0] <;> with_reducible rfl); exact trivial)
      | rfl)
      try rfl
    repeat (first
      | (apply axJ; (focus ((with_reducible constructor) <;> rfl)))
      | (apply awT mixedOK hΓ (by kernel_rfl); (simp (disch := omega) only [go_sem, ↓reduceIte, dk, ↓lk, Int.reduceToNat, h1, hb1, hc0, e0] <;> with_reducible rfl))
      | ((first | apply awR hΓ | apply awG | apply awH mixedOK hΓ rfl (by kernel_rfl) | apply ovE rfl); (simp (disch := omega) only [go_sem, ↓reduceIte, dk, ↓lk, Int.reduceToNat, h1, hb1, hc0, e0] <;> with_reducible rfl); exact trivial)
      | rfl)
    refine awp_loop_at (X := Nat) (fun i => (frame 36 [(0, .data (.str s)), (3, .data (i64 i))])) (fun _ => []) 20
      (fun i => i ≤ s.length ∧ (s.take i).all ldB = true) (fun i => s.length - i) 0 ⟨Nat.zero_le _, rfl⟩ (Weak.w) ?_
    rintro i ⟨hi, hpre⟩
    by_cases hi2 : i < s.length
    · have hyes := fun h => all_next (p := ldB) hi2 hpre h
      have hno := fun h => all_no (p := ldB) hi2 h
      rw [show ldB s[i] = (lettI (s[i].toNat : Int) || digI (s[i].toNat : Int)) from rfl] at hyes hno
      generalize hy : s[i] = y at hyes hno
      have e1 := g_letR_eq (c := (y.toNat : Int)) trivial
      have e2 := g_digR_eq (c := (y.toNat : Int)) trivial
      generalize lettI (y.toNat : Int) = c1 at *
      generalize digI (y.toNat : Int) = c2 at *
      (first | (((repeat (first | (apply axJ; (focus ((with_reducible constructor) <;> rfl))) | (apply awT mixedOK hΓ (by kernel_rfl); (simp (disch := omega) only [go_sem, ↓reduceIte, dk, ↓lk, hy, e1, e2] <;> with_reducible rfl)) | ((first | apply awR hΓ | apply awG | apply awH mixedOK hΓ rfl (by kernel_rfl) | apply ovE rfl); (simp (disch := omega) only [go_sem, ↓reduceIte, dk, ↓lk, hy, e1, e2] <;> with_reducible rfl); exact trivial) | rfl)); (first | exact ⟨i + 1, ⟨by omega, hyes rfl⟩, by omega, Weak.w⟩ | (have h := hno rfl; rw [h]; rfl))); done) | (cases c1 <;> (first | (((repeat (first | (apply axJ; (focus ((with_reducible constructor) <;> rfl))) | (apply awT mixedOK hΓ (by kernel_rfl); (simp (disch := omega) only [go_sem, ↓reduceIte, dk, ↓lk, hy, e1, e2] <;> with_reducible rfl)) | ((first | apply awR hΓ | apply awG | apply awH mixedOK hΓ rfl (by kernel_rfl) | apply ovE rfl); (simp (disch := omega) only [go_sem, ↓reduceIte, dk, ↓lk, hy, e1, e2] <;> with_reducible rfl); exact trivial) | rfl)); (first | exact ⟨i + 1, ⟨by omega, hyes rfl⟩, by omega, Weak.w⟩ | (have h := hno rfl; rw [h]; rfl))); done) | (cases c2 <;> (first | (((repeat (first | (apply axJ; (focus ((with_reducible constructor) <;> rfl))) | (apply awT mixedOK hΓ (by kernel_rfl); (simp (disch := omega) only [go_sem, ↓reduceIte, dk, ↓lk, hy, e1, e2] <;> with_reducible rfl)) | ((first | apply awR hΓ | apply awG | apply awH mixedOK hΓ rfl (by kernel_rfl) | apply ovE rfl); (simp (disch := omega) only [go_sem, ↓reduceIte, dk, ↓lk, hy, e1, e2] <;> with_reducible rfl); exact trivial) | rfl)); (first | exact ⟨i + 1, ⟨by omega, hyes rfl⟩, by omega, Weak.w⟩ | (have h := hno rfl; rw [h]; rfl))); done))))))
    · have hi3 : i = s.length := by omega
      subst hi3
      rw [List.take_length] at hpre
      repeat (first
        | (apply axJ; (focus ((with_reducible constructor) <;> rfl)))
        | (apply awT mixedOK hΓ (by kernel_rfl); (simp (disch := omega) only [go_sem, ↓reduceIte, dk, ↓lk] <;> with_reducible rfl))
        | ((first | apply awR hΓ | apply awG | apply awH mixedOK hΓ rfl (by kernel_rfl) | apply ovE rfl); (simp (disch := omega) only [go_sem, ↓reduceIte, dk, ↓lk] <;> with_reducible rfl); exact trivial)
        | rfl)
      rw [hpre]; rfl
def keywords : List Bs := [[108, 101, 116], [115, 101, 116], [105, 102], [101, 108, 115, 101], [119, 104, 105, 108, 101], [114, 101, 116, 117, 114, 110], [100, 111], [111, 117, 116], [115, 116, 111, 114, 101], [108, 111, 97, 100], [105, 110], [105, 110, 99, 108, 117, 100, 101], [100, 101, 102, 105, 110, 101], [117, 110, 100, 101, 102], [119, 104, 101, 110], [117, 110, 108, 101, 115, 115], [110, 111, 116, 101], [101, 120, 116, 101, 114, 110], [101, 120, 112, 111, 114, 116], [119, 101, 97, 107], [102, 110], [100, 97, 116, 97]]
noncomputable def g_keyR : List D → Option D := encSpec (fun x : Bs => [.str x]) (fun x : Bs => x.length ≤ 1099511627776) (fun x : Bs => .bool (hasB keywords x))
theorem g_keyR_eq {s : Bs} (hd : s.length ≤ 1099511627776) : g_keyR [.str s] = some (.bool (hasB keywords s)) := encSpec_eq (x := s) hd fun y hy => by
    simp only [List.cons.injEq, and_true, true_and, D.str.injEq, D.int.injEq, D.list.injEq, D.bool.injEq, D.agg.injEq, D.clo.injEq, Int.natCast_inj, inj_ie, UInt8.toNat_inj] at hy
    rw [hy]
theorem f_keyR_ok : PureOK Tryz.prog 117 true g_keyR := by
  have hΓ := Γp f_has_ok (Γn)
  refine pure_enc (n := 6) (rs := [.tmp 2]) Tryz.func117 (by kernel_rfl) rfl (by kernel_rfl) (by kernel_rfl) ?_
  rintro s hd
  (try dsimp only at hd ⊢)
  refine ⟨fun _ => by (repeat (first | exact .int _ _ | exact .bool _ | exact .str _ | (refine .tup _ (fun d hd => ?_); simp only [List.mem_cons, List.not_mem_nil, or_false] at hd; rcases hd with rfl | hd))), fun k hz0 => ?_⟩
  have e : g_has [.list (keywords.map .str), .str s] = some (.bool (hasB keywords s)) := g_has_eq (by decide)
  generalize hasB keywords s = c at *
  simp only [keywords, List.map_cons, List.map_nil] at e
  rw [start_frame (by simp)]; simp only [enumV, go_sem, emptyH]
  repeat (first
    | (apply axJ; (focus ((with_reducible constructor) <;> rfl)))
    | (apply awT mixedOK hΓ (by kernel_rfl); (simp (disch := omega) only [go_sem, ↓reduceIte, dk, ↓lk, e] <;> with_reducible rfl))
    | ((first | apply awR hΓ | apply awG | apply awH mixedOK hΓ rfl (by kernel_rfl) | apply ovE rfl); (simp (disch := omega) only [go_sem, ↓reduceIte, dk, ↓lk, e] <;> with_reducible rfl); exact trivial)
    | rfl)
  try rfl
def idB (s : Bs) : Bool := idForm s && !(hasB keywords s)
noncomputable def g_nameR5 : List D → Option D := encSpec (fun x : Bs => [.str x]) (fun x : Bs => x.length ≤ 1099511627776) (fun x : Bs => .bool (idB x))
theorem g_nameR5_eq {s : Bs} (hd : s.length ≤ 1099511627776) : g_nameR5 [.str s] = some (.bool (idB s)) := encSpec_eq (x := s) hd fun y hy => by
    simp only [List.cons.injEq, and_true, true_and, D.str.injEq, D.int.injEq, D.list.injEq, D.bool.injEq, D.agg.injEq, D.clo.injEq, Int.natCast_inj, inj_ie, UInt8.toNat_inj] at hy
    rw [hy]
theorem f_nameR5_ok : PureOK Tryz.prog 94 true g_nameR5 := by
  have hΓ := Γp f_form05_ok (Γp f_keyR_ok (Γn))
  refine pure_enc (n := 10) (rs := [.tmp 2]) Tryz.func94 (by kernel_rfl) rfl (by kernel_rfl) (by kernel_rfl) ?_
  rintro s hd
  (try dsimp only at hd ⊢)
  refine ⟨fun _ => by (repeat (first | exact .int _ _ | exact .bool _ | exact .str _ | (refine .tup _ (fun d hd => ?_); simp only [List.mem_cons, List.not_mem_nil, or_false] at hd; rcases hd with rfl | hd))), fun k hz0 => ?_⟩
  have e1 := g_form05_eq hd
  have e2 := g_keyR_eq hd
  unfold idB
  generalize idForm s = c1 at *
  generalize hasB keywords s = c2 at *
  rw [start_frame (by simp)]; simp only [enumV, go_sem, emptyH]
  (first | (((repeat (first | (apply axJ; (focus ((with_reducible constructor) <;> rfl))) | (apply awT mixedOK hΓ (by kernel_rfl); (simp (disch := omega) only [go_sem, ↓reduceIte, dk, ↓lk, e1, e2] <;> with_reducible rfl)) | ((first | apply awR hΓ | apply awG | apply awH mixedOK hΓ rfl (by kernel_rfl) | apply ovE rfl); (simp (disch := omega) only [go_sem, ↓reduceIte, dk, ↓lk, e1, e2] <;> with_reducible rfl); exact trivial) | rfl)); (first | done | rfl)); done) | (cases c1 <;> (first | (((repeat (first | (apply axJ; (focus ((with_reducible constructor) <;> rfl))) | (apply awT mixedOK hΓ (by kernel_rfl); (simp (disch := omega) only [go_sem, ↓reduceIte, dk, ↓lk, e1, e2] <;> with_reducible rfl)) | ((first | apply awR hΓ | apply awG | apply awH mixedOK hΓ rfl (by kernel_rfl) | apply ovE rfl); (simp (disch := omega) only [go_sem, ↓reduceIte, dk, ↓lk, e1, e2] <;> with_reducible rfl); exact trivial) | rfl)); (first | done | rfl)); done) | (cases c2 <;> (first | (((repeat (first | (apply axJ; (focus ((with_reducible constructor) <;> rfl))) | (apply awT mixedOK hΓ (by kernel_rfl); (simp (disch := omega) only [go_sem, ↓reduceIte, dk, ↓lk, e1, e2] <;> with_reducible rfl)) | ((first | apply awR hΓ | apply awG | apply awH mixedOK hΓ rfl (by kernel_rfl) | apply ovE rfl); (simp (disch := omega) only [go_sem, ↓reduceIte, dk, ↓lk, e1, e2] <;> with_reducible rfl); exact trivial) | rfl)); (first | done | rfl)); done))))))
noncomputable def g_parts6 : List D → Option D := encSpec (fun x : Bs => [.str x]) (fun x : Bs => x.length ≤ 1099511627776) (fun x : Bs => i64 (splitB 47 x).length)
theorem g_parts6_eq {s : Bs} (hd : s.length ≤ 1099511627776) : g_parts6 [.str s] = some (i64 (splitB 47 s).length) := encSpec_eq (x := s) hd fun y hy => by
    simp only [List.cons.injEq, and_true, true_and, D.str.injEq, D.int.injEq, D.list.injEq, D.bool.injEq, D.agg.injEq, D.clo.injEq, Int.natCast_inj, inj_ie, UInt8.toNat_inj] at hy
    rw [hy]
theorem f_parts6_ok : PureOK Tryz.prog 115 true g_parts6 := by
  have hΓ := Γp f_splitR_ok (Γn)
  refine pure_enc (n := 6) (rs := [.tmp 2]) Tryz.func115 (by kernel_rfl) rfl (by kernel_rfl) (by kernel_rfl) ?_
  rintro s hd
  (try dsimp only at hd ⊢)
  refine ⟨fun _ => by (repeat (first | exact .int _ _ | exact .bool _ | exact .str _ | (refine .tup _ (fun d hd => ?_); simp only [List.mem_cons, List.not_mem_nil, or_false] at hd; rcases hd with rfl | hd))), fun k hz0 => ?_⟩
  have e1 := g_splitR_eq (s := s) (c := 47) hd
  have hl := splitB_len 47 s
  rw [show (((47 : UInt8).toNat : Nat) : Int) = 47 from rfl] at e1
  generalize splitB 47 s = l at *
  rw [start_frame (by simp)]; simp only [enumV, go_sem, emptyH]
  repeat (first
    | (apply axJ; (focus ((with_reducible constructor) <;> rfl)))
    | (apply awT mixedOK hΓ (by kernel_rfl); (simp (disch := omega) only [go_sem, ↓reduceIte, dk, ↓lk, e1] <;> with_reducible rfl))
    | ((first | apply awR hΓ | apply awG | apply awH mixedOK hΓ rfl (by kernel_rfl) | apply ovE rfl); (simp (disch := omega) only [go_sem, ↓reduceIte, dk, ↓lk, e1] <;> with_reducible rfl); exact trivial)
    | rfl)
  try rfl
def refB (s : Bs) : Bool := match s with
  | [] => pathE [] == 0
  | b :: r => if (b.toNat : Int) == 64 then pathE r == 0 && decide (((splitB 47 r).length : Int) > 1) else pathE (b :: r) == 0
noncomputable def g_isRef : List D → Option D := encSpec (fun x : Bs => [.str x]) (fun x : Bs => x.length ≤ 1099511627776) (fun x : Bs => .bool (refB x))
theorem g_isRef_eq {s : Bs} (hd : s.length ≤ 1099511627776) : g_isRef [.str s] = some (.bool (refB s)) := encSpec_eq (x := s) hd fun y hy => by
    simp only [List.cons.injEq, and_true, true_and, D.str.injEq, D.int.injEq, D.list.injEq, D.bool.injEq, D.agg.injEq, D.clo.injEq, Int.natCast_inj, inj_ie, UInt8.toNat_inj] at hy
    rw [hy]
theorem f_isRef_ok : PureOK Tryz.prog 93 true g_isRef := by
  have hΓ := Γp f_pathR_ok (Γp f_parts6_ok (Γn))
  refine pure_enc (n := 23) (rs := [.tmp 2]) Tryz.func93 (by kernel_rfl) rfl (by kernel_rfl) (by kernel_rfl) ?_
  rintro s hd
  (try dsimp only at hd ⊢)
  refine ⟨fun _ => by (repeat (first | exact .int _ _ | exact .bool _ | exact .str _ | (refine .tup _ (fun d hd => ?_); simp only [List.mem_cons, List.not_mem_nil, or_false] at hd; rcases hd with rfl | hd))), fun k hz0 => ?_⟩
  have e1 := g_pathR_eq hd
  rw [start_frame (by simp)]; simp only [enumV, go_sem, emptyH]
  cases s with
  | nil =>
    have h0 : (([] : List UInt8) != []) = false := rfl
    unfold refB
    generalize pathE [] = p at *
    repeat (first
      | (apply axJ; (focus ((with_reducible constructor) <;> rfl)))
      | (apply awT mixedOK hΓ (by kernel_rfl); (simp (disch := omega) only [go_sem, ↓reduceIte, dk, ↓lk, e1, h0] <;> with_reducible rfl))
      | ((first | apply awR hΓ | apply awG | apply awH mixedOK hΓ rfl (by kernel_rfl) | apply ovE rfl); (simp (disch := omega) only [go_sem, ↓reduceIte, dk, ↓lk, e1, h0] <;> with_reducible rfl); exact trivial)
      | rfl)
    try rfl
  | cons b r =>
    have hne : (b :: r == []) = false := rfl
    have hb0 : (b :: r)[0]? = some b := rfl
    have hdr : ((b :: r).drop 1).take ((b :: r).length - 1) = r := List.take_of_length_le (by simp)
    have hl : (b :: r).length = r.length + 1 := rfl
    have e2 := g_pathR_eq (s := r) (by omega)
    have e3 := g_parts6_eq (s := r) (by omega)
    unfold refB
    dsimp only
    generalize b :: r = s at *
    have hb1 : ∀ h : 0 < s.length, s[0]'h = b := fun h => by rw [List.getElem?_eq_getElem h] at hb0; simpa using hb0
    generalize hc1 : ((b.toNat : Int) == 64) = c1
    generalize pathE s = p1 at *
    generalize pathE r = p2 at *
    generalize (splitB 47 r).length = n at *
    generalize hc2 : (p2 == 0) = c2
    generalize hc3 : decide ((n : Int) > 1) = c3
    cases c1
    · repeat (first
      | (apply axJ; (focus ((with_reducible constructor) <;> rfl)))
      | (apply awT mixedOK hΓ (by kernel_rfl); (simp (disch := omega) only [go_sem, ↓reduceIte, dk, ↓lk, Int.reduceToNat, hne, hb1, hc1, e1] <;> with_reducible rfl))
      | ((first | apply awR hΓ | apply awG | apply awH mixedOK hΓ rfl (by kernel_rfl) | apply ovE rfl); (simp (disch := omega) only [go_sem, ↓reduceIte, dk, ↓lk, Int.reduceToNat, hne, hb1, hc1, e1] <;> with_reducible rfl); exact trivial)
      | rfl)
      try rfl
    · cases c2
      · repeat (first
        | (apply axJ; (focus ((with_reducible constructor) <;> rfl)))
        | (apply awT mixedOK hΓ (by kernel_rfl); (simp (disch := omega) only [go_sem, ↓reduceIte, dk, ↓lk, Int.reduceToNat, hne, hb1, hc1, hc2, hdr, e2, e3] <;> with_reducible rfl))
        | ((first | apply awR hΓ | apply awG | apply awH mixedOK hΓ rfl (by kernel_rfl) | apply ovE rfl); (simp (disch := omega) only [go_sem, ↓reduceIte, dk, ↓lk, Int.reduceToNat, hne, hb1, hc1, hc2, hdr, e2, e3] <;> with_reducible rfl); exact trivial)
        | rfl)
        try rfl
      · repeat (first
        | (apply axJ; (focus ((with_reducible constructor) <;> rfl)))
        | (apply awT mixedOK hΓ (by kernel_rfl); (simp (disch := omega) only [go_sem, ↓reduceIte, dk, ↓lk, Int.reduceToNat, hne, hb1, hc1, hc2, hc3, hdr, e2, e3] <;> with_reducible rfl))
        | ((first | apply awR hΓ | apply awG | apply awH mixedOK hΓ rfl (by kernel_rfl) | apply ovE rfl); (simp (disch := omega) only [go_sem, ↓reduceIte, dk, ↓lk, Int.reduceToNat, hne, hb1, hc1, hc2, hc3, hdr, e2, e3] <;> with_reducible rfl); exact trivial)
        | rfl)
        try rfl
noncomputable def g_decimal : List D → Option D := encSpec (fun x : Nat => [i64 x]) (fun x : Nat => x ≤ 9) (fun x : Nat => .str [UInt8.ofNat (48 + x)])
theorem g_decimal_eq {n : Nat} (hd : n ≤ 9) : g_decimal [.int .i64 n] = some (.str [UInt8.ofNat (48 + n)]) := encSpec_eq (x := n) hd fun y hy => by
    simp only [List.cons.injEq, and_true, true_and, D.str.injEq, D.int.injEq, D.list.injEq, D.bool.injEq, D.agg.injEq, D.clo.injEq, Int.natCast_inj, inj_ie, UInt8.toNat_inj] at hy
    rw [hy]
theorem f_decimal_ok : PureOK Tryz.prog 114 true g_decimal := by
  have hΓ := Γ0_ok
  refine pure_enc (n := 20) (rs := [.tmp 2]) Tryz.func114 (by kernel_rfl) rfl (by kernel_rfl) (by kernel_rfl) ?_
  rintro n hd
  (try dsimp only at hd ⊢)
  refine ⟨fun _ => by (repeat (first | exact .int _ _ | exact .bool _ | exact .str _ | (refine .tup _ (fun d hd => ?_); simp only [List.mem_cons, List.not_mem_nil, or_false] at hd; rcases hd with rfl | hd))), fun k hz0 => ?_⟩
  have hw : ∀ n : Nat, n < 10 → (IntKind.u8.wrap (IntKind.i64.wrap (48 + (n : Int)))).toNat = 48 + n := by decide
  have hn := hw n (by omega)
  have hlt : decide ((n : Int) < 10) = true := decide_eq_true (by omega)
  rw [start_frame (by simp)]; simp only [enumV, go_sem, emptyH]
  repeat (first
    | (apply axJ; (focus ((with_reducible constructor) <;> rfl)))
    | (apply awT mixedOK hΓ (by kernel_rfl); (simp (disch := omega) only [go_sem, ↓reduceIte, ↓lk, bytesOf, hlt, hn] <;> with_reducible rfl))
    | ((first | apply awR hΓ | apply awG | apply awH mixedOK hΓ rfl (by kernel_rfl) | apply ovE rfl); (simp (disch := omega) only [go_sem, ↓reduceIte, ↓lk, bytesOf, hlt, hn] <;> with_reducible rfl); exact trivial)
    | rfl)
  try rfl
end Go.Ab
namespace Go.Ab
open Go Go.RowKit
theorem Weak.packd {b : Nat} {sl sl' : List AV} {H : Heap} {fp : List Nat} {objs os : List Obj} (hobj : getAll H fp = some objs) (hnd : nodupB fp = true) (hfst : ∀ i, i < b → fp[i]? = some i) (h1 : rens H (idxOf fp) sl = sl') (h2 : objs.map (renO H (idxOf fp)) = os) : Weak b sl H sl' ⟨enumO 0 os, os.length⟩ := by
  subst h1 h2
  rw [List.length_map]
  exact Weak.pack hobj hnd hfst
end Go.Ab
