/-
  One text of the proof (own work): contracts of functions of the program, by the abstract machine.
-/
import Derived.Test.YtabenhkajabaeaaDoorX23
import Derived.Test.YtabenhkajabaeaaDoorX25
set_option linter.unusedVariables false
set_option linter.unusedSimpArgs false
namespace Go.Ab
open Go Go.RowKit Go.Proofs
set_option maxRecDepth 4000
set_option maxHeartbeats 8000000
def headOK (s : List UInt8) : Bool := match s with
  | [] => false
  | b :: _ => !(decide ((b.toNat : Int) < 97)) && !(decide ((b.toNat : Int) > 122))
def isNameB (s : List UInt8) : Bool := !(decide ((s.length : Int) > 32)) && (headOK s && (!(s == [97, 110, 100]) && (!(s == [111, 114]) && (!(s == [119, 105, 116, 104]) && s.all letter))))
noncomputable def g_name31 : List D → Option D := encSpec (fun x : (List UInt8) => [.str x]) (fun x : (List UInt8) => x.length ≤ 1099511627776) (fun x : (List UInt8) => .bool (isNameB x))
theorem g_name31_eq {s : List UInt8} (hd : s.length ≤ 1099511627776) : g_name31 [.str s] = some (.bool (isNameB s)) := encSpec_eq (x := s) hd fun y hy => by
    simp only [List.cons.injEq, and_true, true_and, D.str.injEq, D.int.injEq, D.list.injEq, D.bool.injEq, D.agg.injEq, D.clo.injEq, Int.natCast_inj, inj_ie] at hy
    rw [hy]
theorem f_name31_ok : PureOK Tryd.prog 78 true g_name31 := by
  have hΓ := Γ0_ok
  refine pure_enc (n := 67) (rs := [.tmp 2]) Tryd.func78 (by kernel_rfl) rfl (by kernel_rfl) (by kernel_rfl) ?_
  rintro s hd
  (try dsimp only at hd ⊢)
  refine ⟨fun _ => by (repeat (first | exact .int _ _ | exact .bool _ | exact .str _ | (refine .tup _ (fun d hd => ?_); simp only [List.mem_cons, List.not_mem_nil, or_false] at hd; rcases hd with rfl | hd))), fun k hz0 => ?_⟩
  rw [start_frame (by simp)]; simp only [enumV, go_sem, emptyH]
  cases s with
  | nil =>
    repeat (first
      | (apply axJ; (focus ((with_reducible constructor) <;> rfl)))
      | (apply awT mixedOK hΓ (by kernel_rfl); (simp (disch := omega) only [go_sem, ↓reduceIte, dk] <;> with_reducible rfl))
      | ((first | apply awR hΓ | apply awG | apply awH mixedOK hΓ rfl (by kernel_rfl) | apply ovE rfl); (simp (disch := omega) only [go_sem, ↓reduceIte, dk] <;> with_reducible rfl); exact trivial)
      | rfl)
  | cons b s =>
    have hhd : headOK (b :: s) = (!(decide ((b.toNat : Int) < 97)) && !(decide ((b.toNat : Int) > 122))) := rfl
    unfold isNameB
    rw [hhd]
    have hlen : 1 ≤ (b :: s).length := by simp
    have hb0 : (b :: s)[0]? = some b := rfl
    generalize b :: s = r at *
    generalize hc0 : decide ((r.length : Int) > 32) = c0
    generalize hc1 : decide ((b.toNat : Int) < 97) = c1
    generalize hc2 : decide ((b.toNat : Int) > 122) = c2
    generalize hc3 : (r == [97, 110, 100]) = c3
    generalize hc4 : (r == [111, 114]) = c4
    generalize hc5 : (r == [119, 105, 116, 104]) = c5
    have h1 : decide ((r.length : Int) < 1) = false := decide_eq_false (by omega)
    have hb1 : ∀ h : 0 < r.length, r[0]'h = b := fun h => by rw [List.getElem?_eq_getElem h] at hb0; simpa using hb0
    cases c0
    rotate_left
    · ((repeat (first | (apply axJ; (focus ((with_reducible constructor) <;> rfl))) | (apply awT mixedOK hΓ (by kernel_rfl); (simp (disch := omega) only [go_sem, ↓reduceIte, dk, Int.reduceToNat, h1, hb1, hc0, hc1, hc2, hc3, hc4, hc5] <;> with_reducible rfl)) | ((first | apply awR hΓ | apply awG | apply awH mixedOK hΓ rfl (by kernel_rfl) | apply ovE rfl); (simp (disch := omega) only [go_sem, ↓reduceIte, dk, Int.reduceToNat, h1, hb1, hc0, hc1, hc2, hc3, hc4, hc5] <;> with_reducible rfl); exact trivial) | rfl)); (first | done | rfl))
    cases c1
    rotate_left
    · ((repeat (first | (apply axJ; (focus ((with_reducible constructor) <;> rfl))) | (apply awT mixedOK hΓ (by kernel_rfl); (simp (disch := omega) only [go_sem, ↓reduceIte, dk, Int.reduceToNat, h1, hb1, hc0, hc1, hc2, hc3, hc4, hc5] <;> with_reducible rfl)) | ((first | apply awR hΓ | apply awG | apply awH mixedOK hΓ rfl (by kernel_rfl) | apply ovE rfl); (simp (disch := omega) only [go_sem, ↓reduceIte, dk, Int.reduceToNat, h1, hb1, hc0, hc1, hc2, hc3, hc4, hc5] <;> with_reducible rfl); exact trivial) | rfl)); (first | done | rfl))
    cases c2
    rotate_left
    · ((repeat (first | (apply axJ; (focus ((with_reducible constructor) <;> rfl))) | (apply awT mixedOK hΓ (by kernel_rfl); (simp (disch := omega) only [go_sem, ↓reduceIte, dk, Int.reduceToNat, h1, hb1, hc0, hc1, hc2, hc3, hc4, hc5] <;> with_reducible rfl)) | ((first | apply awR hΓ | apply awG | apply awH mixedOK hΓ rfl (by kernel_rfl) | apply ovE rfl); (simp (disch := omega) only [go_sem, ↓reduceIte, dk, Int.reduceToNat, h1, hb1, hc0, hc1, hc2, hc3, hc4, hc5] <;> with_reducible rfl); exact trivial) | rfl)); (first | done | rfl))
    cases c3
    rotate_left
    · ((repeat (first | (apply axJ; (focus ((with_reducible constructor) <;> rfl))) | (apply awT mixedOK hΓ (by kernel_rfl); (simp (disch := omega) only [go_sem, ↓reduceIte, dk, Int.reduceToNat, h1, hb1, hc0, hc1, hc2, hc3, hc4, hc5] <;> with_reducible rfl)) | ((first | apply awR hΓ | apply awG | apply awH mixedOK hΓ rfl (by kernel_rfl) | apply ovE rfl); (simp (disch := omega) only [go_sem, ↓reduceIte, dk, Int.reduceToNat, h1, hb1, hc0, hc1, hc2, hc3, hc4, hc5] <;> with_reducible rfl); exact trivial) | rfl)); (first | done | rfl))
    cases c4
    rotate_left
    · ((repeat (first | (apply axJ; (focus ((with_reducible constructor) <;> rfl))) | (apply awT mixedOK hΓ (by kernel_rfl); (simp (disch := omega) only [go_sem, ↓reduceIte, dk, Int.reduceToNat, h1, hb1, hc0, hc1, hc2, hc3, hc4, hc5] <;> with_reducible rfl)) | ((first | apply awR hΓ | apply awG | apply awH mixedOK hΓ rfl (by kernel_rfl) | apply ovE rfl); (simp (disch := omega) only [go_sem, ↓reduceIte, dk, Int.reduceToNat, h1, hb1, hc0, hc1, hc2, hc3, hc4, hc5] <;> with_reducible rfl); exact trivial) | rfl)); (first | done | rfl))
    cases c5
    rotate_left
    · ((repeat (first | (apply axJ; (focus ((with_reducible constructor) <;> rfl))) | (apply awT mixedOK hΓ (by kernel_rfl); (simp (disch := omega) only [go_sem, ↓reduceIte, dk, Int.reduceToNat, h1, hb1, hc0, hc1, hc2, hc3, hc4, hc5] <;> with_reducible rfl)) | ((first | apply awR hΓ | apply awG | apply awH mixedOK hΓ rfl (by kernel_rfl) | apply ovE rfl); (simp (disch := omega) only [go_sem, ↓reduceIte, dk, Int.reduceToNat, h1, hb1, hc0, hc1, hc2, hc3, hc4, hc5] <;> with_reducible rfl); exact trivial) | rfl)); (first | done | rfl))
    repeat (first
      | (apply axJ; (focus ((with_reducible constructor) <;> rfl)))
      | (apply awT mixedOK hΓ (by kernel_rfl); (simp (disch := omega) only [go_sem, ↓reduceIte, dk, Int.reduceToNat, h1, hb1, hc0, hc1, hc2, hc3, hc4, hc5] <;> with_reducible rfl))
      | ((first | apply awR hΓ | apply awG | apply awH mixedOK hΓ rfl (by kernel_rfl) | apply ovE rfl); (simp (disch := omega) only [go_sem, ↓reduceIte, dk, Int.reduceToNat, h1, hb1, hc0, hc1, hc2, hc3, hc4, hc5] <;> with_reducible rfl); exact trivial)
      | rfl)
    refine awp_loop_at (X := Nat) (fun i => (frame 67 [(0, .data (.str r)), (3, .data (i64 i))])) (fun _ => []) 0
      (fun i => i ≤ r.length ∧ (r.take i).all letter = true) (fun i => r.length - i) 0 ⟨Nat.zero_le _, rfl⟩ (Weak.w) ?_
    rintro i ⟨hi, hpre⟩
    by_cases hi2 : i < r.length
    · have hyes := fun h => all_next (p := letter) hi2 hpre h
      have hno := fun h => all_no (p := letter) hi2 h
      rw [show letter r[i] = letterI (r[i].toNat : Int) from rfl] at hyes hno
      unfold letterI at hyes hno
      generalize hy : r[i] = y at hyes hno
      generalize hm : (y.toNat : Int) = m at hyes hno
      generalize hd1 : decide (m ≥ 97) = d1 at hyes hno
      generalize hd2 : decide (m ≤ 122) = d2 at hyes hno
      generalize hd3 : decide (m ≥ 48) = d3 at hyes hno
      generalize hd4 : decide (m ≤ 57) = d4 at hyes hno
      generalize hd5 : (m == 45) = d5 at hyes hno
      generalize hd6 : (m == 46) = d6 at hyes hno
      (first | (((repeat (first | (apply axJ; (focus ((with_reducible constructor) <;> rfl))) | (apply awT mixedOK hΓ (by kernel_rfl); (simp (disch := omega) only [go_sem, ↓reduceIte, dk, hy, hm, hd1, hd2, hd3, hd4, hd5, hd6] <;> with_reducible rfl)) | ((first | apply awR hΓ | apply awG | apply awH mixedOK hΓ rfl (by kernel_rfl) | apply ovE rfl); (simp (disch := omega) only [go_sem, ↓reduceIte, dk, hy, hm, hd1, hd2, hd3, hd4, hd5, hd6] <;> with_reducible rfl); exact trivial) | rfl)); (first | exact ⟨i + 1, ⟨by omega, hyes rfl⟩, by omega, Weak.w⟩ | (have h := hno rfl; rw [h]; rfl))); done) | (cases d1 <;> (first | (((repeat (first | (apply axJ; (focus ((with_reducible constructor) <;> rfl))) | (apply awT mixedOK hΓ (by kernel_rfl); (simp (disch := omega) only [go_sem, ↓reduceIte, dk, hy, hm, hd1, hd2, hd3, hd4, hd5, hd6] <;> with_reducible rfl)) | ((first | apply awR hΓ | apply awG | apply awH mixedOK hΓ rfl (by kernel_rfl) | apply ovE rfl); (simp (disch := omega) only [go_sem, ↓reduceIte, dk, hy, hm, hd1, hd2, hd3, hd4, hd5, hd6] <;> with_reducible rfl); exact trivial) | rfl)); (first | exact ⟨i + 1, ⟨by omega, hyes rfl⟩, by omega, Weak.w⟩ | (have h := hno rfl; rw [h]; rfl))); done) | (cases d2 <;> (first | (((repeat (first | (apply axJ; (focus ((with_reducible constructor) <;> rfl))) | (apply awT mixedOK hΓ (by kernel_rfl); (simp (disch := omega) only [go_sem, ↓reduceIte, dk, hy, hm, hd1, hd2, hd3, hd4, hd5, hd6] <;> with_reducible rfl)) | ((first | apply awR hΓ | apply awG | apply awH mixedOK hΓ rfl (by kernel_rfl) | apply ovE rfl); (simp (disch := omega) only [go_sem, ↓reduceIte, dk, hy, hm, hd1, hd2, hd3, hd4, hd5, hd6] <;> with_reducible rfl); exact trivial) | rfl)); (first | exact ⟨i + 1, ⟨by omega, hyes rfl⟩, by omega, Weak.w⟩ | (have h := hno rfl; rw [h]; rfl))); done) | (cases d3 <;> (first | (((repeat (first | (apply axJ; (focus ((with_reducible constructor) <;> rfl))) | (apply awT mixedOK hΓ (by kernel_rfl); (simp (disch := omega) only [go_sem, ↓reduceIte, dk, hy, hm, hd1, hd2, hd3, hd4, hd5, hd6] <;> with_reducible rfl)) | ((first | apply awR hΓ | apply awG | apply awH mixedOK hΓ rfl (by kernel_rfl) | apply ovE rfl); (simp (disch := omega) only [go_sem, ↓reduceIte, dk, hy, hm, hd1, hd2, hd3, hd4, hd5, hd6] <;> with_reducible rfl); exact trivial) | rfl)); (first | exact ⟨i + 1, ⟨by omega, hyes rfl⟩, by omega, Weak.w⟩ | (have h := hno rfl; rw [h]; rfl))); done) | (cases d4 <;> (first | (((repeat (first | (apply axJ; (focus ((with_reducible constructor) <;> rfl))) | (apply awT mixedOK hΓ (by kernel_rfl); (simp (disch := omega) only [go_sem, ↓reduceIte, dk, hy, hm, hd1, hd2, hd3, hd4, hd5, hd6] <;> with_reducible rfl)) | ((first | apply awR hΓ | apply awG | apply awH mixedOK hΓ rfl (by kernel_rfl) | apply ovE rfl); (simp (disch := omega) only [go_sem, ↓reduceIte, dk, hy, hm, hd1, hd2, hd3, hd4, hd5, hd6] <;> with_reducible rfl); exact trivial) | rfl)); (first | exact ⟨i + 1, ⟨by omega, hyes rfl⟩, by omega, Weak.w⟩ | (have h := hno rfl; rw [h]; rfl))); done) | (cases d5 <;> (first | (((repeat (first | (apply axJ; (focus ((with_reducible constructor) <;> rfl))) | (apply awT mixedOK hΓ (by kernel_rfl); (simp (disch := omega) only [go_sem, ↓reduceIte, dk, hy, hm, hd1, hd2, hd3, hd4, hd5, hd6] <;> with_reducible rfl)) | ((first | apply awR hΓ | apply awG | apply awH mixedOK hΓ rfl (by kernel_rfl) | apply ovE rfl); (simp (disch := omega) only [go_sem, ↓reduceIte, dk, hy, hm, hd1, hd2, hd3, hd4, hd5, hd6] <;> with_reducible rfl); exact trivial) | rfl)); (first | exact ⟨i + 1, ⟨by omega, hyes rfl⟩, by omega, Weak.w⟩ | (have h := hno rfl; rw [h]; rfl))); done) | (cases d6 <;> (first | (((repeat (first | (apply axJ; (focus ((with_reducible constructor) <;> rfl))) | (apply awT mixedOK hΓ (by kernel_rfl); (simp (disch := omega) only [go_sem, ↓reduceIte, dk, hy, hm, hd1, hd2, hd3, hd4, hd5, hd6] <;> with_reducible rfl)) | ((first | apply awR hΓ | apply awG | apply awH mixedOK hΓ rfl (by kernel_rfl) | apply ovE rfl); (simp (disch := omega) only [go_sem, ↓reduceIte, dk, hy, hm, hd1, hd2, hd3, hd4, hd5, hd6] <;> with_reducible rfl); exact trivial) | rfl)); (first | exact ⟨i + 1, ⟨by omega, hyes rfl⟩, by omega, Weak.w⟩ | (have h := hno rfl; rw [h]; rfl))); done))))))))))))))
    · have hi3 : i = r.length := by omega
      subst hi3
      rw [List.take_length] at hpre
      repeat (first
        | (apply axJ; (focus ((with_reducible constructor) <;> rfl)))
        | (apply awT mixedOK hΓ (by kernel_rfl); (simp (disch := omega) only [go_sem, ↓reduceIte, dk] <;> with_reducible rfl))
        | ((first | apply awR hΓ | apply awG | apply awH mixedOK hΓ rfl (by kernel_rfl) | apply ovE rfl); (simp (disch := omega) only [go_sem, ↓reduceIte, dk] <;> with_reducible rfl); exact trivial)
        | rfl)
      rw [hpre]; rfl
noncomputable def Γname : FuncId → Option CSpec := fun f => if f = 78 then some (.pure true (g_name31)) else none
theorem Γname_ok : ∀ f s, Γname f = some s → SpecOK Tryd.prog f s := by
  intro f s h
  unfold Γname at h
  split at h
  · rename_i hf; cases h; subst hf; exact f_name31_ok
  · cases h
noncomputable def g_name : List D → Option D := encSpec (fun x : (List UInt8) => [.str x]) (fun x : (List UInt8) => x.length ≤ 1099511627776) (fun x : (List UInt8) => .bool (isNameB x))
theorem g_name_eq {s : List UInt8} (hd : s.length ≤ 1099511627776) : g_name [.str s] = some (.bool (isNameB s)) := encSpec_eq (x := s) hd fun y hy => by
    simp only [List.cons.injEq, and_true, true_and, D.str.injEq, D.int.injEq, D.list.injEq, D.bool.injEq, D.agg.injEq, D.clo.injEq, Int.natCast_inj, inj_ie] at hy
    rw [hy]
theorem f_name_ok : PureOK Tryd.prog 63 true g_name := by
  have hΓ := Γname_ok
  refine pure_enc (n := 17) (rs := [.tmp 2]) Tryd.func63 (by kernel_rfl) rfl (by kernel_rfl) (by kernel_rfl) ?_
  rintro s hd
  (try dsimp only at hd ⊢)
  refine ⟨fun _ => by (repeat (first | exact .int _ _ | exact .bool _ | exact .str _ | (refine .tup _ (fun d hd => ?_); simp only [List.mem_cons, List.not_mem_nil, or_false] at hd; rcases hd with rfl | hd))), fun k hz0 => ?_⟩
  have e := g_name31_eq hd
  have n1 : (s == [97, 110, 100]) = true → isNameB s = false := fun h => by rw [eq_of_beq h]; decide
  have n2 : (s == [111, 114]) = true → isNameB s = false := fun h => by rw [eq_of_beq h]; decide
  have n3 : (s == [119, 105, 116, 104]) = true → isNameB s = false := fun h => by rw [eq_of_beq h]; decide
  generalize isNameB s = c0 at *
  generalize hc1 : (s == [97, 110, 100]) = c1 at *
  generalize hc2 : (s == [111, 114]) = c2 at *
  generalize hc3 : (s == [119, 105, 116, 104]) = c3 at *
  rw [start_frame (by simp)]; simp only [enumV, go_sem, emptyH]
  cases c0
  · repeat (first
    | (apply axJ; (focus ((with_reducible constructor) <;> rfl)))
    | (apply awT mixedOK hΓ (by kernel_rfl); (simp (disch := omega) only [go_sem, ↓reduceIte, dk, Γname, e] <;> with_reducible rfl))
    | ((first | apply awR hΓ | apply awG | apply awH mixedOK hΓ rfl (by kernel_rfl) | apply ovE rfl); (simp (disch := omega) only [go_sem, ↓reduceIte, dk, Γname, e] <;> with_reducible rfl); exact trivial)
    | rfl)
  · cases c1
    · cases c2
      · cases c3
        · repeat (first
          | (apply axJ; (focus ((with_reducible constructor) <;> rfl)))
          | (apply awT mixedOK hΓ (by kernel_rfl); (simp (disch := omega) only [go_sem, ↓reduceIte, dk, Γname, e, hc1, hc2, hc3] <;> with_reducible rfl))
          | ((first | apply awR hΓ | apply awG | apply awH mixedOK hΓ rfl (by kernel_rfl) | apply ovE rfl); (simp (disch := omega) only [go_sem, ↓reduceIte, dk, Γname, e, hc1, hc2, hc3] <;> with_reducible rfl); exact trivial)
          | rfl)
        · cases n3 rfl
      · cases n2 rfl
    · cases n1 rfl
end Go.Ab
