/-
  One text of the proof (own work): contracts of functions of the program, by the abstract machine.
-/
import Derived.Test.YtlfmbcjjojedgaaGreatDoorX19
import Derived.Test.YtlfmbcjjojedgaaGreatDoorX27
import Derived.Test.YtlfmbcjjojedgaaGreatDoorX26
set_option linter.unusedVariables false
set_option linter.unusedSimpArgs false
namespace Go.Ab
open Go Go.RowKit Go.Proofs
set_option maxRecDepth 4000
set_option maxHeartbeats 8000000
def headOK (s : List UInt8) : Bool := match s with
  | [] => false
  | b :: _ => !(decide ((b.toNat : Int) < 97)) && !(decide ((b.toNat : Int) > 122))
def isNameB (s : List UInt8) : Bool := !(decide ((s.length : Int) > 32)) && (headOK s && (!(s == [97, 110, 100]) && (!(s == [111, 114]) && (!(s == [119, 105, 116, 104]) && s.all letter))))
noncomputable def g_name31 : List D → Option D := encSpec (fun x : (List UInt8) => [.str x]) (fun x : (List UInt8) => x.length ≤ 1099511627776) (fun x : (List UInt8) => .bool (isNameB x))
theorem g_name31_eq {s : List UInt8} (hd : s.length ≤ 1099511627776) : g_name31 [.str s] = some (.bool (isNameB s)) := encSpec_eq (x := s) hd fun y hy => by
    simp only [List.cons.injEq, and_true, true_and, D.str.injEq, D.int.injEq, D.list.injEq, D.bool.injEq, D.agg.injEq, D.clo.injEq, Int.natCast_inj, inj_ie, lx_ie] at hy
    rw [hy]
theorem f_name31_ok : PureOK Tryz.prog 150 true g_name31 := by
  have hΓ := Γ0_ok
  refine pure_enc (n := 67) (rs := [.tmp 2]) Tryz.func150 (by kernel_rfl) rfl (by kernel_rfl) (by kernel_rfl) ?_
  rintro s hd
  (try dsimp only at hd ⊢)
  refine ⟨fun _ => by (repeat (first | exact .int _ _ | exact .bool _ | exact .str _ | (refine .tup _ (fun d hd => ?_); simp only [List.mem_cons, List.not_mem_nil, or_false] at hd; rcases hd with rfl | hd))), fun k hz0 => ?_⟩
  rw [start_frame (by simp)]; simp only [enumV, go_sem, emptyH]
  cases s with
  | nil =>
    repeat (first
      | (apply axJ; (focus ((with_reducible constructor) <;> rfl)))
      | (apply awT mixedOK hΓ (by kernel_rfl); (simp (disch := omega) only [go_sem, ↓reduceIte, dk] <;> with_reducible rfl))
      | ((first | apply awR hΓ | apply awG | apply awH mixedOK hΓ rfl (by kernel_rfl) | apply ovE rfl); (simp (disch := omega) only [go_sem, ↓reduceIte, dk] <;> with_reducible rfl); exact trivial)
      | rfl)
  | cons b s =>
    have hhd : headOK (b :: s) = (!(decide ((b.toNat : Int) < 97)) && !(decide ((b.toNat : Int) > 122))) := rfl
    unfold isNameB
    rw [hhd]
    have hlen : 1 ≤ (b :: s).length := by simp
    have hb0 : (b :: s)[0]? = some b := rfl
    generalize b :: s = r at *
    generalize hc0 : decide ((r.length : Int) > 32) = c0
    generalize hc1 : decide ((b.toNat : Int) < 97) = c1
    generalize hc2 : decide ((b.toNat : Int) > 122) = c2
    generalize hc3 : (r == [97, 110, 100]) = c3
    generalize hc4 : (r == [111, 114]) = c4
    generalize hc5 : (r == [119, 105, 116, 104]) = c5
    have h1 : decide ((r.length : Int) < 1) = false := decide_eq_false (by omega)
    have hb1 : ∀ h : 0 < r.length, r[0]'h = b := fun h => by rw [List.getElem?_eq_getElem h] at hb0; simpa using hb0
    cases c0
    rotate_left
    · ((repeat (first | (apply axJ; (focus ((with_reducible constructor) <;> rfl))) | (apply awT mixedOK hΓ (by kernel_rfl); (simp (disch := omega) only [go_sem, ↓reduceIte, dk, Int.reduceToNat, h1, hb1, hc0, hc1, hc2, hc3, hc4, hc5] <;> with_reducible rfl)) | ((first | apply awR hΓ | apply awG | apply awH mixedOK hΓ rfl (by kernel_rfl) | apply ovE rfl); (simp (disch := omega) only [go_sem, ↓reduceIte, dk, Int.reduceToNat, h1, hb1, hc0, hc1, hc2, hc3, hc4, hc5] <;> with_reducible rfl); exact trivial) | rfl)); (first | done | rfl))
    cases c1
    rotate_left
    · ((repeat (first | (apply axJ; (focus ((with_reducible constructor) <;> rfl))) | (apply awT mixedOK hΓ (by kernel_rfl); (simp (disch := omega) only [go_sem, ↓reduceIte, dk, Int.reduceToNat, h1, hb1, hc0, hc1, hc2, hc3, hc4, hc5] <;> with_reducible rfl)) | ((first | apply awR hΓ | apply awG | apply awH mixedOK hΓ rfl (by kernel_rfl) | apply ovE rfl); (simp (disch := omega) only [go_sem, ↓reduceIte, dk, Int.reduceToNat, h1, hb1, hc0, hc1, hc2, hc3, hc4, hc5] <;> with_reducible rfl); exact trivial) | rfl)); (first | done | rfl))
    cases c2
    rotate_left
    · ((repeat (first | (apply axJ; (focus ((with_reducible constructor) <;> rfl))) | (apply awT mixedOK hΓ (by kernel_rfl); (simp (disch := omega) only [go_sem, ↓reduceIte, dk, Int.reduceToNat, h1, hb1, hc0, hc1, hc2, hc3, hc4, hc5] <;> with_reducible rfl)) | ((first | apply awR hΓ | apply awG | apply awH mixedOK hΓ rfl (by kernel_rfl) | apply ovE rfl); (simp (disch := omega) only [go_sem, ↓reduceIte, dk, Int.reduceToNat, h1, hb1, hc0, hc1, hc2, hc3, hc4, hc5] <;> with_reducible rfl); exact trivial) | rfl)); (first | done | rfl))
    cases c3
    rotate_left
    · ((repeat (first | (apply axJ; (focus ((with_reducible constructor) <;> rfl))) | (apply awT mixedOK hΓ (by kernel_rfl); (simp (disch := omega) only [go_sem, ↓reduceIte, dk, Int.reduceToNat, h1, hb1, hc0, hc1, hc2, hc3, hc4, hc5] <;> with_reducible rfl)) | ((first | apply awR hΓ | apply awG | apply awH mixedOK hΓ rfl (by kernel_rfl) | apply ovE rfl); (simp (disch := omega) only [go_sem, ↓reduceIte, dk, Int.reduceToNat, h1, hb1, hc0, hc1, hc2, hc3, hc4, hc5] <;> with_reducible rfl); exact trivial) | rfl)); (first | done | rfl))
    cases c4
    rotate_left
    · ((repeat (first | (apply axJ; (focus ((with_reducible constructor) <;> rfl))) | (apply awT mixedOK hΓ (by kernel_rfl); (simp (disch := omega) only [go_sem, ↓reduceIte, dk, Int.reduceToNat, h1, hb1, hc0, hc1, hc2, hc3, hc4, hc5] <;> with_reducible rfl)) | ((first | apply awR hΓ | apply awG | apply awH mixedOK hΓ rfl (by kernel_rfl) | apply ovE rfl); (simp (disch := omega) only [go_sem, ↓reduceIte, dk, Int.reduceToNat, h1, hb1, hc0, hc1, hc2, hc3, hc4, hc5] <;> with_reducible rfl); exact trivial) | rfl)); (first | done | rfl))
    cases c5
    rotate_left
    · ((repeat (first | (apply axJ; (focus ((with_reducible constructor) <;> rfl))) | (apply awT mixedOK hΓ (by kernel_rfl); (simp (disch := omega) only [go_sem, ↓reduceIte, dk, Int.reduceToNat, h1, hb1, hc0, hc1, hc2, hc3, hc4, hc5] <;> with_reducible rfl)) | ((first | apply awR hΓ | apply awG | apply awH mixedOK hΓ rfl (by kernel_rfl) | apply ovE rfl); (simp (disch := omega) only [go_sem, ↓reduceIte, dk, Int.reduceToNat, h1, hb1, hc0, hc1, hc2, hc3, hc4, hc5] <;> with_reducible rfl); exact trivial) | rfl)); (first | done | rfl))
    repeat (first
      | (apply axJ; (focus ((with_reducible constructor) <;> rfl)))
      | (apply awT mixedOK hΓ (by kernel_rfl); (simp (disch := omega) only [go_sem, ↓reduceIte, dk, Int.reduceToNat, h1, hb1, hc0, hc1, hc2, hc3, hc4, hc5] <;> with_reducible rfl))
      | ((first | apply awR hΓ | apply awG | apply awH mixedOK hΓ rfl (by kernel_rfl) | apply ovE rfl); (simp (disch := omega) only [go_sem, ↓reduceIte, dk, Int.reduceToNat, h1, hb1, hc0, hc1, hc2, hc3, hc4, hc5] <;> with_reducible rfl); exact trivial)
      | rfl)
    refine awp_loop_at (X := Nat) (fun i => (frame 67 [(0, .data (.str r)), (3, .data (i64 i))])) (fun _ => []) 0
      (fun i => i ≤ r.length ∧ (r.take i).all letter = true) (fun i => r.length - i) 0 ⟨Nat.zero_le _, rfl⟩ (Weak.w) ?_
    rintro i ⟨hi, hpre⟩
    by_cases hi2 : i < r.length
    · have hyes := fun h => all_next (p := letter) hi2 hpre h
      have hno := fun h => all_no (p := letter) hi2 h
      rw [show letter r[i] = letterI (r[i].toNat : Int) from rfl] at hyes hno
      unfold letterI at hyes hno
      generalize hy : r[i] = y at hyes hno
      generalize hm : (y.toNat : Int) = m at hyes hno
      generalize hd1 : decide (m ≥ 97) = d1 at hyes hno
      generalize hd2 : decide (m ≤ 122) = d2 at hyes hno
      generalize hd3 : decide (m ≥ 48) = d3 at hyes hno
      generalize hd4 : decide (m ≤ 57) = d4 at hyes hno
      generalize hd5 : (m == 45) = d5 at hyes hno
      generalize hd6 : (m == 46) = d6 at hyes hno
      (first | (((repeat (first | (apply axJ; (focus ((with_reducible constructor) <;> rfl))) | (apply awT mixedOK hΓ (by kernel_rfl); (simp (disch := omega) only [go_sem, ↓reduceIte, dk, hy, hm, hd1, hd2, hd3, hd4, hd5, hd6] <;> with_reducible rfl)) | ((first | apply awR hΓ | apply awG | apply awH mixedOK hΓ rfl (by kernel_rfl) | apply ovE rfl); (simp (disch := omega) only [go_sem, ↓reduceIte, dk, hy, hm, hd1, hd2, hd3, hd4, hd5, hd6] <;> with_reducible rfl); exact trivial) | rfl)); (first | exact ⟨i + 1, ⟨by omega, hyes rfl⟩, by omega, Weak.w⟩ | (have h := hno rfl; rw [h]; rfl))); done) | (cases d1 <;> (first | (((repeat (first | (apply axJ; (focus ((with_reducible constructor) <;> rfl))) | (apply awT mixedOK hΓ (by kernel_rfl); (simp (disch := omega) only [go_sem, ↓reduceIte, dk, hy, hm, hd1, hd2, hd3, hd4, hd5, hd6] <;> with_reducible rfl)) | ((first | apply awR hΓ | apply awG | apply awH mixedOK hΓ rfl (by kernel_rfl) | apply ovE rfl); (simp (disch := omega) only [go_sem, ↓reduceIte, dk, hy, hm, hd1, hd2, hd3, hd4, hd5, hd6] <;> with_reducible rfl); exact trivial) | rfl)); (first | exact ⟨i + 1, ⟨by omega, hyes rfl⟩, by omega, Weak.w⟩ | (have h := hno rfl; rw [h]; rfl))); done) | (cases d2 <;> (first | (((repeat (first | (apply axJ; (focus ((with_reducible constructor) <;> rfl))) | (apply awT mixedOK hΓ (by kernel_rfl); (simp (disch := omega) only [go_sem, ↓reduceIte, dk, hy, hm, hd1, hd2, hd3, hd4, hd5, hd6] <;> with_reducible rfl)) | ((first | apply awR hΓ | apply awG | apply awH mixedOK hΓ rfl (by kernel_rfl) | apply ovE rfl); (simp (disch := omega) only [go_sem, ↓reduceIte, dk, hy, hm, hd1, hd2, hd3, hd4, hd5, hd6] <;> with_reducible rfl); exact trivial) | rfl)); (first | exact ⟨i + 1, ⟨by omega, hyes rfl⟩, by omega, Weak.w⟩ | (have h := hno rfl; rw [h]; rfl))); done) | (cases d3 <;> (first | (((repeat (first | (apply axJ; (focus ((with_reducible constructor) <;> rfl))) | (apply awT mixedOK hΓ (by kernel_rfl); (simp (disch := omega) only [go_sem, ↓reduceIte, dk, hy, hm, hd1, hd2, hd3, hd4, hd5, hd6] <;> with_reducible rfl)) | ((first | apply awR hΓ | apply awG | apply awH mixedOK hΓ rfl (by kernel_rfl) | apply ovE rfl); (simp (disch := omega) only [go_sem, ↓reduceIte, dk, hy, hm, hd1, hd2, hd3, hd4, hd5, hd6] <;> with_reducible rfl); exact trivial) | rfl)); (first | exact ⟨i + 1, ⟨by omega, hyes rfl⟩, by omega, Weak.w⟩ | (have h := hno rfl; rw [h]; rfl))); done) | (cases d4 <;> (first | (((repeat (first | (apply axJ; (focus ((with_reducible constructor) <;> rfl))) | (apply awT mixedOK hΓ (by kernel_rfl); (simp (disch := omega) only [go_sem, ↓reduceIte, dk, hy, hm, hd1, hd2, hd3, hd4, hd5, hd6] <;> with_reducible rfl)) | ((first | apply awR hΓ | apply awG | apply awH mixedOK hΓ rfl (by kernel_rfl) | apply ovE rfl); (simp (disch := omega) only [go_sem, ↓reduceIte, dk, hy, hm, hd1, hd2, hd3, hd4, hd5, hd6] <;> with_reducible rfl); exact trivial) | rfl)); (first | exact ⟨i + 1, ⟨by omega, hyes rfl⟩, by omega, Weak.w⟩ | (have h := hno rfl; rw [h]; rfl))); done) | (cases d5 <;> (first | (((repeat (first | (apply axJ; (focus ((with_reducible constructor) <;> rfl))) | (apply awT mixedOK hΓ (by kernel_rfl); (simp (disch := omega) only [go_sem, ↓reduceIte, dk, hy, hm, hd1, hd2, hd3, hd4, hd5, hd6] <;> with_reducible rfl)) | ((first | apply awR hΓ | apply awG | apply awH mixedOK hΓ rfl (by kernel_rfl) | apply ovE rfl); (simp (disch := omega) only [go_sem, ↓reduceIte, dk, hy, hm, hd1, hd2, hd3, hd4, hd5, hd6] <;> with_reducible rfl); exact trivial) | rfl)); (first | exact ⟨i + 1, ⟨by omega, hyes rfl⟩, by omega, Weak.w⟩ | (have h := hno rfl; rw [h]; rfl))); done) | (cases d6 <;> (first | (((repeat (first | (apply axJ; (focus ((with_reducible constructor) <;> rfl))) | (apply awT mixedOK hΓ (by kernel_rfl); (simp (disch := omega) only [go_sem, ↓reduceIte, dk, hy, hm, hd1, hd2, hd3, hd4, hd5, hd6] <;> with_reducible rfl)) | ((first | apply awR hΓ | apply awG | apply awH mixedOK hΓ rfl (by kernel_rfl) | apply ovE rfl); (simp (disch := omega) only [go_sem, ↓reduceIte, dk, hy, hm, hd1, hd2, hd3, hd4, hd5, hd6] <;> with_reducible rfl); exact trivial) | rfl)); (first | exact ⟨i + 1, ⟨by omega, hyes rfl⟩, by omega, Weak.w⟩ | (have h := hno rfl; rw [h]; rfl))); done))))))))))))))
    · have hi3 : i = r.length := by omega
      subst hi3
      rw [List.take_length] at hpre
      repeat (first
        | (apply axJ; (focus ((with_reducible constructor) <;> rfl)))
        | (apply awT mixedOK hΓ (by kernel_rfl); (simp (disch := omega) only [go_sem, ↓reduceIte, dk] <;> with_reducible rfl))
        | ((first | apply awR hΓ | apply awG | apply awH mixedOK hΓ rfl (by kernel_rfl) | apply ovE rfl); (simp (disch := omega) only [go_sem, ↓reduceIte, dk] <;> with_reducible rfl); exact trivial)
        | rfl)
      rw [hpre]; rfl
noncomputable def Γname : FuncId → Option CSpec := fun f => if f = 150 then some (.pure true (g_name31)) else none
theorem Γname_ok : ∀ f s, Γname f = some s → SpecOK Tryz.prog f s := by
  intro f s h
  unfold Γname at h
  split at h
  · rename_i hf; cases h; subst hf; exact f_name31_ok
  · cases h
noncomputable def g_name : List D → Option D := encSpec (fun x : (List UInt8) => [.str x]) (fun x : (List UInt8) => x.length ≤ 1099511627776) (fun x : (List UInt8) => .bool (isNameB x))
theorem g_name_eq {s : List UInt8} (hd : s.length ≤ 1099511627776) : g_name [.str s] = some (.bool (isNameB s)) := encSpec_eq (x := s) hd fun y hy => by
    simp only [List.cons.injEq, and_true, true_and, D.str.injEq, D.int.injEq, D.list.injEq, D.bool.injEq, D.agg.injEq, D.clo.injEq, Int.natCast_inj, inj_ie, lx_ie] at hy
    rw [hy]
theorem f_name_ok : PureOK Tryz.prog 124 true g_name := by
  have hΓ := Γname_ok
  refine pure_enc (n := 17) (rs := [.tmp 2]) Tryz.func124 (by kernel_rfl) rfl (by kernel_rfl) (by kernel_rfl) ?_
  rintro s hd
  (try dsimp only at hd ⊢)
  refine ⟨fun _ => by (repeat (first | exact .int _ _ | exact .bool _ | exact .str _ | (refine .tup _ (fun d hd => ?_); simp only [List.mem_cons, List.not_mem_nil, or_false] at hd; rcases hd with rfl | hd))), fun k hz0 => ?_⟩
  have e := g_name31_eq hd
  have n1 : (s == [97, 110, 100]) = true → isNameB s = false := fun h => by rw [eq_of_beq h]; decide
  have n2 : (s == [111, 114]) = true → isNameB s = false := fun h => by rw [eq_of_beq h]; decide
  have n3 : (s == [119, 105, 116, 104]) = true → isNameB s = false := fun h => by rw [eq_of_beq h]; decide
  generalize isNameB s = c0 at *
  generalize hc1 : (s == [97, 110, 100]) = c1 at *
  generalize hc2 : (s == [111, 114]) = c2 at *
  generalize hc3 : (s == [119, 105, 116, 104]) = c3 at *
  rw [start_frame (by simp)]; simp only [enumV, go_sem, emptyH]
  cases c0
  · repeat (first
    | (apply axJ; (focus ((with_reducible constructor) <;> rfl)))
    | (apply awT mixedOK hΓ (by kernel_rfl); (simp (disch := omega) only [go_sem, ↓reduceIte, dk, Γname, e] <;> with_reducible rfl))
    | ((first | apply awR hΓ | apply awG | apply awH mixedOK hΓ rfl (by kernel_rfl) | apply ovE rfl); (simp (disch := omega) only [go_sem, ↓reduceIte, dk, Γname, e] <;> with_reducible rfl); exact trivial)
    | rfl)
  · cases c1
    · cases c2
      · cases c3
        · repeat (first
          | (apply axJ; (focus ((with_reducible constructor) <;> rfl)))
          | (apply awT mixedOK hΓ (by kernel_rfl); (simp (disch := omega) only [go_sem, ↓reduceIte, dk, Γname, e, hc1, hc2, hc3] <;> with_reducible rfl))
          | ((first | apply awR hΓ | apply awG | apply awH mixedOK hΓ rfl (by kernel_rfl) | apply ovE rfl); (simp (disch := omega) only [go_sem, ↓reduceIte, dk, Γname, e, hc1, hc2, hc3] <;> with_reducible rfl); exact trivial)
          | rfl)
        · cases n3 rfl
      · cases n2 rfl
    · cases n1 rfl
end Go.Ab
namespace Go.Ab
open Go Go.RowKit Go.Proofs
set_option maxRecDepth 4000
set_option maxHeartbeats 4000000
theorem kid_at {x : LX} {i : Nat} (hi : i < x.kids.length) {h m : Nat} (hd : x.hgt ≤ h + 1 ∧ x.Bd m) : (x.kids[i]).hgt ≤ h ∧ (x.kids[i]).Bd m :=
  ⟨by have := LX.hgt_kid (List.getElem_mem hi); omega, hd.2.k (List.getElem_mem hi)⟩
noncomputable def g_size (h : Nat) : List D → Option D := encSpec (fun x : LX => [eX x]) (fun x : LX => x.hgt ≤ h ∧ x.Bd 1099511627776) (fun x : LX => i64 x.size)
theorem g_size_eq {h : Nat} {x : LX} (hd : x.hgt ≤ h ∧ x.Bd 1099511627776) : g_size h [.agg [.int .i64 x.kind, .str x.name, .str x.exc, .list (x.kids.map eX)]] = some (i64 x.size) := by
  have e : g_size h [eX x] = some (i64 x.size) := encSpec_eq (x := x) hd fun y hy => by
    simp only [List.cons.injEq, and_true, true_and, D.str.injEq, D.int.injEq, D.list.injEq, D.bool.injEq, D.agg.injEq, D.clo.injEq, Int.natCast_inj, inj_ie, lx_ie] at hy
    rw [hy]
  exact (congrArg (g_size h) (by rw [← eX_eq x])).trans e
theorem f_size_ok : ∀ h : Nat, PureOK Tryz.prog 94 true (g_size h)
 | 0 => pure_void (by
    rintro x ⟨hx, _⟩
    (try dsimp only at hx)
    have := x.hgt_pos
    omega)
 | h + 1 => by
  have ih := f_size_ok h
  have hΓ := Γp ih (Γn)
  refine pure_enc (n := 21) (rs := [.tmp 2]) Tryz.func94 (by kernel_rfl) rfl (by kernel_rfl) (by kernel_rfl) ?_
  rintro x hd
  (try dsimp only at hd ⊢)
  refine ⟨fun _ => by (repeat (first | exact .int _ _ | exact .bool _ | exact .str _ | (refine .tup _ (fun d hd => ?_); simp only [List.mem_cons, List.not_mem_nil, or_false] at hd; rcases hd with rfl | hd))), fun k hz0 => ?_⟩
  have hz := hd.2.z
  have hl := x.len_le
  have hsz := x.size_eq
  rw [start_frame (by simp)]; simp only [enumV, go_sem, emptyH]
  repeat (first
    | (apply axJ; (focus ((with_reducible constructor) <;> rfl)))
    | (apply awT mixedOK hΓ (by kernel_rfl); (simp (disch := omega) only [go_sem, ↓reduceIte, dk] <;> with_reducible rfl))
    | ((first | apply awR hΓ | apply awG | apply awH mixedOK hΓ rfl (by kernel_rfl) | apply ovE rfl); (simp (disch := omega) only [go_sem, ↓reduceIte, dk] <;> with_reducible rfl); exact trivial)
    | rfl)
  refine awp_loop_at (X := Nat) (fun i => (frame 21 [(1, .ptr 0 0), (3, .data (i64 (LX.size.sizes (x.kids.take i) + 1))), (4, .data (i64 i))])) (fun _ => [(0, .box [.data (.int .i64 x.kind), .data (.str x.name), .data (.str x.exc), .data (.list (x.kids.map eX))])]) 4
    (fun i => i ≤ x.kids.length) (fun i => x.kids.length - i) 0 (Nat.zero_le _) (Weak.v (by (simp [ConvF, lookV, Conv, ints, LX.size.sizes]; done)) (by (simp (disch := omega) only [TabSub, look, if_pos, if_neg, Obj.refsOK, refsOKs, AV.refsOK, decide_eq_true_eq, Bool.and_true, Bool.and_self, LX.size.sizes] ) <;> ((repeat' apply And.intro) <;> first | exact True.intro | omega | (simp; done) | rfl))) ?_
  intro i hi
  by_cases hi2 : i < x.kids.length
  · have e := g_size_eq (kid_at hi2 hd)
    have h1 := LX.sizes_take hi2
    have h2 := LX.sizes_le (l := x.kids) (i + 1)
    have h3 : (LX.size.sizes (x.kids.take (i + 1)) : Int) + 1 = LX.size.sizes (x.kids.take i) + 1 + (x.kids[i]).size := by omega
    generalize LX.size.sizes (x.kids.take i) = a at *
    generalize hy : x.kids[i] = y at *
    repeat (first
      | (apply axJ; (focus ((with_reducible constructor) <;> rfl)))
      | (apply awT mixedOK hΓ (by kernel_rfl); (simp (disch := omega) only [go_sem, ↓reduceIte, dk, hy, e] <;> with_reducible rfl))
      | ((first | apply awR hΓ | apply awG | apply awH mixedOK hΓ rfl (by kernel_rfl) | apply ovE rfl); (simp (disch := omega) only [go_sem, ↓reduceIte, dk, hy, e] <;> with_reducible rfl); exact trivial)
      | rfl)
    exact ⟨i + 1, by omega, by omega, Weak.v (by (simp [ConvF, lookV, Conv, ints, h3]; done)) (by (simp (disch := omega) only [TabSub, look, if_pos, if_neg, Obj.refsOK, refsOKs, AV.refsOK, decide_eq_true_eq, Bool.and_true, Bool.and_self, h3] ) <;> ((repeat' apply And.intro) <;> first | exact True.intro | omega | (simp; done) | rfl))⟩
  · have hi' : i = x.kids.length := by omega
    subst hi'
    rw [List.take_length]
    repeat (first
      | (apply axJ; (focus ((with_reducible constructor) <;> rfl)))
      | (apply awT mixedOK hΓ (by kernel_rfl); (simp (disch := omega) only [go_sem, ↓reduceIte, dk] <;> with_reducible rfl))
      | ((first | apply awR hΓ | apply awG | apply awH mixedOK hΓ rfl (by kernel_rfl) | apply ovE rfl); (simp (disch := omega) only [go_sem, ↓reduceIte, dk] <;> with_reducible rfl); exact trivial)
      | rfl)
    rw [hsz]; rfl
theorem LX.hgts_take {l : List LX} {i : Nat} (h : i < l.length) : LX.hgt.hgts (l.take (i + 1)) = max (LX.hgt.hgts (l.take i)) (l[i]).hgt := by
  have happ : ∀ a b : List LX, LX.hgt.hgts (a ++ b) = max (LX.hgt.hgts a) (LX.hgt.hgts b) := by
    intro a b
    induction a with
    | nil => simp [LX.hgt.hgts]
    | cons x a ih => simp only [List.cons_append, LX.hgt.hgts, ih]; omega
  rw [List.take_add_one, List.getElem?_eq_getElem h, happ]
  simp [LX.hgt.hgts]
theorem LX.hgt_eq (x : LX) : x.hgt = LX.hgt.hgts x.kids + 1 := by cases x; simp [LX.hgt, LX.kids]
theorem hgts_lt {x : LX} {i : Nat} (h : i ≤ x.kids.length) : LX.hgt.hgts (x.kids.take i) < x.hgt := by
  induction i with
  | zero => have := x.hgt_pos; simp [LX.hgt.hgts]; omega
  | succ i ih =>
    have h1 := ih (by omega)
    rw [LX.hgts_take (by omega)]
    have := LX.hgt_kid (List.getElem_mem (show i < x.kids.length by omega))
    omega
noncomputable def g_depthR (h : Nat) : List D → Option D := encSpec (fun x : LX => [eX x]) (fun x : LX => x.hgt ≤ h ∧ x.Bd 1099511627776) (fun x : LX => i64 x.hgt)
theorem g_depthR_eq {h : Nat} {x : LX} (hd : x.hgt ≤ h ∧ x.Bd 1099511627776) : g_depthR h [.agg [.int .i64 x.kind, .str x.name, .str x.exc, .list (x.kids.map eX)]] = some (i64 x.hgt) := by
  have e : g_depthR h [eX x] = some (i64 x.hgt) := encSpec_eq (x := x) hd fun y hy => by
    simp only [List.cons.injEq, and_true, true_and, D.str.injEq, D.int.injEq, D.list.injEq, D.bool.injEq, D.agg.injEq, D.clo.injEq, Int.natCast_inj, inj_ie, lx_ie] at hy
    rw [hy]
  exact (congrArg (g_depthR h) (by rw [← eX_eq x])).trans e
theorem f_depthR_ok : ∀ h : Nat, PureOK Tryz.prog 95 true (g_depthR h)
 | 0 => pure_void (by
    rintro x ⟨hx, _⟩
    (try dsimp only at hx)
    have := x.hgt_pos
    omega)
 | h + 1 => by
  have ih := f_depthR_ok h
  have hΓ := Γp ih (Γn)
  refine pure_enc (n := 22) (rs := [.tmp 2]) Tryz.func95 (by kernel_rfl) rfl (by kernel_rfl) (by kernel_rfl) ?_
  rintro x hd
  (try dsimp only at hd ⊢)
  refine ⟨fun _ => by (repeat (first | exact .int _ _ | exact .bool _ | exact .str _ | (refine .tup _ (fun d hd => ?_); simp only [List.mem_cons, List.not_mem_nil, or_false] at hd; rcases hd with rfl | hd))), fun k hz0 => ?_⟩
  have hz := hd.2.z
  have hl := x.len_le
  have hle := x.hgt_le
  have hsz := x.hgt_eq
  rw [start_frame (by simp)]; simp only [enumV, go_sem, emptyH]
  repeat (first
    | (apply axJ; (focus ((with_reducible constructor) <;> rfl)))
    | (apply awT mixedOK hΓ (by kernel_rfl); (simp (disch := omega) only [go_sem, ↓reduceIte, dk] <;> with_reducible rfl))
    | ((first | apply awR hΓ | apply awG | apply awH mixedOK hΓ rfl (by kernel_rfl) | apply ovE rfl); (simp (disch := omega) only [go_sem, ↓reduceIte, dk] <;> with_reducible rfl); exact trivial)
    | rfl)
  refine awp_loop_at (X := Nat) (fun i => (frame 22 [(1, .ptr 0 0), (3, .data (i64 (LX.hgt.hgts (x.kids.take i)))), (4, .data (i64 i))])) (fun _ => [(0, .box [.data (.int .i64 x.kind), .data (.str x.name), .data (.str x.exc), .data (.list (x.kids.map eX))])]) 4
    (fun i => i ≤ x.kids.length) (fun i => x.kids.length - i) 0 (Nat.zero_le _) (Weak.v (by (simp [ConvF, lookV, Conv, ints, LX.hgt.hgts]; done)) (by (simp (disch := omega) only [TabSub, look, if_pos, if_neg, Obj.refsOK, refsOKs, AV.refsOK, decide_eq_true_eq, Bool.and_true, Bool.and_self, LX.hgt.hgts] ) <;> ((repeat' apply And.intro) <;> first | exact True.intro | omega | (simp; done) | rfl))) ?_
  intro i hi
  have hlt := hgts_lt hi
  by_cases hi2 : i < x.kids.length
  · have e := g_depthR_eq (kid_at hi2 hd)
    have h1 := LX.hgts_take hi2
    have h3 : (LX.hgt.hgts (x.kids.take (i + 1)) : Int) = max (LX.hgt.hgts (x.kids.take i) : Int) ((x.kids[i]).hgt : Int) := by omega
    generalize LX.hgt.hgts (x.kids.take i) = a at *
    generalize hy : x.kids[i] = y at *
    repeat (first
      | (apply axJ; (focus ((with_reducible constructor) <;> rfl)))
      | (apply awT mixedOK hΓ (by kernel_rfl); (simp (disch := omega) only [go_sem, ↓reduceIte, dk, hy, e] <;> with_reducible rfl))
      | ((first | apply awR hΓ | apply awG | apply awH mixedOK hΓ rfl (by kernel_rfl) | apply ovE rfl); (simp (disch := omega) only [go_sem, ↓reduceIte, dk, hy, e] <;> with_reducible rfl); exact trivial)
      | rfl)
    exact ⟨i + 1, by omega, by omega, Weak.v (by (simp [ConvF, lookV, Conv, ints, h3]; done)) (by (simp (disch := omega) only [TabSub, look, if_pos, if_neg, Obj.refsOK, refsOKs, AV.refsOK, decide_eq_true_eq, Bool.and_true, Bool.and_self, h3] ) <;> ((repeat' apply And.intro) <;> first | exact True.intro | omega | (simp; done) | rfl))⟩
  · have hi' : i = x.kids.length := by omega
    subst hi'
    rw [List.take_length] at hlt ⊢
    repeat (first
      | (apply axJ; (focus ((with_reducible constructor) <;> rfl)))
      | (apply awT mixedOK hΓ (by kernel_rfl); (simp (disch := omega) only [go_sem, ↓reduceIte, dk] <;> with_reducible rfl))
      | ((first | apply awR hΓ | apply awG | apply awH mixedOK hΓ rfl (by kernel_rfl) | apply ovE rfl); (simp (disch := omega) only [go_sem, ↓reduceIte, dk] <;> with_reducible rfl); exact trivial)
      | rfl)
    rw [hsz]; rfl
noncomputable def g_depthP (h : Nat) : List D → Option D := encSpec (fun x : LX => [eX x]) (fun x : LX => x.hgt ≤ h ∧ x.Bd 1099511627776) (fun x : LX => i64 x.hgt)
theorem g_depthP_eq {h : Nat} {x : LX} (hd : x.hgt ≤ h ∧ x.Bd 1099511627776) : g_depthP h [.agg [.int .i64 x.kind, .str x.name, .str x.exc, .list (x.kids.map eX)]] = some (i64 x.hgt) := by
  have e : g_depthP h [eX x] = some (i64 x.hgt) := encSpec_eq (x := x) hd fun y hy => by
    simp only [List.cons.injEq, and_true, true_and, D.str.injEq, D.int.injEq, D.list.injEq, D.bool.injEq, D.agg.injEq, D.clo.injEq, Int.natCast_inj, inj_ie, lx_ie] at hy
    rw [hy]
  exact (congrArg (g_depthP h) (by rw [← eX_eq x])).trans e
theorem f_depthP_ok : ∀ h : Nat, PureOK Tryz.prog 70 true (g_depthP h)
 | 0 => pure_void (by
    rintro x ⟨hx, _⟩
    (try dsimp only at hx)
    have := x.hgt_pos
    omega)
 | h + 1 => by
  have ih := f_depthP_ok h
  have hΓ := Γp ih (Γn)
  refine pure_enc (n := 20) (rs := [.tmp 2]) Tryz.func70 (by kernel_rfl) rfl (by kernel_rfl) (by kernel_rfl) ?_
  rintro x hd
  (try dsimp only at hd ⊢)
  refine ⟨fun _ => by (repeat (first | exact .int _ _ | exact .bool _ | exact .str _ | (refine .tup _ (fun d hd => ?_); simp only [List.mem_cons, List.not_mem_nil, or_false] at hd; rcases hd with rfl | hd))), fun k hz0 => ?_⟩
  have hz := hd.2.z
  have hl := x.len_le
  have hle := x.hgt_le
  have hsz := x.hgt_eq
  rw [start_frame (by simp)]; simp only [enumV, go_sem, emptyH]
  repeat (first
    | (apply axJ; (focus ((with_reducible constructor) <;> rfl)))
    | (apply awT mixedOK hΓ (by kernel_rfl); (simp (disch := omega) only [go_sem, ↓reduceIte, dk] <;> with_reducible rfl))
    | ((first | apply awR hΓ | apply awG | apply awH mixedOK hΓ rfl (by kernel_rfl) | apply ovE rfl); (simp (disch := omega) only [go_sem, ↓reduceIte, dk] <;> with_reducible rfl); exact trivial)
    | rfl)
  refine awp_loop_at (X := Nat) (fun i => (frame 20 [(1, .ptr 0 0), (3, .data (i64 (LX.hgt.hgts (x.kids.take i)))), (7, .data (.list (x.kids.map eX))), (8, .data (i64 x.kids.length)), (9, .data (i64 i))])) (fun _ => []) 4
    (fun i => i ≤ x.kids.length) (fun i => x.kids.length - i) 0 (Nat.zero_le _) (Weak.v (by (simp [ConvF, lookV, Conv, ints, LX.hgt.hgts]; done)) (by (simp (disch := omega) only [TabSub, look, if_pos, if_neg, Obj.refsOK, refsOKs, AV.refsOK, decide_eq_true_eq, Bool.and_true, Bool.and_self, LX.hgt.hgts] ) <;> ((repeat' apply And.intro) <;> first | exact True.intro | omega | (simp; done) | rfl))) ?_
  intro i hi
  have hlt := hgts_lt hi
  by_cases hi2 : i < x.kids.length
  · have e := g_depthP_eq (kid_at hi2 hd)
    have h1 := LX.hgts_take hi2
    have h3 : (LX.hgt.hgts (x.kids.take (i + 1)) : Int) = max (LX.hgt.hgts (x.kids.take i) : Int) ((x.kids[i]).hgt : Int) := by omega
    generalize LX.hgt.hgts (x.kids.take i) = a at *
    generalize hy : x.kids[i] = y at *
    repeat (first
      | (apply axJ; (focus ((with_reducible constructor) <;> rfl)))
      | (apply awT mixedOK hΓ (by kernel_rfl); (simp (disch := omega) only [go_sem, ↓reduceIte, dk, hy, e] <;> with_reducible rfl))
      | ((first | apply awR hΓ | apply awG | apply awH mixedOK hΓ rfl (by kernel_rfl) | apply ovE rfl); (simp (disch := omega) only [go_sem, ↓reduceIte, dk, hy, e] <;> with_reducible rfl); exact trivial)
      | rfl)
    exact ⟨i + 1, by omega, by omega, Weak.v (by (simp [ConvF, lookV, Conv, ints, h3]; done)) (by (simp (disch := omega) only [TabSub, look, if_pos, if_neg, Obj.refsOK, refsOKs, AV.refsOK, decide_eq_true_eq, Bool.and_true, Bool.and_self, h3] ) <;> ((repeat' apply And.intro) <;> first | exact True.intro | omega | (simp; done) | rfl))⟩
  · have hi' : i = x.kids.length := by omega
    subst hi'
    rw [List.take_length] at hlt ⊢
    repeat (first
      | (apply axJ; (focus ((with_reducible constructor) <;> rfl)))
      | (apply awT mixedOK hΓ (by kernel_rfl); (simp (disch := omega) only [go_sem, ↓reduceIte, dk] <;> with_reducible rfl))
      | ((first | apply awR hΓ | apply awG | apply awH mixedOK hΓ rfl (by kernel_rfl) | apply ovE rfl); (simp (disch := omega) only [go_sem, ↓reduceIte, dk] <;> with_reducible rfl); exact trivial)
      | rfl)
    rw [hsz]; rfl
end Go.Ab
