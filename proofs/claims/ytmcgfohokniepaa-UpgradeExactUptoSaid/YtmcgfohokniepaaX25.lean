/-
  One text of the proof (own work): contracts of functions of the program, by the abstract machine.
-/
import Derived.Test.YtmcgfohokniepaaX21
import Derived.Test.YtmcgfohokniepaaX24
set_option linter.unusedVariables false
set_option linter.unusedSimpArgs false
namespace Go.Ab
open Go Go.RowKit Go.Proofs
set_option maxRecDepth 4000
set_option maxHeartbeats 4000000
def bytesB (s : List UInt8) (from' most : Int) : Bool := s.all (fun c => !(decide ((c.toNat : Int) < from')) && !(decide ((c.toNat : Int) > 126))) && decide ((s.length : Int) ≤ most)
noncomputable def g135 : List D → Option D := encSpec (fun x : List UInt8 × Int × Int => [.str x.1, u8 x.2.1, i64 x.2.2]) (fun x => x.1.length ≤ 1099511627776) (fun x => .bool (bytesB x.1 x.2.1 x.2.2))
theorem g135_eq {s : List UInt8} {a b : Int} (h : s.length ≤ 1099511627776) : g135 [.str s, .int .u8 a, .int .i64 b] = some (.bool (bytesB s a b)) := encSpec_eq (x := (s, a, b)) h fun y hy => by
  obtain ⟨y1, y2, y3⟩ := y
  simp only [List.cons.injEq, and_true, D.str.injEq, D.int.injEq, true_and] at hy
  rw [hy.1, hy.2.1, hy.2.2]
theorem f135_ok : PureOK Try.prog 135 true g135 := by
  have hΓ := Γ0_ok
  refine pure_enc (n := 29) (rs := [.tmp 6]) Try.func135 (by kernel_rfl) rfl (by kernel_rfl) (by kernel_rfl) ?_
  rintro ⟨s, a, b⟩ hs
  have hs : s.length ≤ 1099511627776 := hs
  refine ⟨fun _ => .bool _, fun k hz0 => ?_⟩
  rw [start_frame (by simp)]; simp only [enumV, go_sem, emptyH]
  repeat (first
    | (apply axJ; (focus ((with_reducible constructor) <;> rfl)))
    | (apply awT mixedOK hΓ (by kernel_rfl); (simp (disch := omega) only [go_sem, ↓reduceIte, dk] <;> with_reducible rfl))
    | ((first | apply awR hΓ | apply awG | apply awH mixedOK hΓ rfl (by kernel_rfl) | apply ovE rfl); (simp (disch := omega) only [go_sem, ↓reduceIte, dk] <;> with_reducible rfl); exact trivial)
    | rfl)
  refine awp_loop_at (X := Nat) (fun i => (frame 29 [(0, .data (.str s)), (1, .data (u8 a)), (2, .data (i64 b)), (7, .data (i64 i))])) (fun _ => []) 2
    (fun i => i ≤ s.length ∧ (s.take i).all (fun c => !(decide ((c.toNat : Int) < a)) && !(decide ((c.toNat : Int) > 126))) = true) (fun i => s.length - i) 0 ⟨Nat.zero_le _, rfl⟩ (Weak.w) ?_
  rintro i ⟨hi, hpre⟩
  by_cases hi2 : i < s.length
  · have hyes := fun h => all_next (p := fun c : UInt8 => !(decide ((c.toNat : Int) < a)) && !(decide ((c.toNat : Int) > 126))) hi2 hpre h
    have hno := fun h => all_no (p := fun c : UInt8 => !(decide ((c.toNat : Int) < a)) && !(decide ((c.toNat : Int) > 126))) hi2 h
    generalize hy : s[i] = y at hyes hno
    generalize hm : (y.toNat : Int) = m at hyes hno
    generalize hc1 : decide (m < a) = c1 at hyes hno
    generalize hc2 : decide (m > 126) = c2 at hyes hno
    (first | (((repeat (first | (apply axJ; (focus ((with_reducible constructor) <;> rfl))) | (apply awT mixedOK hΓ (by kernel_rfl); (simp (disch := omega) only [go_sem, ↓reduceIte, dk, hy, hm, hc1, hc2] <;> with_reducible rfl)) | ((first | apply awR hΓ | apply awG | apply awH mixedOK hΓ rfl (by kernel_rfl) | apply ovE rfl); (simp (disch := omega) only [go_sem, ↓reduceIte, dk, hy, hm, hc1, hc2] <;> with_reducible rfl); exact trivial) | rfl)); (first | exact ⟨i + 1, ⟨by omega, hyes rfl⟩, by omega, Weak.w⟩ | (have h := hno rfl; unfold bytesB; rw [h]; rfl))); done) | (cases c1 <;> (first | (((repeat (first | (apply axJ; (focus ((with_reducible constructor) <;> rfl))) | (apply awT mixedOK hΓ (by kernel_rfl); (simp (disch := omega) only [go_sem, ↓reduceIte, dk, hy, hm, hc1, hc2] <;> with_reducible rfl)) | ((first | apply awR hΓ | apply awG | apply awH mixedOK hΓ rfl (by kernel_rfl) | apply ovE rfl); (simp (disch := omega) only [go_sem, ↓reduceIte, dk, hy, hm, hc1, hc2] <;> with_reducible rfl); exact trivial) | rfl)); (first | exact ⟨i + 1, ⟨by omega, hyes rfl⟩, by omega, Weak.w⟩ | (have h := hno rfl; unfold bytesB; rw [h]; rfl))); done) | (cases c2 <;> (first | (((repeat (first | (apply axJ; (focus ((with_reducible constructor) <;> rfl))) | (apply awT mixedOK hΓ (by kernel_rfl); (simp (disch := omega) only [go_sem, ↓reduceIte, dk, hy, hm, hc1, hc2] <;> with_reducible rfl)) | ((first | apply awR hΓ | apply awG | apply awH mixedOK hΓ rfl (by kernel_rfl) | apply ovE rfl); (simp (disch := omega) only [go_sem, ↓reduceIte, dk, hy, hm, hc1, hc2] <;> with_reducible rfl); exact trivial) | rfl)); (first | exact ⟨i + 1, ⟨by omega, hyes rfl⟩, by omega, Weak.w⟩ | (have h := hno rfl; unfold bytesB; rw [h]; rfl))); done))))))
  · have hi3 : i = s.length := by omega
    subst hi3
    rw [List.take_length] at hpre
    repeat (first
      | (apply axJ; (focus ((with_reducible constructor) <;> rfl)))
      | (apply awT mixedOK hΓ (by kernel_rfl); (simp (disch := omega) only [go_sem, ↓reduceIte, dk] <;> with_reducible rfl))
      | ((first | apply awR hΓ | apply awG | apply awH mixedOK hΓ rfl (by kernel_rfl) | apply ovE rfl); (simp (disch := omega) only [go_sem, ↓reduceIte, dk] <;> with_reducible rfl); exact trivial)
      | rfl)
    unfold bytesB
    rw [hpre]; rfl
noncomputable def g133 : List D → Option D := encSpec (fun s : List UInt8 => [.str s]) (fun s => s.length ≤ 1099511627776) (fun s => .bool ((s.length : Int) == 32))
theorem g133_eq {s : List UInt8} (h : s.length ≤ 1099511627776) : g133 [.str s] = some (.bool ((s.length : Int) == 32)) := encSpec_eq (x := s) h fun y hy => by
  simp only [List.cons.injEq, and_true, D.str.injEq] at hy
  rw [hy]
theorem f133_ok : PureOK Try.prog 133 true g133 := by
  have hΓ := Γ0_ok
  refine pure_enc (n := 6) (rs := [.tmp 2]) Try.func133 (by kernel_rfl) rfl (by kernel_rfl) (by kernel_rfl) ?_
  intro s hs
  refine ⟨fun _ => .bool _, fun k hz0 => ?_⟩
  rw [start_frame (by simp)]; simp only [enumV, go_sem, emptyH]
  repeat (first
    | (apply axJ; (focus ((with_reducible constructor) <;> rfl)))
    | (apply awT mixedOK hΓ (by kernel_rfl); (simp (disch := omega) only [go_sem, ↓reduceIte, dk] <;> with_reducible rfl))
    | ((first | apply awR hΓ | apply awG | apply awH mixedOK hΓ rfl (by kernel_rfl) | apply ovE rfl); (simp (disch := omega) only [go_sem, ↓reduceIte, dk] <;> with_reducible rfl); exact trivial)
    | rfl)
def digsB (l : List (List UInt8)) : Bool := l.all fun s => (s.length : Int) == 32
structure Strs (l : List (List UInt8)) : Prop where
  n : l.length ≤ 1099511627776
  s : ∀ s ∈ l, s.length ≤ 1099511627776
noncomputable def g132 : List D → Option D := encSpec (fun l : List (List UInt8) => [.list (l.map .str)]) Strs (fun l => .bool (digsB l))
theorem g132_eq {l : List (List UInt8)} (h : Strs l) : g132 [.list (l.map .str)] = some (.bool (digsB l)) := encSpec_eq (x := l) h fun y hy => by
  simp only [List.cons.injEq, and_true, D.list.injEq] at hy
  rw [strs_inj hy]
noncomputable def Γ132 : FuncId → Option CSpec := fun f => if f = 133 then some (.pure true (g133)) else none
theorem Γ132_ok : ∀ f s, Γ132 f = some s → SpecOK Try.prog f s := by
  intro f s h
  unfold Γ132 at h
  split at h
  · rename_i hf; cases h; subst hf; exact f133_ok
  · cases h
theorem f132_ok : PureOK Try.prog 132 true g132 := by
  have hΓ := Γ132_ok
  refine pure_enc (n := 16) (rs := [.tmp 2]) Try.func132 (by kernel_rfl) rfl (by kernel_rfl) (by kernel_rfl) ?_
  rintro l ⟨hn, hs⟩
  refine ⟨fun _ => .bool _, fun k hz0 => ?_⟩
  rw [start_frame (by simp)]; simp only [enumV, go_sem, emptyH]
  repeat (first
    | (apply axJ; (focus ((with_reducible constructor) <;> rfl)))
    | (apply awT mixedOK hΓ (by kernel_rfl); (simp (disch := omega) only [go_sem, ↓reduceIte, dk] <;> with_reducible rfl))
    | ((first | apply awR hΓ | apply awG | apply awH mixedOK hΓ rfl (by kernel_rfl) | apply ovE rfl); (simp (disch := omega) only [go_sem, ↓reduceIte, dk] <;> with_reducible rfl); exact trivial)
    | rfl)
  refine awp_loop_at (X := Nat) (fun i => (frame 16 [(0, .data (.list (l.map .str))), (3, .data (i64 i))])) (fun _ => []) 2
    (fun i => i ≤ l.length ∧ (l.take i).all (fun s => (s.length : Int) == 32) = true) (fun i => l.length - i) 0 ⟨Nat.zero_le _, rfl⟩ (Weak.w) ?_
  rintro i ⟨hi, hpre⟩
  by_cases hi2 : i < l.length
  · have hyes := fun h => all_next (p := fun s : List UInt8 => (s.length : Int) == 32) hi2 hpre h
    have hno := fun h => all_no (p := fun s : List UInt8 => (s.length : Int) == 32) hi2 h
    have hsl := hs _ (List.getElem_mem hi2)
    generalize hy : l[i] = y at hyes hno hsl
    have e := g133_eq hsl
    generalize hc1 : ((y.length : Int) == 32) = c1 at hyes hno e
    (first | (((repeat (first | (apply axJ; (focus ((with_reducible constructor) <;> rfl))) | (apply awT mixedOK hΓ (by kernel_rfl); (simp (disch := omega) only [go_sem, ↓reduceIte, dk, hy, Γ132, e] <;> with_reducible rfl)) | ((first | apply awR hΓ | apply awG | apply awH mixedOK hΓ rfl (by kernel_rfl) | apply ovE rfl); (simp (disch := omega) only [go_sem, ↓reduceIte, dk, hy, Γ132, e] <;> with_reducible rfl); exact trivial) | rfl)); (first | exact ⟨i + 1, ⟨by omega, hyes rfl⟩, by omega, Weak.w⟩ | (have h := hno rfl; unfold digsB; rw [h]))); done) | (cases c1 <;> (first | (((repeat (first | (apply axJ; (focus ((with_reducible constructor) <;> rfl))) | (apply awT mixedOK hΓ (by kernel_rfl); (simp (disch := omega) only [go_sem, ↓reduceIte, dk, hy, Γ132, e] <;> with_reducible rfl)) | ((first | apply awR hΓ | apply awG | apply awH mixedOK hΓ rfl (by kernel_rfl) | apply ovE rfl); (simp (disch := omega) only [go_sem, ↓reduceIte, dk, hy, Γ132, e] <;> with_reducible rfl); exact trivial) | rfl)); (first | exact ⟨i + 1, ⟨by omega, hyes rfl⟩, by omega, Weak.w⟩ | (have h := hno rfl; unfold digsB; rw [h]))); done))))
  · have hi3 : i = l.length := by omega
    subst hi3
    rw [List.take_length] at hpre
    repeat (first
      | (apply axJ; (focus ((with_reducible constructor) <;> rfl)))
      | (apply awT mixedOK hΓ (by kernel_rfl); (simp (disch := omega) only [go_sem, ↓reduceIte, dk] <;> with_reducible rfl))
      | ((first | apply awR hΓ | apply awG | apply awH mixedOK hΓ rfl (by kernel_rfl) | apply ovE rfl); (simp (disch := omega) only [go_sem, ↓reduceIte, dk] <;> with_reducible rfl); exact trivial)
      | rfl)
    unfold digsB
    rw [hpre]
def keyE (b h : Int) : Int := if decide (b < 8) || decide (b > 256) || decide (h < 0) || decide (h > 6) then 3 else 0
noncomputable def g134 : List D → Option D := encSpec (fun x : Int × Int => [.agg [i64 x.1, i64 x.2]]) (fun _ => True) (fun x => i64 (keyE x.1 x.2))
theorem g134_eq (a b : Int) : g134 [.agg [.int .i64 a, .int .i64 b]] = some (.int .i64 (keyE a b)) := encSpec_eq (x := (a, b)) trivial fun y hy => by
  obtain ⟨y1, y2⟩ := y
  simp only [List.cons.injEq, and_true, D.agg.injEq, D.int.injEq, true_and] at hy
  rw [hy.1, hy.2]
theorem f134_ok : PureOK Try.prog 134 true g134 := by
  have hΓ := Γ0_ok
  refine pure_enc (n := 21) (rs := [.tmp 2]) Try.func134 (by kernel_rfl) rfl (by kernel_rfl) (by kernel_rfl) ?_
  rintro ⟨b, h⟩ _
  refine ⟨fun _ => .int _ _, fun k hz0 => ?_⟩
  unfold keyE
  generalize hc1 : decide (b < 8) = c1
  generalize hc2 : decide (b > 256) = c2
  generalize hc3 : decide (h < 0) = c3
  generalize hc4 : decide (h > 6) = c4
  rw [start_frame (by simp)]; simp only [enumV, go_sem, emptyH]
  (first | (((repeat (first | (apply axJ; (focus ((with_reducible constructor) <;> rfl))) | (apply awT mixedOK hΓ (by kernel_rfl); (simp (disch := omega) only [go_sem, ↓reduceIte, dk, hc1, hc2, hc3, hc4] <;> with_reducible rfl)) | ((first | apply awR hΓ | apply awG | apply awH mixedOK hΓ rfl (by kernel_rfl) | apply ovE rfl); (simp (disch := omega) only [go_sem, ↓reduceIte, dk, hc1, hc2, hc3, hc4] <;> with_reducible rfl); exact trivial) | rfl)); (first | done | rfl)); done) | (cases c1 <;> (first | (((repeat (first | (apply axJ; (focus ((with_reducible constructor) <;> rfl))) | (apply awT mixedOK hΓ (by kernel_rfl); (simp (disch := omega) only [go_sem, ↓reduceIte, dk, hc1, hc2, hc3, hc4] <;> with_reducible rfl)) | ((first | apply awR hΓ | apply awG | apply awH mixedOK hΓ rfl (by kernel_rfl) | apply ovE rfl); (simp (disch := omega) only [go_sem, ↓reduceIte, dk, hc1, hc2, hc3, hc4] <;> with_reducible rfl); exact trivial) | rfl)); (first | done | rfl)); done) | (cases c2 <;> (first | (((repeat (first | (apply axJ; (focus ((with_reducible constructor) <;> rfl))) | (apply awT mixedOK hΓ (by kernel_rfl); (simp (disch := omega) only [go_sem, ↓reduceIte, dk, hc1, hc2, hc3, hc4] <;> with_reducible rfl)) | ((first | apply awR hΓ | apply awG | apply awH mixedOK hΓ rfl (by kernel_rfl) | apply ovE rfl); (simp (disch := omega) only [go_sem, ↓reduceIte, dk, hc1, hc2, hc3, hc4] <;> with_reducible rfl); exact trivial) | rfl)); (first | done | rfl)); done) | (cases c3 <;> (first | (((repeat (first | (apply axJ; (focus ((with_reducible constructor) <;> rfl))) | (apply awT mixedOK hΓ (by kernel_rfl); (simp (disch := omega) only [go_sem, ↓reduceIte, dk, hc1, hc2, hc3, hc4] <;> with_reducible rfl)) | ((first | apply awR hΓ | apply awG | apply awH mixedOK hΓ rfl (by kernel_rfl) | apply ovE rfl); (simp (disch := omega) only [go_sem, ↓reduceIte, dk, hc1, hc2, hc3, hc4] <;> with_reducible rfl); exact trivial) | rfl)); (first | done | rfl)); done) | (cases c4 <;> (first | (((repeat (first | (apply axJ; (focus ((with_reducible constructor) <;> rfl))) | (apply awT mixedOK hΓ (by kernel_rfl); (simp (disch := omega) only [go_sem, ↓reduceIte, dk, hc1, hc2, hc3, hc4] <;> with_reducible rfl)) | ((first | apply awR hΓ | apply awG | apply awH mixedOK hΓ rfl (by kernel_rfl) | apply ovE rfl); (simp (disch := omega) only [go_sem, ↓reduceIte, dk, hc1, hc2, hc3, hc4] <;> with_reducible rfl); exact trivial) | rfl)); (first | done | rfl)); done))))))))))
end Go.Ab
