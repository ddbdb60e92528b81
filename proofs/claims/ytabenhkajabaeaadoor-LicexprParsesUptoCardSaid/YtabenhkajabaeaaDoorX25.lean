/-
  One text of the proof (own work): contracts of functions of the program, by the abstract machine.
-/
import Derived.Test.YtabenhkajabaeaaDoorX23
import Derived.Test.YtabenhkajabaeaaDoorX24
set_option linter.unusedVariables false
set_option linter.unusedSimpArgs false
namespace Go.Ab
open Go Go.RowKit Go.Proofs
set_option maxRecDepth 4000
set_option maxHeartbeats 4000000
def letterI (c : Int) : Bool := (decide (c ≥ 97) && decide (c ≤ 122)) || (decide (c ≥ 48) && decide (c ≤ 57)) || c == 45 || c == 46
def letter (b : UInt8) : Bool := letterI b.toNat
def isBl (b : UInt8) : Bool := (b.toNat : Int) == 32
noncomputable def g_letter : List D → Option D := encSpec (fun x : Int => [u8 x]) (fun x : Int => True) (fun x : Int => .bool (letterI x))
theorem g_letter_eq {c : Int} (hd : True) : g_letter [.int .u8 c] = some (.bool (letterI c)) := encSpec_eq (x := c) hd fun y hy => by
    simp only [List.cons.injEq, and_true, true_and, D.str.injEq, D.int.injEq, D.list.injEq, D.bool.injEq, D.agg.injEq, D.clo.injEq, Int.natCast_inj, inj_ie] at hy
    rw [hy]
theorem f_letter_ok : PureOK Tryd.prog 76 true g_letter := by
  have hΓ := Γ0_ok
  refine pure_enc (n := 25) (rs := [.tmp 2]) Tryd.func76 (by kernel_rfl) rfl (by kernel_rfl) (by kernel_rfl) ?_
  rintro c hd
  (try dsimp only at hd ⊢)
  refine ⟨fun _ => by (repeat (first | exact .int _ _ | exact .bool _ | exact .str _ | (refine .tup _ (fun d hd => ?_); simp only [List.mem_cons, List.not_mem_nil, or_false] at hd; rcases hd with rfl | hd))), fun k hz0 => ?_⟩
  unfold letterI
  generalize hc1 : decide (c ≥ 97) = c1
  generalize hc2 : decide (c ≤ 122) = c2
  generalize hc3 : decide (c ≥ 48) = c3
  generalize hc4 : decide (c ≤ 57) = c4
  generalize hc5 : (c == 45) = c5
  generalize hc6 : (c == 46) = c6
  rw [start_frame (by simp)]; simp only [enumV, go_sem, emptyH]
  (first | (((repeat (first | (apply axJ; (focus ((with_reducible constructor) <;> rfl))) | (apply awT mixedOK hΓ (by kernel_rfl); (simp (disch := omega) only [go_sem, ↓reduceIte, dk, hc1, hc2, hc3, hc4, hc5, hc6] <;> with_reducible rfl)) | ((first | apply awR hΓ | apply awG | apply awH mixedOK hΓ rfl (by kernel_rfl) | apply ovE rfl); (simp (disch := omega) only [go_sem, ↓reduceIte, dk, hc1, hc2, hc3, hc4, hc5, hc6] <;> with_reducible rfl); exact trivial) | rfl)); (first | done | rfl)); done) | (cases c1 <;> (first | (((repeat (first | (apply axJ; (focus ((with_reducible constructor) <;> rfl))) | (apply awT mixedOK hΓ (by kernel_rfl); (simp (disch := omega) only [go_sem, ↓reduceIte, dk, hc1, hc2, hc3, hc4, hc5, hc6] <;> with_reducible rfl)) | ((first | apply awR hΓ | apply awG | apply awH mixedOK hΓ rfl (by kernel_rfl) | apply ovE rfl); (simp (disch := omega) only [go_sem, ↓reduceIte, dk, hc1, hc2, hc3, hc4, hc5, hc6] <;> with_reducible rfl); exact trivial) | rfl)); (first | done | rfl)); done) | (cases c2 <;> (first | (((repeat (first | (apply axJ; (focus ((with_reducible constructor) <;> rfl))) | (apply awT mixedOK hΓ (by kernel_rfl); (simp (disch := omega) only [go_sem, ↓reduceIte, dk, hc1, hc2, hc3, hc4, hc5, hc6] <;> with_reducible rfl)) | ((first | apply awR hΓ | apply awG | apply awH mixedOK hΓ rfl (by kernel_rfl) | apply ovE rfl); (simp (disch := omega) only [go_sem, ↓reduceIte, dk, hc1, hc2, hc3, hc4, hc5, hc6] <;> with_reducible rfl); exact trivial) | rfl)); (first | done | rfl)); done) | (cases c3 <;> (first | (((repeat (first | (apply axJ; (focus ((with_reducible constructor) <;> rfl))) | (apply awT mixedOK hΓ (by kernel_rfl); (simp (disch := omega) only [go_sem, ↓reduceIte, dk, hc1, hc2, hc3, hc4, hc5, hc6] <;> with_reducible rfl)) | ((first | apply awR hΓ | apply awG | apply awH mixedOK hΓ rfl (by kernel_rfl) | apply ovE rfl); (simp (disch := omega) only [go_sem, ↓reduceIte, dk, hc1, hc2, hc3, hc4, hc5, hc6] <;> with_reducible rfl); exact trivial) | rfl)); (first | done | rfl)); done) | (cases c4 <;> (first | (((repeat (first | (apply axJ; (focus ((with_reducible constructor) <;> rfl))) | (apply awT mixedOK hΓ (by kernel_rfl); (simp (disch := omega) only [go_sem, ↓reduceIte, dk, hc1, hc2, hc3, hc4, hc5, hc6] <;> with_reducible rfl)) | ((first | apply awR hΓ | apply awG | apply awH mixedOK hΓ rfl (by kernel_rfl) | apply ovE rfl); (simp (disch := omega) only [go_sem, ↓reduceIte, dk, hc1, hc2, hc3, hc4, hc5, hc6] <;> with_reducible rfl); exact trivial) | rfl)); (first | done | rfl)); done) | (cases c5 <;> (first | (((repeat (first | (apply axJ; (focus ((with_reducible constructor) <;> rfl))) | (apply awT mixedOK hΓ (by kernel_rfl); (simp (disch := omega) only [go_sem, ↓reduceIte, dk, hc1, hc2, hc3, hc4, hc5, hc6] <;> with_reducible rfl)) | ((first | apply awR hΓ | apply awG | apply awH mixedOK hΓ rfl (by kernel_rfl) | apply ovE rfl); (simp (disch := omega) only [go_sem, ↓reduceIte, dk, hc1, hc2, hc3, hc4, hc5, hc6] <;> with_reducible rfl); exact trivial) | rfl)); (first | done | rfl)); done) | (cases c6 <;> (first | (((repeat (first | (apply axJ; (focus ((with_reducible constructor) <;> rfl))) | (apply awT mixedOK hΓ (by kernel_rfl); (simp (disch := omega) only [go_sem, ↓reduceIte, dk, hc1, hc2, hc3, hc4, hc5, hc6] <;> with_reducible rfl)) | ((first | apply awR hΓ | apply awG | apply awH mixedOK hΓ rfl (by kernel_rfl) | apply ovE rfl); (simp (disch := omega) only [go_sem, ↓reduceIte, dk, hc1, hc2, hc3, hc4, hc5, hc6] <;> with_reducible rfl); exact trivial) | rfl)); (first | done | rfl)); done))))))))))))))
def runN (p : UInt8 → Bool) (s : List UInt8) (a : Nat) : Nat := a + ((s.drop a).takeWhile p).length
theorem runN_yes {p : UInt8 → Bool} {s : List UInt8} {i : Nat} (hi : i < s.length) (hp : p s[i] = true) : runN p s i = runN p s (i + 1) := by
  unfold runN
  rw [List.drop_eq_getElem_cons hi, List.takeWhile_cons, if_pos hp, List.length_cons]
  omega
theorem runN_no {p : UInt8 → Bool} {s : List UInt8} {i : Nat} (hi : i < s.length) (hp : p s[i] = false) : runN p s i = i := by
  unfold runN
  rw [List.drop_eq_getElem_cons hi, List.takeWhile_cons, if_neg (by simp [hp])]
  simp
theorem runN_end {p : UInt8 → Bool} {s : List UInt8} {i : Nat} (hi : s.length ≤ i) : runN p s i = i := by
  unfold runN
  rw [List.drop_eq_nil_of_le hi]
  simp
theorem runN_le {p : UInt8 → Bool} {s : List UInt8} {i : Nat} (hi : i ≤ s.length) : i ≤ runN p s i ∧ runN p s i ≤ s.length := by
  unfold runN
  have h := List.IsPrefix.length_le (List.takeWhile_prefix p (l := s.drop i))
  rw [List.length_drop] at h
  omega
theorem runN_take {p : UInt8 → Bool} {s : List UInt8} {i : Nat} : (s.drop i).take (runN p s i - i) = (s.drop i).takeWhile p := by
  unfold runN
  rw [Nat.add_sub_cancel_left]
  exact (List.prefix_iff_eq_take.1 (List.takeWhile_prefix p)).symm
abbrev skipN := runN isBl
def wordN (s : List UInt8) (a : Nat) : List UInt8 := (s.drop a).takeWhile letter
noncomputable def g_skip : List D → Option D := encSpec (fun x : (List UInt8) × Nat => [.str x.1, i64 x.2]) (fun x : (List UInt8) × Nat => x.1.length ≤ 1099511627776 ∧ x.2 ≤ x.1.length) (fun x : (List UInt8) × Nat => i64 (skipN x.1 x.2))
theorem g_skip_eq {s : List UInt8} {a : Nat} (hd : s.length ≤ 1099511627776 ∧ a ≤ s.length) : g_skip [.str s, .int .i64 a] = some (i64 (skipN s a)) := encSpec_eq (x := (s, a)) hd fun y hy => by
    obtain ⟨y0, y1⟩ := y; simp only [List.cons.injEq, and_true, true_and, D.str.injEq, D.int.injEq, D.list.injEq, D.bool.injEq, D.agg.injEq, D.clo.injEq, Int.natCast_inj, inj_ie] at hy
    (try obtain ⟨rfl, rfl⟩ := hy)
    (try subst_vars)
    rfl
theorem f_skip_ok : PureOK Tryd.prog 57 true g_skip := by
  have hΓ := Γ0_ok
  refine pure_enc (n := 18) (rs := [.tmp 4]) Tryd.func57 (by kernel_rfl) rfl (by kernel_rfl) (by kernel_rfl) ?_
  rintro ⟨s, a⟩ hd
  (try dsimp only at hd ⊢)
  refine ⟨fun _ => by (repeat (first | exact .int _ _ | exact .bool _ | exact .str _ | (refine .tup _ (fun d hd => ?_); simp only [List.mem_cons, List.not_mem_nil, or_false] at hd; rcases hd with rfl | hd))), fun k hz0 => ?_⟩
  obtain ⟨hs, ha⟩ := hd
  rw [start_frame (by simp)]; simp only [enumV, go_sem, emptyH]
  repeat (first
    | (apply axJ; (focus ((with_reducible constructor) <;> rfl)))
    | (apply awT mixedOK hΓ (by kernel_rfl); (simp (disch := omega) only [go_sem, ↓reduceIte, dk] <;> with_reducible rfl))
    | ((first | apply awR hΓ | apply awG | apply awH mixedOK hΓ rfl (by kernel_rfl) | apply ovE rfl); (simp (disch := omega) only [go_sem, ↓reduceIte, dk] <;> with_reducible rfl); exact trivial)
    | rfl)
  refine awp_loop_at (X := Nat) (fun i => (frame 18 [(0, .data (.str s)), (1, .data (i64 i))])) (fun _ => []) 0 (fun i => i ≤ s.length ∧ skipN s i = skipN s a) (fun i => s.length - i) a ⟨ha, rfl⟩ (Weak.w) ?_
  rintro i ⟨hi, he⟩
  rw [← he]
  by_cases hi2 : i < s.length
  · have hyes := runN_yes (p := isBl) hi2
    have hno := runN_no (p := isBl) hi2
    rw [show isBl s[i] = ((s[i].toNat : Int) == 32) from rfl] at hyes hno
    generalize hy : s[i] = y at hyes hno
    generalize hc : ((y.toNat : Int) == 32) = c at hyes hno
    cases c with
    | true =>
      repeat (first
        | (apply axJ; (focus ((with_reducible constructor) <;> rfl)))
        | (apply awT mixedOK hΓ (by kernel_rfl); (simp (disch := omega) only [go_sem, ↓reduceIte, dk, hy, hc] <;> with_reducible rfl))
        | ((first | apply awR hΓ | apply awG | apply awH mixedOK hΓ rfl (by kernel_rfl) | apply ovE rfl); (simp (disch := omega) only [go_sem, ↓reduceIte, dk, hy, hc] <;> with_reducible rfl); exact trivial)
        | rfl)
      exact ⟨i + 1, ⟨by omega, (hyes rfl).symm⟩, by omega, Weak.w⟩
    | false =>
      repeat (first
        | (apply axJ; (focus ((with_reducible constructor) <;> rfl)))
        | (apply awT mixedOK hΓ (by kernel_rfl); (simp (disch := omega) only [go_sem, ↓reduceIte, dk, hy, hc] <;> with_reducible rfl))
        | ((first | apply awR hΓ | apply awG | apply awH mixedOK hΓ rfl (by kernel_rfl) | apply ovE rfl); (simp (disch := omega) only [go_sem, ↓reduceIte, dk, hy, hc] <;> with_reducible rfl); exact trivial)
        | rfl)
      rw [show skipN s i = i from hno rfl]
  · repeat (first
    | (apply axJ; (focus ((with_reducible constructor) <;> rfl)))
    | (apply awT mixedOK hΓ (by kernel_rfl); (simp (disch := omega) only [go_sem, ↓reduceIte, dk] <;> with_reducible rfl))
    | ((first | apply awR hΓ | apply awG | apply awH mixedOK hΓ rfl (by kernel_rfl) | apply ovE rfl); (simp (disch := omega) only [go_sem, ↓reduceIte, dk] <;> with_reducible rfl); exact trivial)
    | rfl)
    rw [show skipN s i = i from runN_end (by omega)]
noncomputable def Γword : FuncId → Option CSpec := fun f => if f = 76 then some (.pure true (g_letter)) else none
theorem Γword_ok : ∀ f s, Γword f = some s → SpecOK Tryd.prog f s := by
  intro f s h
  unfold Γword at h
  split at h
  · rename_i hf; cases h; subst hf; exact f_letter_ok
  · cases h
theorem g_letter_at (b : UInt8) : g_letter [.int .u8 b.toNat] = some (.bool (letter b)) := g_letter_eq trivial
noncomputable def g_word : List D → Option D := encSpec (fun x : (List UInt8) × Nat => [.str x.1, i64 x.2]) (fun x : (List UInt8) × Nat => x.1.length ≤ 1099511627776 ∧ x.2 ≤ x.1.length) (fun x : (List UInt8) × Nat => .str (wordN x.1 x.2))
theorem g_word_eq {s : List UInt8} {a : Nat} (hd : s.length ≤ 1099511627776 ∧ a ≤ s.length) : g_word [.str s, .int .i64 a] = some (.str (wordN s a)) := encSpec_eq (x := (s, a)) hd fun y hy => by
    obtain ⟨y0, y1⟩ := y; simp only [List.cons.injEq, and_true, true_and, D.str.injEq, D.int.injEq, D.list.injEq, D.bool.injEq, D.agg.injEq, D.clo.injEq, Int.natCast_inj, inj_ie] at hy
    (try obtain ⟨rfl, rfl⟩ := hy)
    (try subst_vars)
    rfl
theorem f_word_ok : PureOK Tryd.prog 58 true g_word := by
  have hΓ := Γword_ok
  refine pure_enc (n := 23) (rs := [.tmp 4]) Tryd.func58 (by kernel_rfl) rfl (by kernel_rfl) (by kernel_rfl) ?_
  rintro ⟨s, a⟩ hd
  (try dsimp only at hd ⊢)
  refine ⟨fun _ => by (repeat (first | exact .int _ _ | exact .bool _ | exact .str _ | (refine .tup _ (fun d hd => ?_); simp only [List.mem_cons, List.not_mem_nil, or_false] at hd; rcases hd with rfl | hd))), fun k hz0 => ?_⟩
  obtain ⟨hs, ha⟩ := hd
  rw [start_frame (by simp)]; simp only [enumV, go_sem, emptyH]
  repeat (first
    | (apply axJ; (focus ((with_reducible constructor) <;> rfl)))
    | (apply awT mixedOK hΓ (by kernel_rfl); (simp (disch := omega) only [go_sem, ↓reduceIte, dk] <;> with_reducible rfl))
    | ((first | apply awR hΓ | apply awG | apply awH mixedOK hΓ rfl (by kernel_rfl) | apply ovE rfl); (simp (disch := omega) only [go_sem, ↓reduceIte, dk] <;> with_reducible rfl); exact trivial)
    | rfl)
  refine awp_loop_at (X := Nat) (fun i => (frame 23 [(0, .data (.str s)), (1, .data (i64 a)), (5, .data (i64 i))])) (fun _ => []) 0 (fun i => i ≤ s.length ∧ a ≤ i ∧ runN letter s i = runN letter s a) (fun i => s.length - i) a ⟨ha, Nat.le_refl _, rfl⟩ (Weak.w) ?_
  rintro i ⟨hi, hai, he⟩
  unfold wordN
  rw [← runN_take, ← he]
  by_cases hi2 : i < s.length
  · have hyes := runN_yes (p := letter) hi2
    have hno := runN_no (p := letter) hi2
    have e := g_letter_at s[i]
    generalize hy : s[i] = y at hyes hno e
    generalize letter y = c at hyes hno e
    cases c with
    | true =>
      repeat (first
        | (apply axJ; (focus ((with_reducible constructor) <;> rfl)))
        | (apply awT mixedOK hΓ (by kernel_rfl); (simp (disch := omega) only [go_sem, ↓reduceIte, dk, Γword, hy, e] <;> with_reducible rfl))
        | ((first | apply awR hΓ | apply awG | apply awH mixedOK hΓ rfl (by kernel_rfl) | apply ovE rfl); (simp (disch := omega) only [go_sem, ↓reduceIte, dk, Γword, hy, e] <;> with_reducible rfl); exact trivial)
        | rfl)
      exact ⟨i + 1, ⟨by omega, by omega, (hyes rfl).symm⟩, by omega, Weak.w⟩
    | false =>
      rw [hno rfl]
      repeat (first
        | (apply axJ; (focus ((with_reducible constructor) <;> rfl)))
        | (apply awT mixedOK hΓ (by kernel_rfl); (simp (disch := omega) only [go_sem, ↓reduceIte, dk, Γword, hy, e] <;> with_reducible rfl))
        | ((first | apply awR hΓ | apply awG | apply awH mixedOK hΓ rfl (by kernel_rfl) | apply ovE rfl); (simp (disch := omega) only [go_sem, ↓reduceIte, dk, Γword, hy, e] <;> with_reducible rfl); exact trivial)
        | rfl)
  · rw [runN_end (by omega)]
    repeat (first
      | (apply axJ; (focus ((with_reducible constructor) <;> rfl)))
      | (apply awT mixedOK hΓ (by kernel_rfl); (simp (disch := omega) only [go_sem, ↓reduceIte, dk, Γword] <;> with_reducible rfl))
      | ((first | apply awR hΓ | apply awG | apply awH mixedOK hΓ rfl (by kernel_rfl) | apply ovE rfl); (simp (disch := omega) only [go_sem, ↓reduceIte, dk, Γword] <;> with_reducible rfl); exact trivial)
      | rfl)
end Go.Ab
