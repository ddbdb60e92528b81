/-
  One text of the proof (own work): contracts of functions of the program, by the abstract machine.
-/
import Derived.Test.YtlfmbcjjojedgaaGreatDoorX19
import Derived.Test.YtlfmbcjjojedgaaGreatDoorX38
import Derived.Test.YtlfmbcjjojedgaaGreatDoorX24
set_option linter.unusedVariables false
set_option linter.unusedSimpArgs false
namespace Go.Ab
open Go Go.RowKit Go.Proofs
set_option maxRecDepth 10000
set_option maxHeartbeats 16000000
def atP (p : UInt8 → Bool) (s : Bs) (i : Nat) : Bool := match s[i]? with
  | some b => p b
  | none => false
theorem atP_lt {p : UInt8 → Bool} {s : Bs} {i : Nat} (h : i < s.length) : atP p s i = p s[i] := by
  unfold atP
  rw [List.getElem?_eq_getElem h]
theorem atP_ge {p : UInt8 → Bool} {s : Bs} {i : Nat} (h : s.length ≤ i) : atP p s i = false := by
  unfold atP
  rw [List.getElem?_eq_none h]
theorem dwp_step {p : UInt8 → Bool} {s : Bs} {i : Nat} (h : atP p s i = true) : i < s.length ∧ (s.drop i).dropWhile p = (s.drop (i + 1)).dropWhile p := by
  by_cases hi : i < s.length
  · rw [atP_lt hi] at h
    exact ⟨hi, by rw [List.drop_eq_getElem_cons hi, List.dropWhile_cons, if_pos h]⟩
  · rw [atP_ge (by omega)] at h
    cases h
theorem dwp_stop {p : UInt8 → Bool} {s : Bs} {i : Nat} (h : atP p s i = false) : (s.drop i).dropWhile p = s.drop i := by
  by_cases hi : i < s.length
  · rw [atP_lt hi] at h
    rw [List.drop_eq_getElem_cons hi, List.dropWhile_cons, h]
    rfl
  · rw [List.drop_of_length_le (by omega)]
    rfl
theorem take_snoc {s : Bs} {f e : Nat} (h1 : f < e) (h2 : e ≤ s.length) : (s.drop f).take (e - f) = (s.drop f).take (e - 1 - f) ++ [s[e - 1]] := by
  rw [show e - f = (e - 1 - f) + 1 by omega, List.take_add_one, List.getElem?_drop, show f + (e - 1 - f) = e - 1 by omega, List.getElem?_eq_getElem (by omega)]
  rfl
theorem rt_step {p : UInt8 → Bool} {s : Bs} {f e : Nat} (h2 : e ≤ s.length) (h : (decide (f < e) && atP p s (e - 1)) = true) : f < e ∧ rTrim p ((s.drop f).take (e - f)) = rTrim p ((s.drop f).take (e - 1 - f)) := by
  rw [Bool.and_eq_true, decide_eq_true_eq] at h
  obtain ⟨h1, h3⟩ := h
  rw [atP_lt (by omega)] at h3
  exact ⟨h1, by rw [take_snoc h1 h2, rTrim_snoc, if_pos h3]⟩
theorem rt_stop {p : UInt8 → Bool} {s : Bs} {f e : Nat} (h1 : f ≤ e) (h2 : e ≤ s.length) (h : (decide (f < e) && atP p s (e - 1)) = false) : rTrim p ((s.drop f).take (e - f)) = (s.drop f).take (e - f) := by
  by_cases hf : f < e
  · rw [decide_eq_true hf, Bool.true_and, atP_lt (by omega)] at h
    rw [take_snoc hf h2, rTrim_snoc, h]
    rfl
  · rw [show e - f = 0 by omega, List.take_zero]
    rfl
theorem preB_c (b : UInt8) : preB b = (edgeB b || (b == 35 || (b == 59 || b == 45))) := rfl
noncomputable def g_wordsR36 : List D → Option D := encSpec (fun x : Unit => []) (fun x : Unit => True) (fun x : Unit => .list [.str kLic, .str kCop])
theorem g_wordsR36_eq  (hd : True) : g_wordsR36 [] = some (.list [.str kLic, .str kCop]) := encSpec_eq (x := ()) hd fun y hy => by
    rfl
theorem f_wordsR36_ok : PureOK Tryz.prog 63 false g_wordsR36 := by
  have hΓ := Γ0_ok
  refine pure_enc (n := 2) (rs := [.tmp 0]) Tryz.func63 (by kernel_rfl) rfl (by kernel_rfl) (by kernel_rfl) ?_
  rintro _ hd
  (try dsimp only at hd ⊢)
  refine ⟨fun h => (by cases h), fun k hz0 => ?_⟩
  rw [start_frame (by simp)]; simp only [enumV, go_sem, emptyH]
  repeat (first
    | (apply axJ; (focus ((with_reducible constructor) <;> rfl)))
    | (apply awT mixedOK hΓ (by kernel_rfl); (simp (disch := omega) only [go_sem, ↓reduceIte, dk, ↓lk] <;> with_reducible rfl))
    | ((first | apply awR hΓ | apply awG | apply awH mixedOK hΓ rfl (by kernel_rfl) | apply ovE rfl); (simp (disch := omega) only [go_sem, ↓reduceIte, dk, ↓lk] <;> with_reducible rfl); exact trivial)
    | rfl)
  try rfl
noncomputable def g_readR36 : List D → Option D := encSpec (fun x : Bs => [.str x]) (fun x : Bs => x.length ≤ 1099511627776) (fun x : Bs => .tup [.agg [i64 (hdB 0 x).1.kind, i64 (hdB 0 x).1.line, .str (hdB 0 x).1.text], .bool (hdB 0 x).2])
theorem g_readR36_eq {s : Bs} (hd : s.length ≤ 1099511627776) : g_readR36 [.str s] = some (.tup [.agg [i64 (hdB 0 s).1.kind, i64 (hdB 0 s).1.line, .str (hdB 0 s).1.text], .bool (hdB 0 s).2]) := encSpec_eq (x := s) hd fun y hy => by
    simp only [List.cons.injEq, and_true, true_and, D.str.injEq, D.int.injEq, D.list.injEq, D.bool.injEq, D.agg.injEq, D.clo.injEq, Int.natCast_inj, inj_ie, UInt8.toNat_inj] at hy
    rw [hy]
theorem f_readR36_ok : PureOK Tryz.prog 48 true g_readR36 := by
  have hΓ := Γp f_edgeR_ok (Γp f_textR36_ok (Γp f_wordsR36_ok (Γn)))
  refine pure_enc (n := 106) (rs := [.cell 2 26, .tmp 3]) Tryz.func48 (by kernel_rfl) rfl (by kernel_rfl) (by kernel_rfl) ?_
  rintro s hd
  (try dsimp only at hd ⊢)
  refine ⟨fun _ => by (refine .tup _ (fun d hd => ?_); simp only [List.mem_cons, List.not_mem_nil, or_false] at hd; repeat (first | exact .int _ _ | exact .bool _ | exact .str _ | (rcases hd with rfl | hd) | subst hd | (refine .agg _ (fun d hd => ?_); simp only [List.mem_cons, List.not_mem_nil, or_false] at hd))), fun k hz0 => ?_⟩
  have ew := g_wordsR36_eq trivial
  unfold hdB
  generalize ht : s.dropWhile preB = t
  rw [start_frame (by simp)]; simp only [enumV, go_sem, emptyH]
  repeat (first
    | (apply axJ; (focus ((with_reducible constructor) <;> rfl)))
    | (apply awT mixedOK hΓ (by kernel_rfl); (simp (disch := omega) only [go_sem, ↓reduceIte, dk, ↓lk, Int.reduceBEq, Int.reduceBNe, Bool.true_bne, Bool.false_bne, Bool.not_true, Bool.not_false] <;> with_reducible rfl))
    | ((first | apply awR hΓ | apply awG | apply awH mixedOK hΓ rfl (by kernel_rfl) | apply ovE rfl); (simp (disch := omega) only [go_sem, ↓reduceIte, dk, ↓lk, Int.reduceBEq, Int.reduceBNe, Bool.true_bne, Bool.false_bne, Bool.not_true, Bool.not_false] <;> with_reducible rfl); exact trivial)
    | rfl)
  refine awp_loop_at (X := Nat) (fun i => (frame 106 [(0, .data (.str s)), (2, .ptr 0 0), (4, .data (i64 i))])) (fun _ => [(0, .box [.data (.int .i64 0), .data (.int .i64 0), .data (.str [])])]) 3
    (fun i => i ≤ s.length ∧ t = (s.drop i).dropWhile preB) (fun i => s.length - i) 0 ⟨Nat.zero_le _, by rw [← ht]; rfl⟩ (Weak.w) ?_
  rintro i ⟨hi, hI⟩
  refine awA ?_
  refine awA ?_
  refine awp_mid (fun _ : Unit => (frame 106 [(0, .data (.str s)), (2, .ptr 0 0), (4, .data (i64 i)), (36, .data (.bool (atP preB s i)))])) (fun _ => [(0, .box [.data (.int .i64 0), .data (.int .i64 0), .data (.str [])])]) 31 (fun _ => True) ?_ ?_
  · by_cases hb : i < s.length
    · rw [atP_lt hb]
      have ee := g_edgeR_eq (b := s[i]) trivial
      rw [preB_c]
      generalize hy : s[i] = y at *
      have h1 : ((y.toNat : Int) == 35) = (y == 35) := byteEq y 35
      have h2 : ((y.toNat : Int) == 59) = (y == 59) := byteEq y 59
      have h3 : ((y.toNat : Int) == 45) = (y == 45) := byteEq y 45
      have hlt : decide ((i : Int) < s.length) = true := decide_eq_true (by omega)
      generalize edgeB y = c1 at *
      generalize (y == 35) = c2 at *
      generalize (y == 59) = c3 at *
      generalize (y == 45) = c4 at *
      cases c1
      rotate_left
      · ((repeat (first | (apply axJ; (focus ((with_reducible constructor) <;> rfl))) | (apply awT mixedOK hΓ (by kernel_rfl); (simp (disch := omega) only [go_sem, ↓reduceIte, dk, ↓lk, Int.reduceBEq, Int.reduceBNe, Bool.true_bne, Bool.false_bne, Bool.not_true, Bool.not_false, hy, hlt, ee, h1, h2, h3] <;> with_reducible rfl)) | ((first | apply awR hΓ | apply awG | apply awH mixedOK hΓ rfl (by kernel_rfl) | apply ovE rfl); (simp (disch := omega) only [go_sem, ↓reduceIte, dk, ↓lk, Int.reduceBEq, Int.reduceBNe, Bool.true_bne, Bool.false_bne, Bool.not_true, Bool.not_false, hy, hlt, ee, h1, h2, h3] <;> with_reducible rfl); exact trivial) | rfl)); (exact ⟨(), trivial, Weak.w⟩))
      cases c2
      rotate_left
      · ((repeat (first | (apply axJ; (focus ((with_reducible constructor) <;> rfl))) | (apply awT mixedOK hΓ (by kernel_rfl); (simp (disch := omega) only [go_sem, ↓reduceIte, dk, ↓lk, Int.reduceBEq, Int.reduceBNe, Bool.true_bne, Bool.false_bne, Bool.not_true, Bool.not_false, hy, hlt, ee, h1, h2, h3] <;> with_reducible rfl)) | ((first | apply awR hΓ | apply awG | apply awH mixedOK hΓ rfl (by kernel_rfl) | apply ovE rfl); (simp (disch := omega) only [go_sem, ↓reduceIte, dk, ↓lk, Int.reduceBEq, Int.reduceBNe, Bool.true_bne, Bool.false_bne, Bool.not_true, Bool.not_false, hy, hlt, ee, h1, h2, h3] <;> with_reducible rfl); exact trivial) | rfl)); (exact ⟨(), trivial, Weak.w⟩))
      cases c3
      rotate_left
      · ((repeat (first | (apply axJ; (focus ((with_reducible constructor) <;> rfl))) | (apply awT mixedOK hΓ (by kernel_rfl); (simp (disch := omega) only [go_sem, ↓reduceIte, dk, ↓lk, Int.reduceBEq, Int.reduceBNe, Bool.true_bne, Bool.false_bne, Bool.not_true, Bool.not_false, hy, hlt, ee, h1, h2, h3] <;> with_reducible rfl)) | ((first | apply awR hΓ | apply awG | apply awH mixedOK hΓ rfl (by kernel_rfl) | apply ovE rfl); (simp (disch := omega) only [go_sem, ↓reduceIte, dk, ↓lk, Int.reduceBEq, Int.reduceBNe, Bool.true_bne, Bool.false_bne, Bool.not_true, Bool.not_false, hy, hlt, ee, h1, h2, h3] <;> with_reducible rfl); exact trivial) | rfl)); (exact ⟨(), trivial, Weak.w⟩))
      repeat (first
        | (apply axJ; (focus ((with_reducible constructor) <;> rfl)))
        | (apply awT mixedOK hΓ (by kernel_rfl); (simp (disch := omega) only [go_sem, ↓reduceIte, dk, ↓lk, Int.reduceBEq, Int.reduceBNe, Bool.true_bne, Bool.false_bne, Bool.not_true, Bool.not_false, hy, hlt, ee, h1, h2, h3] <;> with_reducible rfl))
        | ((first | apply awR hΓ | apply awG | apply awH mixedOK hΓ rfl (by kernel_rfl) | apply ovE rfl); (simp (disch := omega) only [go_sem, ↓reduceIte, dk, ↓lk, Int.reduceBEq, Int.reduceBNe, Bool.true_bne, Bool.false_bne, Bool.not_true, Bool.not_false, hy, hlt, ee, h1, h2, h3] <;> with_reducible rfl); exact trivial)
        | rfl)
      exact ⟨(), trivial, Weak.w⟩
    · rw [atP_ge (by omega)]
      have hlt : decide ((i : Int) < s.length) = false := decide_eq_false (by omega)
      repeat (first
        | (apply axJ; (focus ((with_reducible constructor) <;> rfl)))
        | (apply awT mixedOK hΓ (by kernel_rfl); (simp (disch := omega) only [go_sem, ↓reduceIte, dk, ↓lk, Int.reduceBEq, Int.reduceBNe, Bool.true_bne, Bool.false_bne, Bool.not_true, Bool.not_false, hlt] <;> with_reducible rfl))
        | ((first | apply awR hΓ | apply awG | apply awH mixedOK hΓ rfl (by kernel_rfl) | apply ovE rfl); (simp (disch := omega) only [go_sem, ↓reduceIte, dk, ↓lk, Int.reduceBEq, Int.reduceBNe, Bool.true_bne, Bool.false_bne, Bool.not_true, Bool.not_false, hlt] <;> with_reducible rfl); exact trivial)
        | rfl)
      exact ⟨(), trivial, Weak.w⟩
  intro _ _
  cases hc : atP preB s i with
  | true =>
    obtain ⟨h1, h2⟩ := dwp_step hc
    repeat (first
      | (apply axJ; (focus ((with_reducible constructor) <;> rfl)))
      | (apply awT mixedOK hΓ (by kernel_rfl); (simp (disch := omega) only [go_sem, ↓reduceIte, dk, ↓lk, Int.reduceBEq, Int.reduceBNe, Bool.true_bne, Bool.false_bne, Bool.not_true, Bool.not_false] <;> with_reducible rfl))
      | ((first | apply awR hΓ | apply awG | apply awH mixedOK hΓ rfl (by kernel_rfl) | apply ovE rfl); (simp (disch := omega) only [go_sem, ↓reduceIte, dk, ↓lk, Int.reduceBEq, Int.reduceBNe, Bool.true_bne, Bool.false_bne, Bool.not_true, Bool.not_false] <;> with_reducible rfl); exact trivial)
      | rfl)
    exact ⟨i + 1, ⟨by omega, by rw [hI, h2]⟩, by omega, Weak.w⟩
  | false =>
    rw [dwp_stop hc] at hI
    clear hc ht
    rw [show hdT 0 t = if kLic.isPrefixOf t then (⟨0, 0, trimE (t.drop kLic.length)⟩, isT (trimE (t.drop kLic.length))) else if kCop.isPrefixOf t then (⟨1, 0, trimE (t.drop kCop.length)⟩, isT (trimE (t.drop kCop.length))) else (zHd, false) from rfl]
    have l1 : kLic.length = 8 := rfl
    have l2 : kCop.length = 10 := rfl
    subst hI
    generalize kLic = k1 at *
    generalize kCop = k2 at *
    repeat (first
      | (apply axJ; (focus ((with_reducible constructor) <;> rfl)))
      | (apply awT mixedOK hΓ (by kernel_rfl); (simp (disch := omega) only [go_sem, ↓reduceIte, dk, ↓lk, Int.reduceBEq, Int.reduceBNe, Bool.true_bne, Bool.false_bne, Bool.not_true, Bool.not_false] <;> with_reducible rfl))
      | ((first | apply awR hΓ | apply awG | apply awH mixedOK hΓ rfl (by kernel_rfl) | apply ovE rfl); (simp (disch := omega) only [go_sem, ↓reduceIte, dk, ↓lk, Int.reduceBEq, Int.reduceBNe, Bool.true_bne, Bool.false_bne, Bool.not_true, Bool.not_false] <;> with_reducible rfl); exact trivial)
      | rfl)
    refine awp_loop_at (X := Nat) (fun q => (frame 106 [(0, .data (.str s)), (2, .ptr 0 0), (4, .data (i64 i)), (5, .data (i64 q))])) (fun _ => [(0, .box [.data (.int .i64 0), .data (.int .i64 0), .data (.str [])])]) 32
      (fun q => q ≤ 2 ∧ (1 ≤ q → k1.isPrefixOf (s.drop i) = false) ∧ (2 ≤ q → k2.isPrefixOf (s.drop i) = false)) (fun q => 2 - q) 0 ⟨by omega, fun h => absurd h (by omega), fun h => absurd h (by omega)⟩ (Weak.w) ?_
    rintro q ⟨hqi, h1, h2⟩
    have n1 : (((1 : Nat) : Int)).toNat = 1 := rfl
    have n0 : (((0 : Nat) : Int)).toNat = 0 := rfl
    match q, hqi, h1, h2 with
    | 0, _, _, _ =>
      cases hq : k1.isPrefixOf (s.drop i)
      · by_cases hx : i + k1.length ≤ s.length
        · have hx2 : decide (((i : Int) + (k1.length : Int)) > s.length) = false := decide_eq_false (by omega)
          have hx3 : ((s.drop i).take k1.length == k1) = false := by rw [take_pre]; exact hq
          have hx5 : ((i : Int) + (k1.length : Int)).toNat - i = k1.length := by omega
          repeat (first
            | (apply axJ; (focus ((with_reducible constructor) <;> rfl)))
            | (apply awT mixedOK hΓ (by kernel_rfl); (simp (disch := omega) only [go_sem, ↓reduceIte, dk, ↓lk, Int.reduceBEq, Int.reduceBNe, Bool.true_bne, Bool.false_bne, Bool.not_true, Bool.not_false, Int.reduceToNat, List.getElem?_cons_zero, List.getElem?_cons_succ, ew, hx2, hx3, hx5] <;> with_reducible rfl))
            | ((first | apply awR hΓ | apply awG | apply awH mixedOK hΓ rfl (by kernel_rfl) | apply ovE rfl); (simp (disch := omega) only [go_sem, ↓reduceIte, dk, ↓lk, Int.reduceBEq, Int.reduceBNe, Bool.true_bne, Bool.false_bne, Bool.not_true, Bool.not_false, Int.reduceToNat, List.getElem?_cons_zero, List.getElem?_cons_succ, ew, hx2, hx3, hx5] <;> with_reducible rfl); exact trivial)
            | rfl)
          exact ⟨1, ⟨by omega, fun _ => (by first | exact hq | rfl), fun h => absurd h (by omega)⟩, by omega, Weak.w⟩
        · have hx2 : decide (((i : Int) + (k1.length : Int)) > s.length) = true := decide_eq_true (by omega)
          repeat (first
            | (apply axJ; (focus ((with_reducible constructor) <;> rfl)))
            | (apply awT mixedOK hΓ (by kernel_rfl); (simp (disch := omega) only [go_sem, ↓reduceIte, dk, ↓lk, Int.reduceBEq, Int.reduceBNe, Bool.true_bne, Bool.false_bne, Bool.not_true, Bool.not_false, Int.reduceToNat, List.getElem?_cons_zero, List.getElem?_cons_succ, ew, hx2] <;> with_reducible rfl))
            | ((first | apply awR hΓ | apply awG | apply awH mixedOK hΓ rfl (by kernel_rfl) | apply ovE rfl); (simp (disch := omega) only [go_sem, ↓reduceIte, dk, ↓lk, Int.reduceBEq, Int.reduceBNe, Bool.true_bne, Bool.false_bne, Bool.not_true, Bool.not_false, Int.reduceToNat, List.getElem?_cons_zero, List.getElem?_cons_succ, ew, hx2] <;> with_reducible rfl); exact trivial)
            | rfl)
          exact ⟨1, ⟨by omega, fun _ => (by first | exact hq | rfl), fun h => absurd h (by omega)⟩, by omega, Weak.w⟩
      · have hx1 : i + k1.length ≤ s.length := by
          have := pre_len hq
          rw [List.length_drop] at this
          omega
        have hx2 : decide (((i : Int) + (k1.length : Int)) > s.length) = false := decide_eq_false (by omega)
        have hx3 : ((s.drop i).take k1.length == k1) = true := by rw [take_pre]; exact hq
        have hx5 : ((i : Int) + (k1.length : Int)).toNat - i = k1.length := by omega
        rw [if_pos rfl]
        rw [List.drop_drop]
        repeat (first
          | (apply axJ; (focus ((with_reducible constructor) <;> rfl)))
          | (apply awT mixedOK hΓ (by kernel_rfl); (simp (disch := omega) only [go_sem, ↓reduceIte, dk, ↓lk, Int.reduceBEq, Int.reduceBNe, Bool.true_bne, Bool.false_bne, Bool.not_true, Bool.not_false, Int.reduceToNat, List.getElem?_cons_zero, List.getElem?_cons_succ, ew, hx2, hx3, hx5] <;> with_reducible rfl))
          | ((first | apply awR hΓ | apply awG | apply awH mixedOK hΓ rfl (by kernel_rfl) | apply ovE rfl); (simp (disch := omega) only [go_sem, ↓reduceIte, dk, ↓lk, Int.reduceBEq, Int.reduceBNe, Bool.true_bne, Bool.false_bne, Bool.not_true, Bool.not_false, Int.reduceToNat, List.getElem?_cons_zero, List.getElem?_cons_succ, ew, hx2, hx3, hx5] <;> with_reducible rfl); exact trivial)
          | rfl)
        refine awp_loop_at (X := Nat) (fun f => (frame 106 [(0, .data (.str s)), (2, .ptr 0 0), (5, .data (i64 (0 : Nat))), (7, .data (i64 f)), (8, .data (i64 s.length))])) (fun _ => [(0, .box [.data (.int .i64 0), .data (.int .i64 0), .data (.str [])])]) 65
          (fun f => f ≤ s.length ∧ (s.drop (i + k1.length)).dropWhile edgeB = (s.drop f).dropWhile edgeB) (fun f => s.length - f) (i + k1.length) ⟨hx1, rfl⟩ (Weak.v (by (simp [ConvF, lookV, Conv, ints, Int.natCast_add]; done)) (by (simp (disch := omega) only [TabSub, look, if_pos, if_neg, Obj.refsOK, refsOKs, AV.refsOK, decide_eq_true_eq, Bool.and_true, Bool.and_self, Int.natCast_add] ) <;> ((repeat' apply And.intro) <;> first | exact True.intro | omega | (simp; done) | rfl))) ?_
        rintro f ⟨hf, hF⟩
        refine awA ?_
        refine awA ?_
        refine awp_mid (fun _ : Unit => (frame 106 [(0, .data (.str s)), (2, .ptr 0 0), (5, .data (i64 (0 : Nat))), (7, .data (i64 f)), (8, .data (i64 s.length)), (79, .data (.bool (atP edgeB s f)))])) (fun _ => [(0, .box [.data (.int .i64 0), .data (.int .i64 0), .data (.str [])])]) 74 (fun _ => True) ?_ ?_
        · by_cases hb : f < s.length
          · rw [atP_lt hb]
            have ee := g_edgeR_eq (b := s[f]) trivial
            generalize hy : s[f] = y at *
            generalize edgeB y = c at *
            have hlt : decide ((f : Int) < s.length) = true := decide_eq_true (by omega)
            repeat (first
              | (apply axJ; (focus ((with_reducible constructor) <;> rfl)))
              | (apply awT mixedOK hΓ (by kernel_rfl); (simp (disch := omega) only [go_sem, ↓reduceIte, dk, ↓lk, Int.reduceBEq, Int.reduceBNe, Bool.true_bne, Bool.false_bne, Bool.not_true, Bool.not_false, hy, hlt, ee] <;> with_reducible rfl))
              | ((first | apply awR hΓ | apply awG | apply awH mixedOK hΓ rfl (by kernel_rfl) | apply ovE rfl); (simp (disch := omega) only [go_sem, ↓reduceIte, dk, ↓lk, Int.reduceBEq, Int.reduceBNe, Bool.true_bne, Bool.false_bne, Bool.not_true, Bool.not_false, hy, hlt, ee] <;> with_reducible rfl); exact trivial)
              | rfl)
            exact ⟨(), trivial, Weak.w⟩
          · rw [atP_ge (by omega)]
            have hlt : decide ((f : Int) < s.length) = false := decide_eq_false (by omega)
            repeat (first
              | (apply axJ; (focus ((with_reducible constructor) <;> rfl)))
              | (apply awT mixedOK hΓ (by kernel_rfl); (simp (disch := omega) only [go_sem, ↓reduceIte, dk, ↓lk, Int.reduceBEq, Int.reduceBNe, Bool.true_bne, Bool.false_bne, Bool.not_true, Bool.not_false, hlt] <;> with_reducible rfl))
              | ((first | apply awR hΓ | apply awG | apply awH mixedOK hΓ rfl (by kernel_rfl) | apply ovE rfl); (simp (disch := omega) only [go_sem, ↓reduceIte, dk, ↓lk, Int.reduceBEq, Int.reduceBNe, Bool.true_bne, Bool.false_bne, Bool.not_true, Bool.not_false, hlt] <;> with_reducible rfl); exact trivial)
              | rfl)
            exact ⟨(), trivial, Weak.w⟩
        intro _ _
        cases hc : atP edgeB s f with
        | true =>
          obtain ⟨h1, h2⟩ := dwp_step hc
          repeat (first
            | (apply axJ; (focus ((with_reducible constructor) <;> rfl)))
            | (apply awT mixedOK hΓ (by kernel_rfl); (simp (disch := omega) only [go_sem, ↓reduceIte, dk, ↓lk, Int.reduceBEq, Int.reduceBNe, Bool.true_bne, Bool.false_bne, Bool.not_true, Bool.not_false] <;> with_reducible rfl))
            | ((first | apply awR hΓ | apply awG | apply awH mixedOK hΓ rfl (by kernel_rfl) | apply ovE rfl); (simp (disch := omega) only [go_sem, ↓reduceIte, dk, ↓lk, Int.reduceBEq, Int.reduceBNe, Bool.true_bne, Bool.false_bne, Bool.not_true, Bool.not_false] <;> with_reducible rfl); exact trivial)
            | rfl)
          exact ⟨f + 1, ⟨by omega, by rw [hF, h2]⟩, by omega, Weak.w⟩
        | false =>
          have h2 := dwp_stop hc
          rw [h2] at hF
          repeat (first
            | (apply axJ; (focus ((with_reducible constructor) <;> rfl)))
            | (apply awT mixedOK hΓ (by kernel_rfl); (simp (disch := omega) only [go_sem, ↓reduceIte, dk, ↓lk, Int.reduceBEq, Int.reduceBNe, Bool.true_bne, Bool.false_bne, Bool.not_true, Bool.not_false] <;> with_reducible rfl))
            | ((first | apply awR hΓ | apply awG | apply awH mixedOK hΓ rfl (by kernel_rfl) | apply ovE rfl); (simp (disch := omega) only [go_sem, ↓reduceIte, dk, ↓lk, Int.reduceBEq, Int.reduceBNe, Bool.true_bne, Bool.false_bne, Bool.not_true, Bool.not_false] <;> with_reducible rfl); exact trivial)
            | rfl)
          refine awp_loop_at (X := Nat) (fun e => (frame 106 [(0, .data (.str s)), (2, .ptr 0 0), (5, .data (i64 (0 : Nat))), (7, .data (i64 f)), (8, .data (i64 e))])) (fun _ => [(0, .box [.data (.int .i64 0), .data (.int .i64 0), .data (.str [])])]) 74
            (fun e => f ≤ e ∧ e ≤ s.length ∧ trimE (s.drop (i + k1.length)) = rTrim edgeB ((s.drop f).take (e - f))) (fun e => e) s.length ⟨hf, Nat.le_refl _, by rw [trimE_r, hF, List.take_of_length_le (by simp)]⟩ (Weak.w) ?_
          rintro e ⟨he1, he2, hE⟩
          refine awA ?_
          refine awA ?_
          refine awp_mid (fun _ : Unit => (frame 106 [(0, .data (.str s)), (2, .ptr 0 0), (5, .data (i64 (0 : Nat))), (7, .data (i64 f)), (8, .data (i64 e)), (91, .data (.bool (decide (f < e) && atP edgeB s (e - 1))))])) (fun _ => [(0, .box [.data (.int .i64 0), .data (.int .i64 0), .data (.str [])])]) 84 (fun _ => True) ?_ ?_
          · by_cases hb : f < e
            · rw [decide_eq_true hb, Bool.true_and, atP_lt (show e - 1 < s.length by omega)]
              have ee := g_edgeR_eq (b := s[e - 1]) trivial
              have hn : (e : Int) - 1 = ((e - 1 : Nat) : Int) := by omega
              generalize hy : s[e - 1] = y at *
              generalize edgeB y = c at *
              have hlt : decide ((f : Int) < e) = true := decide_eq_true (by omega)
              repeat (first
                | (apply axJ; (focus ((with_reducible constructor) <;> rfl)))
                | (apply awT mixedOK hΓ (by kernel_rfl); (simp (disch := omega) only [go_sem, ↓reduceIte, dk, ↓lk, Int.reduceBEq, Int.reduceBNe, Bool.true_bne, Bool.false_bne, Bool.not_true, Bool.not_false, hn, hy, hlt, ee] <;> with_reducible rfl))
                | ((first | apply awR hΓ | apply awG | apply awH mixedOK hΓ rfl (by kernel_rfl) | apply ovE rfl); (simp (disch := omega) only [go_sem, ↓reduceIte, dk, ↓lk, Int.reduceBEq, Int.reduceBNe, Bool.true_bne, Bool.false_bne, Bool.not_true, Bool.not_false, hn, hy, hlt, ee] <;> with_reducible rfl); exact trivial)
                | rfl)
              exact ⟨(), trivial, Weak.w⟩
            · rw [decide_eq_false hb, Bool.false_and]
              have hlt : decide ((f : Int) < e) = false := decide_eq_false (by omega)
              repeat (first
                | (apply axJ; (focus ((with_reducible constructor) <;> rfl)))
                | (apply awT mixedOK hΓ (by kernel_rfl); (simp (disch := omega) only [go_sem, ↓reduceIte, dk, ↓lk, Int.reduceBEq, Int.reduceBNe, Bool.true_bne, Bool.false_bne, Bool.not_true, Bool.not_false, hlt] <;> with_reducible rfl))
                | ((first | apply awR hΓ | apply awG | apply awH mixedOK hΓ rfl (by kernel_rfl) | apply ovE rfl); (simp (disch := omega) only [go_sem, ↓reduceIte, dk, ↓lk, Int.reduceBEq, Int.reduceBNe, Bool.true_bne, Bool.false_bne, Bool.not_true, Bool.not_false, hlt] <;> with_reducible rfl); exact trivial)
                | rfl)
              exact ⟨(), trivial, Weak.w⟩
          intro _ _
          cases hc2 : (decide (f < e) && atP edgeB s (e - 1)) with
          | true =>
            obtain ⟨h3, h4⟩ := rt_step he2 hc2
            have hn : (e : Int) - 1 = ((e - 1 : Nat) : Int) := by omega
            repeat (first
              | (apply axJ; (focus ((with_reducible constructor) <;> rfl)))
              | (apply awT mixedOK hΓ (by kernel_rfl); (simp (disch := omega) only [go_sem, ↓reduceIte, dk, ↓lk, Int.reduceBEq, Int.reduceBNe, Bool.true_bne, Bool.false_bne, Bool.not_true, Bool.not_false, hn] <;> with_reducible rfl))
              | ((first | apply awR hΓ | apply awG | apply awH mixedOK hΓ rfl (by kernel_rfl) | apply ovE rfl); (simp (disch := omega) only [go_sem, ↓reduceIte, dk, ↓lk, Int.reduceBEq, Int.reduceBNe, Bool.true_bne, Bool.false_bne, Bool.not_true, Bool.not_false, hn] <;> with_reducible rfl); exact trivial)
              | rfl)
            exact ⟨e - 1, ⟨by omega, by omega, by rw [hE, h4]⟩, by omega, Weak.w⟩
          | false =>
            have h4 := rt_stop he1 he2 hc2
            rw [h4] at hE
            rw [hE]
            have ex := g_textR36_eq (s := (s.drop f).take (e - f)) (by rw [List.length_take]; omega)
            generalize isT ((s.drop f).take (e - f)) = z at *
            (repeat (first | (apply axJ; (focus ((with_reducible constructor) <;> rfl))) | ((first | apply awR hΓ | apply awG | apply ovE rfl); (simp (disch := omega) only [go_sem, ↓reduceIte, dk, ↓lk, Int.reduceBEq, Int.reduceBNe, Bool.true_bne, Bool.false_bne, Bool.not_true, Bool.not_false] <;> with_reducible rfl); exact trivial) | rfl))
            (apply awp_regm (nst := false) (nst' := false) 11 mixedOK hΓ (by kernel_rfl); (simp (disch := omega) only [go_sem, ↓reduceIte, dk, ↓lk, ↓ty_build26, Int.reduceBEq, Int.reduceBNe, Bool.true_bne, Bool.false_bne, Bool.not_true, Bool.not_false, ex, look_upd] <;> with_reducible rfl); (simp (disch := omega) only [go_sem, ↓reduceIte] <;> with_reducible rfl); (focus rfl); (focus rfl); (simp (disch := omega) only [go_sem, ↓reduceIte, dk, ↓lk, ↓ty_build26, Int.reduceBEq, Int.reduceBNe, Bool.true_bne, Bool.false_bne, Bool.not_true, Bool.not_false, ex, look_upd] <;> with_reducible rfl); (focus (first | (simp (disch := omega) only [go_sem, ↓reduceIte, dk, ↓lk, ↓ty_build26, Int.reduceBEq, Int.reduceBNe, Bool.true_bne, Bool.false_bne, Bool.not_true, Bool.not_false, ex, look_upd]; done) | (simp (disch := omega) only [go_sem, ↓reduceIte, dk, ↓lk, ↓ty_build26, Int.reduceBEq, Int.reduceBNe, Bool.true_bne, Bool.false_bne, Bool.not_true, Bool.not_false, ex, look_upd]; omega))); (focus (dsimp only [List.take_succ_cons, List.take_zero]; (repeat (apply same2_cons; (focus (first | (left; decide) | (right; simp (disch := omega) only [go_sem, ↓reduceIte, dk, ↓lk, ↓ty_build26, Int.reduceBEq, Int.reduceBNe, Bool.true_bne, Bool.false_bne, Bool.not_true, Bool.not_false, ex, look_upd]; done))); (simp (disch := omega) only [go_sem, ↓reduceIte, dk, ↓lk, ↓ty_build26, Int.reduceBEq, Int.reduceBNe, Bool.true_bne, Bool.false_bne, Bool.not_true, Bool.not_false, ex, look_upd] <;> with_reducible rfl))); exact same2_nil)); (simp (disch := omega) only [go_sem, ↓reduceIte, dk, ↓lk, ↓ty_build26, Int.reduceBEq, Int.reduceBNe, Bool.true_bne, Bool.false_bne, Bool.not_true, Bool.not_false, ex, look_upd] <;> with_reducible rfl))
            repeat (first
              | (apply axJ; (focus ((with_reducible constructor) <;> rfl)))
              | (apply awT mixedOK hΓ (by kernel_rfl); (simp (disch := omega) only [go_sem, ↓reduceIte, dk, ↓lk, Int.reduceBEq, Int.reduceBNe, Bool.true_bne, Bool.false_bne, Bool.not_true, Bool.not_false] <;> with_reducible rfl))
              | ((first | apply awR hΓ | apply awG | apply awH mixedOK hΓ rfl (by kernel_rfl) | apply ovE rfl); (simp (disch := omega) only [go_sem, ↓reduceIte, dk, ↓lk, Int.reduceBEq, Int.reduceBNe, Bool.true_bne, Bool.false_bne, Bool.not_true, Bool.not_false] <;> with_reducible rfl); exact trivial)
              | rfl)
            try rfl
    | 1, _, h1, _ =>
      rw [if_neg (by rw [h1 (by omega)]; decide)]
      cases hq : k2.isPrefixOf (s.drop i)
      · by_cases hx : i + k2.length ≤ s.length
        · have hx2 : decide (((i : Int) + (k2.length : Int)) > s.length) = false := decide_eq_false (by omega)
          have hx3 : ((s.drop i).take k2.length == k2) = false := by rw [take_pre]; exact hq
          have hx5 : ((i : Int) + (k2.length : Int)).toNat - i = k2.length := by omega
          repeat (first
            | (apply axJ; (focus ((with_reducible constructor) <;> rfl)))
            | (apply awT mixedOK hΓ (by kernel_rfl); (simp (disch := omega) only [go_sem, ↓reduceIte, dk, ↓lk, Int.reduceBEq, Int.reduceBNe, Bool.true_bne, Bool.false_bne, Bool.not_true, Bool.not_false, Int.reduceToNat, List.getElem?_cons_zero, List.getElem?_cons_succ, ew, hx2, hx3, hx5] <;> with_reducible rfl))
            | ((first | apply awR hΓ | apply awG | apply awH mixedOK hΓ rfl (by kernel_rfl) | apply ovE rfl); (simp (disch := omega) only [go_sem, ↓reduceIte, dk, ↓lk, Int.reduceBEq, Int.reduceBNe, Bool.true_bne, Bool.false_bne, Bool.not_true, Bool.not_false, Int.reduceToNat, List.getElem?_cons_zero, List.getElem?_cons_succ, ew, hx2, hx3, hx5] <;> with_reducible rfl); exact trivial)
            | rfl)
          exact ⟨2, ⟨by omega, fun _ => h1 (by omega), fun _ => (by first | exact hq | rfl)⟩, by omega, Weak.w⟩
        · have hx2 : decide (((i : Int) + (k2.length : Int)) > s.length) = true := decide_eq_true (by omega)
          repeat (first
            | (apply axJ; (focus ((with_reducible constructor) <;> rfl)))
            | (apply awT mixedOK hΓ (by kernel_rfl); (simp (disch := omega) only [go_sem, ↓reduceIte, dk, ↓lk, Int.reduceBEq, Int.reduceBNe, Bool.true_bne, Bool.false_bne, Bool.not_true, Bool.not_false, Int.reduceToNat, List.getElem?_cons_zero, List.getElem?_cons_succ, ew, hx2] <;> with_reducible rfl))
            | ((first | apply awR hΓ | apply awG | apply awH mixedOK hΓ rfl (by kernel_rfl) | apply ovE rfl); (simp (disch := omega) only [go_sem, ↓reduceIte, dk, ↓lk, Int.reduceBEq, Int.reduceBNe, Bool.true_bne, Bool.false_bne, Bool.not_true, Bool.not_false, Int.reduceToNat, List.getElem?_cons_zero, List.getElem?_cons_succ, ew, hx2] <;> with_reducible rfl); exact trivial)
            | rfl)
          exact ⟨2, ⟨by omega, fun _ => h1 (by omega), fun _ => (by first | exact hq | rfl)⟩, by omega, Weak.w⟩
      · have hx1 : i + k2.length ≤ s.length := by
          have := pre_len hq
          rw [List.length_drop] at this
          omega
        have hx2 : decide (((i : Int) + (k2.length : Int)) > s.length) = false := decide_eq_false (by omega)
        have hx3 : ((s.drop i).take k2.length == k2) = true := by rw [take_pre]; exact hq
        have hx5 : ((i : Int) + (k2.length : Int)).toNat - i = k2.length := by omega
        rw [if_pos rfl]
        rw [List.drop_drop]
        repeat (first
          | (apply axJ; (focus ((with_reducible constructor) <;> rfl)))
          | (apply awT mixedOK hΓ (by kernel_rfl); (simp (disch := omega) only [go_sem, ↓reduceIte, dk, ↓lk, Int.reduceBEq, Int.reduceBNe, Bool.true_bne, Bool.false_bne, Bool.not_true, Bool.not_false, Int.reduceToNat, List.getElem?_cons_zero, List.getElem?_cons_succ, ew, hx2, hx3, hx5] <;> with_reducible rfl))
          | ((first | apply awR hΓ | apply awG | apply awH mixedOK hΓ rfl (by kernel_rfl) | apply ovE rfl); (simp (disch := omega) only [go_sem, ↓reduceIte, dk, ↓lk, Int.reduceBEq, Int.reduceBNe, Bool.true_bne, Bool.false_bne, Bool.not_true, Bool.not_false, Int.reduceToNat, List.getElem?_cons_zero, List.getElem?_cons_succ, ew, hx2, hx3, hx5] <;> with_reducible rfl); exact trivial)
          | rfl)
        refine awp_loop_at (X := Nat) (fun f => (frame 106 [(0, .data (.str s)), (2, .ptr 0 0), (5, .data (i64 (1 : Nat))), (7, .data (i64 f)), (8, .data (i64 s.length))])) (fun _ => [(0, .box [.data (.int .i64 0), .data (.int .i64 0), .data (.str [])])]) 65
          (fun f => f ≤ s.length ∧ (s.drop (i + k2.length)).dropWhile edgeB = (s.drop f).dropWhile edgeB) (fun f => s.length - f) (i + k2.length) ⟨hx1, rfl⟩ (Weak.v (by (simp [ConvF, lookV, Conv, ints, Int.natCast_add]; done)) (by (simp (disch := omega) only [TabSub, look, if_pos, if_neg, Obj.refsOK, refsOKs, AV.refsOK, decide_eq_true_eq, Bool.and_true, Bool.and_self, Int.natCast_add] ) <;> ((repeat' apply And.intro) <;> first | exact True.intro | omega | (simp; done) | rfl))) ?_
        rintro f ⟨hf, hF⟩
        refine awA ?_
        refine awA ?_
        refine awp_mid (fun _ : Unit => (frame 106 [(0, .data (.str s)), (2, .ptr 0 0), (5, .data (i64 (1 : Nat))), (7, .data (i64 f)), (8, .data (i64 s.length)), (79, .data (.bool (atP edgeB s f)))])) (fun _ => [(0, .box [.data (.int .i64 0), .data (.int .i64 0), .data (.str [])])]) 74 (fun _ => True) ?_ ?_
        · by_cases hb : f < s.length
          · rw [atP_lt hb]
            have ee := g_edgeR_eq (b := s[f]) trivial
            generalize hy : s[f] = y at *
            generalize edgeB y = c at *
            have hlt : decide ((f : Int) < s.length) = true := decide_eq_true (by omega)
            repeat (first
              | (apply axJ; (focus ((with_reducible constructor) <;> rfl)))
              | (apply awT mixedOK hΓ (by kernel_rfl); (simp (disch := omega) only [go_sem, ↓reduceIte, dk, ↓lk, Int.reduceBEq, Int.reduceBNe, Bool.true_bne, Bool.false_bne, Bool.not_true, Bool.not_false, hy, hlt, ee] <;> with_reducible rfl))
              | ((first | apply awR hΓ | apply awG | apply awH mixedOK hΓ rfl (by kernel_rfl) | apply ovE rfl); (simp (disch := omega) only [go_sem, ↓reduceIte, dk, ↓lk, Int.reduceBEq, Int.reduceBNe, Bool.true_bne, Bool.false_bne, Bool.not_true, Bool.not_false, hy, hlt, ee] <;> with_reducible rfl); exact trivial)
              | rfl)
            exact ⟨(), trivial, Weak.w⟩
          · rw [atP_ge (by omega)]
            have hlt : decide ((f : Int) < s.length) = false := decide_eq_false (by omega)
            repeat (first
              | (apply axJ; (focus ((with_reducible constructor) <;> rfl)))
              | (apply awT mixedOK hΓ (by kernel_rfl); (simp (disch := omega) only [go_sem, ↓reduceIte, dk, ↓lk, Int.reduceBEq, Int.reduceBNe, Bool.true_bne, Bool.false_bne, Bool.not_true, Bool.not_false, hlt] <;> with_reducible rfl))
              | ((first | apply awR hΓ | apply awG | apply awH mixedOK hΓ rfl (by kernel_rfl) | apply ovE rfl); (simp (disch := omega) only [go_sem, ↓reduceIte, dk, ↓lk, Int.reduceBEq, Int.reduceBNe, Bool.true_bne, Bool.false_bne, Bool.not_true, Bool.not_false, hlt] <;> with_reducible rfl); exact trivial)
              | rfl)
            exact ⟨(), trivial, Weak.w⟩
        intro _ _
        cases hc : atP edgeB s f with
        | true =>
          obtain ⟨h1, h2⟩ := dwp_step hc
          repeat (first
            | (apply axJ; (focus ((with_reducible constructor) <;> rfl)))
            | (apply awT mixedOK hΓ (by kernel_rfl); (simp (disch := omega) only [go_sem, ↓reduceIte, dk, ↓lk, Int.reduceBEq, Int.reduceBNe, Bool.true_bne, Bool.false_bne, Bool.not_true, Bool.not_false] <;> with_reducible rfl))
            | ((first | apply awR hΓ | apply awG | apply awH mixedOK hΓ rfl (by kernel_rfl) | apply ovE rfl); (simp (disch := omega) only [go_sem, ↓reduceIte, dk, ↓lk, Int.reduceBEq, Int.reduceBNe, Bool.true_bne, Bool.false_bne, Bool.not_true, Bool.not_false] <;> with_reducible rfl); exact trivial)
            | rfl)
          exact ⟨f + 1, ⟨by omega, by rw [hF, h2]⟩, by omega, Weak.w⟩
        | false =>
          have h2 := dwp_stop hc
          rw [h2] at hF
          repeat (first
            | (apply axJ; (focus ((with_reducible constructor) <;> rfl)))
            | (apply awT mixedOK hΓ (by kernel_rfl); (simp (disch := omega) only [go_sem, ↓reduceIte, dk, ↓lk, Int.reduceBEq, Int.reduceBNe, Bool.true_bne, Bool.false_bne, Bool.not_true, Bool.not_false] <;> with_reducible rfl))
            | ((first | apply awR hΓ | apply awG | apply awH mixedOK hΓ rfl (by kernel_rfl) | apply ovE rfl); (simp (disch := omega) only [go_sem, ↓reduceIte, dk, ↓lk, Int.reduceBEq, Int.reduceBNe, Bool.true_bne, Bool.false_bne, Bool.not_true, Bool.not_false] <;> with_reducible rfl); exact trivial)
            | rfl)
          refine awp_loop_at (X := Nat) (fun e => (frame 106 [(0, .data (.str s)), (2, .ptr 0 0), (5, .data (i64 (1 : Nat))), (7, .data (i64 f)), (8, .data (i64 e))])) (fun _ => [(0, .box [.data (.int .i64 0), .data (.int .i64 0), .data (.str [])])]) 74
            (fun e => f ≤ e ∧ e ≤ s.length ∧ trimE (s.drop (i + k2.length)) = rTrim edgeB ((s.drop f).take (e - f))) (fun e => e) s.length ⟨hf, Nat.le_refl _, by rw [trimE_r, hF, List.take_of_length_le (by simp)]⟩ (Weak.w) ?_
          rintro e ⟨he1, he2, hE⟩
          refine awA ?_
          refine awA ?_
          refine awp_mid (fun _ : Unit => (frame 106 [(0, .data (.str s)), (2, .ptr 0 0), (5, .data (i64 (1 : Nat))), (7, .data (i64 f)), (8, .data (i64 e)), (91, .data (.bool (decide (f < e) && atP edgeB s (e - 1))))])) (fun _ => [(0, .box [.data (.int .i64 0), .data (.int .i64 0), .data (.str [])])]) 84 (fun _ => True) ?_ ?_
          · by_cases hb : f < e
            · rw [decide_eq_true hb, Bool.true_and, atP_lt (show e - 1 < s.length by omega)]
              have ee := g_edgeR_eq (b := s[e - 1]) trivial
              have hn : (e : Int) - 1 = ((e - 1 : Nat) : Int) := by omega
              generalize hy : s[e - 1] = y at *
              generalize edgeB y = c at *
              have hlt : decide ((f : Int) < e) = true := decide_eq_true (by omega)
              repeat (first
                | (apply axJ; (focus ((with_reducible constructor) <;> rfl)))
                | (apply awT mixedOK hΓ (by kernel_rfl); (simp (disch := omega) only [go_sem, ↓reduceIte, dk, ↓lk, Int.reduceBEq, Int.reduceBNe, Bool.true_bne, Bool.false_bne, Bool.not_true, Bool.not_false, hn, hy, hlt, ee] <;> with_reducible rfl))
                | ((first | apply awR hΓ | apply awG | apply awH mixedOK hΓ rfl (by kernel_rfl) | apply ovE rfl); (simp (disch := omega) only [go_sem, ↓reduceIte, dk, ↓lk, Int.reduceBEq, Int.reduceBNe, Bool.true_bne, Bool.false_bne, Bool.not_true, Bool.not_false, hn, hy, hlt, ee] <;> with_reducible rfl); exact trivial)
                | rfl)
              exact ⟨(), trivial, Weak.w⟩
            · rw [decide_eq_false hb, Bool.false_and]
              have hlt : decide ((f : Int) < e) = false := decide_eq_false (by omega)
              repeat (first
                | (apply axJ; (focus ((with_reducible constructor) <;> rfl)))
                | (apply awT mixedOK hΓ (by kernel_rfl); (simp (disch := omega) only [go_sem, ↓reduceIte, dk, ↓lk, Int.reduceBEq, Int.reduceBNe, Bool.true_bne, Bool.false_bne, Bool.not_true, Bool.not_false, hlt] <;> with_reducible rfl))
                | ((first | apply awR hΓ | apply awG | apply awH mixedOK hΓ rfl (by kernel_rfl) | apply ovE rfl); (simp (disch := omega) only [go_sem, ↓reduceIte, dk, ↓lk, Int.reduceBEq, Int.reduceBNe, Bool.true_bne, Bool.false_bne, Bool.not_true, Bool.not_false, hlt] <;> with_reducible rfl); exact trivial)
                | rfl)
              exact ⟨(), trivial, Weak.w⟩
          intro _ _
          cases hc2 : (decide (f < e) && atP edgeB s (e - 1)) with
          | true =>
            obtain ⟨h3, h4⟩ := rt_step he2 hc2
            have hn : (e : Int) - 1 = ((e - 1 : Nat) : Int) := by omega
            repeat (first
              | (apply axJ; (focus ((with_reducible constructor) <;> rfl)))
              | (apply awT mixedOK hΓ (by kernel_rfl); (simp (disch := omega) only [go_sem, ↓reduceIte, dk, ↓lk, Int.reduceBEq, Int.reduceBNe, Bool.true_bne, Bool.false_bne, Bool.not_true, Bool.not_false, hn] <;> with_reducible rfl))
              | ((first | apply awR hΓ | apply awG | apply awH mixedOK hΓ rfl (by kernel_rfl) | apply ovE rfl); (simp (disch := omega) only [go_sem, ↓reduceIte, dk, ↓lk, Int.reduceBEq, Int.reduceBNe, Bool.true_bne, Bool.false_bne, Bool.not_true, Bool.not_false, hn] <;> with_reducible rfl); exact trivial)
              | rfl)
            exact ⟨e - 1, ⟨by omega, by omega, by rw [hE, h4]⟩, by omega, Weak.w⟩
          | false =>
            have h4 := rt_stop he1 he2 hc2
            rw [h4] at hE
            rw [hE]
            have ex := g_textR36_eq (s := (s.drop f).take (e - f)) (by rw [List.length_take]; omega)
            generalize isT ((s.drop f).take (e - f)) = z at *
            (repeat (first | (apply axJ; (focus ((with_reducible constructor) <;> rfl))) | ((first | apply awR hΓ | apply awG | apply ovE rfl); (simp (disch := omega) only [go_sem, ↓reduceIte, dk, ↓lk, Int.reduceBEq, Int.reduceBNe, Bool.true_bne, Bool.false_bne, Bool.not_true, Bool.not_false] <;> with_reducible rfl); exact trivial) | rfl))
            (apply awp_regm (nst := false) (nst' := false) 11 mixedOK hΓ (by kernel_rfl); (simp (disch := omega) only [go_sem, ↓reduceIte, dk, ↓lk, ↓ty_build26, Int.reduceBEq, Int.reduceBNe, Bool.true_bne, Bool.false_bne, Bool.not_true, Bool.not_false, ex, look_upd] <;> with_reducible rfl); (simp (disch := omega) only [go_sem, ↓reduceIte] <;> with_reducible rfl); (focus rfl); (focus rfl); (simp (disch := omega) only [go_sem, ↓reduceIte, dk, ↓lk, ↓ty_build26, Int.reduceBEq, Int.reduceBNe, Bool.true_bne, Bool.false_bne, Bool.not_true, Bool.not_false, ex, look_upd] <;> with_reducible rfl); (focus (first | (simp (disch := omega) only [go_sem, ↓reduceIte, dk, ↓lk, ↓ty_build26, Int.reduceBEq, Int.reduceBNe, Bool.true_bne, Bool.false_bne, Bool.not_true, Bool.not_false, ex, look_upd]; done) | (simp (disch := omega) only [go_sem, ↓reduceIte, dk, ↓lk, ↓ty_build26, Int.reduceBEq, Int.reduceBNe, Bool.true_bne, Bool.false_bne, Bool.not_true, Bool.not_false, ex, look_upd]; omega))); (focus (dsimp only [List.take_succ_cons, List.take_zero]; (repeat (apply same2_cons; (focus (first | (left; decide) | (right; simp (disch := omega) only [go_sem, ↓reduceIte, dk, ↓lk, ↓ty_build26, Int.reduceBEq, Int.reduceBNe, Bool.true_bne, Bool.false_bne, Bool.not_true, Bool.not_false, ex, look_upd]; done))); (simp (disch := omega) only [go_sem, ↓reduceIte, dk, ↓lk, ↓ty_build26, Int.reduceBEq, Int.reduceBNe, Bool.true_bne, Bool.false_bne, Bool.not_true, Bool.not_false, ex, look_upd] <;> with_reducible rfl))); exact same2_nil)); (simp (disch := omega) only [go_sem, ↓reduceIte, dk, ↓lk, ↓ty_build26, Int.reduceBEq, Int.reduceBNe, Bool.true_bne, Bool.false_bne, Bool.not_true, Bool.not_false, ex, look_upd] <;> with_reducible rfl))
            repeat (first
              | (apply axJ; (focus ((with_reducible constructor) <;> rfl)))
              | (apply awT mixedOK hΓ (by kernel_rfl); (simp (disch := omega) only [go_sem, ↓reduceIte, dk, ↓lk, Int.reduceBEq, Int.reduceBNe, Bool.true_bne, Bool.false_bne, Bool.not_true, Bool.not_false] <;> with_reducible rfl))
              | ((first | apply awR hΓ | apply awG | apply awH mixedOK hΓ rfl (by kernel_rfl) | apply ovE rfl); (simp (disch := omega) only [go_sem, ↓reduceIte, dk, ↓lk, Int.reduceBEq, Int.reduceBNe, Bool.true_bne, Bool.false_bne, Bool.not_true, Bool.not_false] <;> with_reducible rfl); exact trivial)
              | rfl)
            try rfl
    | 2, _, h1, h2 =>
      rw [if_neg (by rw [h1 (by omega)]; decide), if_neg (by rw [h2 (by omega)]; decide)]
      repeat (first
        | (apply axJ; (focus ((with_reducible constructor) <;> rfl)))
        | (apply awT mixedOK hΓ (by kernel_rfl); (simp (disch := omega) only [go_sem, ↓reduceIte, dk, ↓lk, ↓ty_build26, Int.reduceBEq, Int.reduceBNe, Bool.true_bne, Bool.false_bne, Bool.not_true, Bool.not_false] <;> with_reducible rfl))
        | ((first | apply awR hΓ | apply awG | apply awH mixedOK hΓ rfl (by kernel_rfl) | apply ovE rfl); (simp (disch := omega) only [go_sem, ↓reduceIte, dk, ↓lk, ↓ty_build26, Int.reduceBEq, Int.reduceBNe, Bool.true_bne, Bool.false_bne, Bool.not_true, Bool.not_false] <;> with_reducible rfl); exact trivial)
        | rfl)
      try rfl
end Go.Ab
