/-
  One text of the proof (own work): contracts of functions of the program, by the abstract machine.
-/
import Derived.Test.YtapnigckcnknoaaGreatDoorX19
import Derived.Test.YtapnigckcnknoaaGreatDoorX27
import Derived.Test.YtapnigckcnknoaaGreatDoorX22
set_option linter.unusedVariables false
set_option linter.unusedSimpArgs false
namespace Go.Ab
open Go Go.RowKit Go.Proofs Go.Shelf
set_option maxRecDepth 10000
set_option maxHeartbeats 16000000
theorem wrapU8 {n : Int} (h : 0 ≤ n) (h' : n < 256) : IntKind.wrap .u8 n = n := by show n % 256 = n; omega
theorem wrapU64 {n : Int} (h : 0 ≤ n) (h' : n < 18446744073709551616) : IntKind.wrap .u64 n = n := by show n % 18446744073709551616 = n; omega
theorem wrapU32 {n : Int} (h : 0 ≤ n) (h' : n < 4294967296) : IntKind.wrap .u32 n = n := by show n % 4294967296 = n; omega
def numRGo : Int → Bool → Bs → Int × Int
  | n, l, [] => if l then (0, 3) else (n, 0)
  | n, l, c :: r => if digI c.toNat then (if decide (10 * n + ((c.toNat : Int) - 48) > 4294967295) then numRGo 4294967296 true r else numRGo (10 * n + ((c.toNat : Int) - 48)) l r) else (0, 4)
theorem numRGo_bad : ∀ (r : Bs) (n : Int) (l : Bool), (∃ c ∈ r, digI c.toNat = false) → numRGo n l r = (0, 4)
  | [], _, _, h => by obtain ⟨c, hc, _⟩ := h; cases hc
  | c :: r, n, l, h => by
    rw [numRGo]
    cases hc : digI c.toNat
    · rfl
    · have h2 : ∃ c ∈ r, digI c.toNat = false := by
        obtain ⟨d, hd, hq⟩ := h
        rcases List.mem_cons.1 hd with rfl | hd
        · rw [hc] at hq; cases hq
        · exact ⟨d, hd, hq⟩
      rw [if_pos rfl, numRGo_bad r _ _ h2, numRGo_bad r _ _ h2]
      split <;> rfl
theorem dig_ge {c : UInt8} (h : digI c.toNat = true) : 48 ≤ (c.toNat : Int) ∧ (c.toNat : Int) ≤ 57 := by
  unfold digI at h
  simp only [Bool.and_eq_true, decide_eq_true_eq] at h
  exact h
theorem numRGo_large : ∀ (r : Bs), (∀ c ∈ r, digI c.toNat = true) → numRGo 4294967296 true r = (0, 3)
  | [], _ => rfl
  | c :: r, h => by
    have := dig_ge (h c (by simp))
    rw [numRGo, h c (by simp), if_pos rfl, if_pos (by simp only [decide_eq_true_eq]; omega)]
    exact numRGo_large r fun x hx => h x (by simp [hx])
theorem numRGo_ok : ∀ (r : Bs) (n : Int), (∀ c ∈ r, digI c.toNat = true) → numRGo n false r = numGo n r
  | [], _, _ => rfl
  | c :: r, n, h => by
    rw [numRGo, h c (by simp), if_pos rfl, numGo]
    split
    · exact numRGo_large r fun x hx => h x (by simp [hx])
    · exact numRGo_ok r _ fun x hx => h x (by simp [hx])
theorem numR_eq (s : Bs) : (if s == [] || (decide ((s.length : Int) > 1) && s.headD 0 == 48) then ((0, 4) : Int × Int) else numRGo 0 false s) = numE s := by
  unfold numE
  by_cases hr : runI s false = s.length
  · have hd : ∀ c ∈ s, digI c.toNat = true := fun c hc => by
      have := (runI_all s false).1 hr
      rw [List.any_eq_false] at this
      have := this c hc
      unfold runQ at this
      simp only [Bool.false_and, Bool.not_false, Bool.and_true, Bool.not_eq_true, Bool.not_eq_false'] at this
      exact this
    rw [decide_eq_true hr, numRGo_ok s 0 hd]
    simp
  · have hb : ∃ c ∈ s, digI c.toNat = false := by
      have h1 : s.any (fun b => runQ false b.toNat) = true := by
        cases h2 : s.any (fun b => runQ false b.toNat) with
        | true => rfl
        | false => exact absurd ((runI_all s false).2 h2) hr
      rw [List.any_eq_true] at h1
      obtain ⟨c, hc, hq⟩ := h1
      refine ⟨c, hc, ?_⟩
      unfold runQ at hq
      simpa using hq
    rw [decide_eq_false hr, numRGo_bad s 0 false hb]
    simp
theorem numE_bd (s : Bs) : 0 ≤ (numE s).1 ∧ (numE s).1 ≤ 4294967295 := by
  have h : ∀ (r : Bs) (n : Int), 0 ≤ n → n ≤ 4294967295 → (∀ c ∈ r, digI c.toNat = true) → 0 ≤ (numGo n r).1 ∧ (numGo n r).1 ≤ 4294967295 := by
    intro r
    induction r with
    | nil => intro n h1 h2 _; exact ⟨h1, h2⟩
    | cons c r ih =>
      intro n h1 h2 h3
      have := dig_ge (h3 c (by simp))
      rw [numGo]
      split
      · exact ⟨by decide, by decide⟩
      · rename_i hq
        simp only [decide_eq_true_eq] at hq
        exact ih _ (by omega) (by omega) fun x hx => h3 x (by simp [hx])
  rw [← numR_eq]
  split
  · exact ⟨by decide, by decide⟩
  · by_cases hd : ∀ c ∈ s, digI c.toNat = true
    · rw [numRGo_ok s 0 hd]
      exact h s 0 (by decide) (by decide) hd
    · have : ∃ c ∈ s, digI c.toNat = false := by
        simp only [Classical.not_forall] at hd
        obtain ⟨c, hc, hq⟩ := hd
        exact ⟨c, hc, by simpa using hq⟩
      rw [numRGo_bad s 0 false this]
      exact ⟨by decide, by decide⟩
noncomputable def g_numR5 : List D → Option D := encSpec (fun x : Bs => [.str x]) (fun x : Bs => x.length ≤ 1099511627776) (fun x : Bs => .tup [.int .u32 (numE x).1, i64 (numE x).2])
theorem g_numR5_eq {s : Bs} (hd : s.length ≤ 1099511627776) : g_numR5 [.str s] = some (.tup [.int .u32 (numE s).1, i64 (numE s).2]) := encSpec_eq (x := s) hd fun y hy => by
    simp only [List.cons.injEq, and_true, true_and, D.str.injEq, D.int.injEq, D.list.injEq, D.bool.injEq, D.agg.injEq, D.clo.injEq, Int.natCast_inj, inj_ie, D.ref.injEq, eTk_ie, eTk_e] at hy
    rw [hy]
theorem f_numR5_ok : PureOK Tryz.prog 77 true g_numR5 := by
  have hΓ := Γp f_digR_ok (Γn)
  refine pure_enc (n := 43) (rs := [.tmp 2, .tmp 3]) Tryz.func77 (by kernel_rfl) rfl (by kernel_rfl) (by kernel_rfl) ?_
  rintro s hd
  (try dsimp only at hd ⊢)
  refine ⟨fun _ => by (refine .tup _ (fun d hd => ?_); simp only [List.mem_cons, List.not_mem_nil, or_false] at hd; repeat (first | exact .int _ _ | exact .bool _ | exact .str _ | (rcases hd with rfl | hd) | subst hd | (refine .agg _ (fun d hd => ?_); simp only [List.mem_cons, List.not_mem_nil, or_false] at hd))), fun k hz0 => ?_⟩
  rw [← numR_eq]
  have hbd := numE_bd s
  rw [← numR_eq] at hbd
  rcases hs : s with _ | ⟨c, r⟩
  · rw [start_frame (by simp)]; simp only [enumV, go_sem, emptyH]
    repeat (first
      | (apply axJ; (focus ((with_reducible constructor) <;> rfl)))
      | (apply awT mixedOK hΓ (by kernel_rfl); (simp (disch := omega) only [go_sem, ↓reduceIte, dk, ↓lk, Int.reduceBEq, Int.reduceBNe, Bool.true_bne, Bool.false_bne, Bool.not_true, Bool.not_false] <;> with_reducible rfl))
      | ((first | apply awR hΓ | apply awG | apply awH mixedOK hΓ rfl (by kernel_rfl) | apply ovE rfl); (simp (disch := omega) only [go_sem, ↓reduceIte, dk, ↓lk, Int.reduceBEq, Int.reduceBNe, Bool.true_bne, Bool.false_bne, Bool.not_true, Bool.not_false] <;> with_reducible rfl); exact trivial)
      | rfl)
    try rfl
  have hne : (s == []) = false := by rw [hs]; rfl
  have hhd : s.headD 0 = c := by rw [hs]; rfl
  have hb0 : ∀ h : 0 < s.length, s[0]'h = c := fun h => by subst hs; rfl
  have hlen : 0 < s.length := by rw [hs]; simp
  rw [← hs]
  rw [hne, hhd, Bool.false_or] at hbd ⊢
  clear hs
  have hb : (((c.toNat : Nat) : Int) == 48) = (c == 48) := byteEq c 48
  rw [start_frame (by simp)]; simp only [enumV, go_sem, emptyH]
  cases k1 : decide ((s.length : Int) > 1)
  · rw [k1] at hbd
    simp only [Bool.false_eq_true, Bool.false_and, if_false] at hbd ⊢
    repeat (first
      | (apply axJ; (focus ((with_reducible constructor) <;> rfl)))
      | (apply awT mixedOK hΓ (by kernel_rfl); (simp (disch := omega) only [go_sem, ↓reduceIte, dk, ↓lk, Int.reduceBEq, Int.reduceBNe, Bool.true_bne, Bool.false_bne, Bool.not_true, Bool.not_false, Int.reduceToNat, hne, k1, hb0, hb] <;> with_reducible rfl))
      | ((first | apply awR hΓ | apply awG | apply awH mixedOK hΓ rfl (by kernel_rfl) | apply ovE rfl); (simp (disch := omega) only [go_sem, ↓reduceIte, dk, ↓lk, Int.reduceBEq, Int.reduceBNe, Bool.true_bne, Bool.false_bne, Bool.not_true, Bool.not_false, Int.reduceToNat, hne, k1, hb0, hb] <;> with_reducible rfl); exact trivial)
      | rfl)
    refine awp_loop_at (X := Nat × Int × Bool) (fun y => (frame 43 [(0, .data (.str s)), (4, .data (.int .u64 y.2.1)), (5, .data (.bool y.2.2)), (6, .data (i64 y.1))])) (fun _ => []) 6
      (fun y => y.1 ≤ s.length ∧ numRGo 0 false s = numRGo y.2.1 y.2.2 (s.drop y.1) ∧ 0 ≤ y.2.1 ∧ y.2.1 ≤ 4294967296 ∧ (y.2.2 = false → y.2.1 ≤ 4294967295)) (fun y => s.length - y.1) (0, 0, false) ⟨Nat.zero_le _, rfl, by decide, by decide, fun _ => by decide⟩ (Weak.w) ?_
    rintro ⟨i, n, l⟩ ⟨hi, hpre, hn1, hn2, hn3⟩
    (try dsimp only at hi hpre hn1 hn2 hn3 ⊢)
    by_cases hi2 : i < s.length
    · have hdr := List.drop_eq_getElem_cons hi2
      have e1 := g_digR_eq (c := (s[i].toNat : Int)) trivial
      have hge : digI (s[i].toNat : Int) = true → _ := fun h => dig_ge h
      rw [hdr, numRGo] at hpre
      generalize hy : s[i] = y at *
      cases hq : digI (y.toNat : Int)
      · rw [hq] at hpre e1
        simp only [Bool.false_eq_true, if_false] at hpre
        rw [hpre]
        repeat (first
          | (apply axJ; (focus ((with_reducible constructor) <;> rfl)))
          | (apply awT mixedOK hΓ (by kernel_rfl); (simp (disch := omega) only [go_sem, ↓reduceIte, dk, ↓lk, Int.reduceBEq, Int.reduceBNe, Bool.true_bne, Bool.false_bne, Bool.not_true, Bool.not_false, hy, e1] <;> with_reducible rfl))
          | ((first | apply awR hΓ | apply awG | apply awH mixedOK hΓ rfl (by kernel_rfl) | apply ovE rfl); (simp (disch := omega) only [go_sem, ↓reduceIte, dk, ↓lk, Int.reduceBEq, Int.reduceBNe, Bool.true_bne, Bool.false_bne, Bool.not_true, Bool.not_false, hy, e1] <;> with_reducible rfl); exact trivial)
          | rfl)
        try rfl
      · rw [hq] at hpre e1
        obtain ⟨g1, g2⟩ := hge hq
        have w1 := wrapU8 (n := (y.toNat : Int) - 48) (by omega) (by omega)
        have w2 := wrapU64 (n := (y.toNat : Int) - 48) (by omega) (by omega)
        have w3 := wrapU64 (n := 10 * n) (by omega) (by omega)
        have w4 := wrapU64 (n := 10 * n + ((y.toNat : Int) - 48)) (by omega) (by omega)
        simp only [if_true] at hpre
        cases hg : decide (10 * n + ((y.toNat : Int) - 48) > 4294967295)
        · rw [hg] at hpre
          simp only [Bool.false_eq_true, if_false] at hpre
          have hg2 := of_decide_eq_false hg
          repeat (first
            | (apply axJ; (focus ((with_reducible constructor) <;> rfl)))
            | (apply awT mixedOK hΓ (by kernel_rfl); (simp (disch := omega) only [go_sem, ↓reduceIte, dk, ↓lk, Int.reduceBEq, Int.reduceBNe, Bool.true_bne, Bool.false_bne, Bool.not_true, Bool.not_false, hy, e1, w1, w2, w3, w4, hg] <;> with_reducible rfl))
            | ((first | apply awR hΓ | apply awG | apply awH mixedOK hΓ rfl (by kernel_rfl) | apply ovE rfl); (simp (disch := omega) only [go_sem, ↓reduceIte, dk, ↓lk, Int.reduceBEq, Int.reduceBNe, Bool.true_bne, Bool.false_bne, Bool.not_true, Bool.not_false, hy, e1, w1, w2, w3, w4, hg] <;> with_reducible rfl); exact trivial)
            | rfl)
          exact ⟨(i + 1, 10 * n + ((y.toNat : Int) - 48), l), ⟨by dsimp only; omega, hpre, by dsimp only; omega, by dsimp only; omega, fun _ => by dsimp only; omega⟩, by dsimp only; omega, Weak.w⟩
        · rw [hg] at hpre
          simp only [if_true] at hpre
          repeat (first
            | (apply axJ; (focus ((with_reducible constructor) <;> rfl)))
            | (apply awT mixedOK hΓ (by kernel_rfl); (simp (disch := omega) only [go_sem, ↓reduceIte, dk, ↓lk, Int.reduceBEq, Int.reduceBNe, Bool.true_bne, Bool.false_bne, Bool.not_true, Bool.not_false, hy, e1, w1, w2, w3, w4, hg] <;> with_reducible rfl))
            | ((first | apply awR hΓ | apply awG | apply awH mixedOK hΓ rfl (by kernel_rfl) | apply ovE rfl); (simp (disch := omega) only [go_sem, ↓reduceIte, dk, ↓lk, Int.reduceBEq, Int.reduceBNe, Bool.true_bne, Bool.false_bne, Bool.not_true, Bool.not_false, hy, e1, w1, w2, w3, w4, hg] <;> with_reducible rfl); exact trivial)
            | rfl)
          exact ⟨(i + 1, 4294967296, true), ⟨by dsimp only; omega, hpre, by dsimp only; omega, by dsimp only; omega, fun h => by cases h⟩, by dsimp only; omega, Weak.w⟩
    · have hi3 : i = s.length := by omega
      subst hi3
      rw [List.drop_length, numRGo] at hpre
      cases l
      · simp only [Bool.false_eq_true, if_false] at hpre
        rw [hpre]
        have w1 := wrapU32 (n := n) hn1 (by have := hn3 rfl; omega)
        repeat (first
          | (apply axJ; (focus ((with_reducible constructor) <;> rfl)))
          | (apply awT mixedOK hΓ (by kernel_rfl); (simp (disch := omega) only [go_sem, ↓reduceIte, dk, ↓lk, Int.reduceBEq, Int.reduceBNe, Bool.true_bne, Bool.false_bne, Bool.not_true, Bool.not_false, w1] <;> with_reducible rfl))
          | ((first | apply awR hΓ | apply awG | apply awH mixedOK hΓ rfl (by kernel_rfl) | apply ovE rfl); (simp (disch := omega) only [go_sem, ↓reduceIte, dk, ↓lk, Int.reduceBEq, Int.reduceBNe, Bool.true_bne, Bool.false_bne, Bool.not_true, Bool.not_false, w1] <;> with_reducible rfl); exact trivial)
          | rfl)
        try rfl
      · simp only [if_true] at hpre
        rw [hpre]
        repeat (first
          | (apply axJ; (focus ((with_reducible constructor) <;> rfl)))
          | (apply awT mixedOK hΓ (by kernel_rfl); (simp (disch := omega) only [go_sem, ↓reduceIte, dk, ↓lk, Int.reduceBEq, Int.reduceBNe, Bool.true_bne, Bool.false_bne, Bool.not_true, Bool.not_false] <;> with_reducible rfl))
          | ((first | apply awR hΓ | apply awG | apply awH mixedOK hΓ rfl (by kernel_rfl) | apply ovE rfl); (simp (disch := omega) only [go_sem, ↓reduceIte, dk, ↓lk, Int.reduceBEq, Int.reduceBNe, Bool.true_bne, Bool.false_bne, Bool.not_true, Bool.not_false] <;> with_reducible rfl); exact trivial)
          | rfl)
        try rfl
  cases k2 : (c == 48)
  · rw [k1, k2] at hbd
    rw [k2] at hb
    simp only [Bool.false_eq_true, Bool.and_false, if_false] at hbd ⊢
    repeat (first
      | (apply axJ; (focus ((with_reducible constructor) <;> rfl)))
      | (apply awT mixedOK hΓ (by kernel_rfl); (simp (disch := omega) only [go_sem, ↓reduceIte, dk, ↓lk, Int.reduceBEq, Int.reduceBNe, Bool.true_bne, Bool.false_bne, Bool.not_true, Bool.not_false, Int.reduceToNat, hne, k1, hb0, hb] <;> with_reducible rfl))
      | ((first | apply awR hΓ | apply awG | apply awH mixedOK hΓ rfl (by kernel_rfl) | apply ovE rfl); (simp (disch := omega) only [go_sem, ↓reduceIte, dk, ↓lk, Int.reduceBEq, Int.reduceBNe, Bool.true_bne, Bool.false_bne, Bool.not_true, Bool.not_false, Int.reduceToNat, hne, k1, hb0, hb] <;> with_reducible rfl); exact trivial)
      | rfl)
    refine awp_loop_at (X := Nat × Int × Bool) (fun y => (frame 43 [(0, .data (.str s)), (4, .data (.int .u64 y.2.1)), (5, .data (.bool y.2.2)), (6, .data (i64 y.1))])) (fun _ => []) 6
      (fun y => y.1 ≤ s.length ∧ numRGo 0 false s = numRGo y.2.1 y.2.2 (s.drop y.1) ∧ 0 ≤ y.2.1 ∧ y.2.1 ≤ 4294967296 ∧ (y.2.2 = false → y.2.1 ≤ 4294967295)) (fun y => s.length - y.1) (0, 0, false) ⟨Nat.zero_le _, rfl, by decide, by decide, fun _ => by decide⟩ (Weak.w) ?_
    rintro ⟨i, n, l⟩ ⟨hi, hpre, hn1, hn2, hn3⟩
    (try dsimp only at hi hpre hn1 hn2 hn3 ⊢)
    by_cases hi2 : i < s.length
    · have hdr := List.drop_eq_getElem_cons hi2
      have e1 := g_digR_eq (c := (s[i].toNat : Int)) trivial
      have hge : digI (s[i].toNat : Int) = true → _ := fun h => dig_ge h
      rw [hdr, numRGo] at hpre
      generalize hy : s[i] = y at *
      cases hq : digI (y.toNat : Int)
      · rw [hq] at hpre e1
        simp only [Bool.false_eq_true, if_false] at hpre
        rw [hpre]
        repeat (first
          | (apply axJ; (focus ((with_reducible constructor) <;> rfl)))
          | (apply awT mixedOK hΓ (by kernel_rfl); (simp (disch := omega) only [go_sem, ↓reduceIte, dk, ↓lk, Int.reduceBEq, Int.reduceBNe, Bool.true_bne, Bool.false_bne, Bool.not_true, Bool.not_false, hy, e1] <;> with_reducible rfl))
          | ((first | apply awR hΓ | apply awG | apply awH mixedOK hΓ rfl (by kernel_rfl) | apply ovE rfl); (simp (disch := omega) only [go_sem, ↓reduceIte, dk, ↓lk, Int.reduceBEq, Int.reduceBNe, Bool.true_bne, Bool.false_bne, Bool.not_true, Bool.not_false, hy, e1] <;> with_reducible rfl); exact trivial)
          | rfl)
        try rfl
      · rw [hq] at hpre e1
        obtain ⟨g1, g2⟩ := hge hq
        have w1 := wrapU8 (n := (y.toNat : Int) - 48) (by omega) (by omega)
        have w2 := wrapU64 (n := (y.toNat : Int) - 48) (by omega) (by omega)
        have w3 := wrapU64 (n := 10 * n) (by omega) (by omega)
        have w4 := wrapU64 (n := 10 * n + ((y.toNat : Int) - 48)) (by omega) (by omega)
        simp only [if_true] at hpre
        cases hg : decide (10 * n + ((y.toNat : Int) - 48) > 4294967295)
        · rw [hg] at hpre
          simp only [Bool.false_eq_true, if_false] at hpre
          have hg2 := of_decide_eq_false hg
          repeat (first
            | (apply axJ; (focus ((with_reducible constructor) <;> rfl)))
            | (apply awT mixedOK hΓ (by kernel_rfl); (simp (disch := omega) only [go_sem, ↓reduceIte, dk, ↓lk, Int.reduceBEq, Int.reduceBNe, Bool.true_bne, Bool.false_bne, Bool.not_true, Bool.not_false, hy, e1, w1, w2, w3, w4, hg] <;> with_reducible rfl))
            | ((first | apply awR hΓ | apply awG | apply awH mixedOK hΓ rfl (by kernel_rfl) | apply ovE rfl); (simp (disch := omega) only [go_sem, ↓reduceIte, dk, ↓lk, Int.reduceBEq, Int.reduceBNe, Bool.true_bne, Bool.false_bne, Bool.not_true, Bool.not_false, hy, e1, w1, w2, w3, w4, hg] <;> with_reducible rfl); exact trivial)
            | rfl)
          exact ⟨(i + 1, 10 * n + ((y.toNat : Int) - 48), l), ⟨by dsimp only; omega, hpre, by dsimp only; omega, by dsimp only; omega, fun _ => by dsimp only; omega⟩, by dsimp only; omega, Weak.w⟩
        · rw [hg] at hpre
          simp only [if_true] at hpre
          repeat (first
            | (apply axJ; (focus ((with_reducible constructor) <;> rfl)))
            | (apply awT mixedOK hΓ (by kernel_rfl); (simp (disch := omega) only [go_sem, ↓reduceIte, dk, ↓lk, Int.reduceBEq, Int.reduceBNe, Bool.true_bne, Bool.false_bne, Bool.not_true, Bool.not_false, hy, e1, w1, w2, w3, w4, hg] <;> with_reducible rfl))
            | ((first | apply awR hΓ | apply awG | apply awH mixedOK hΓ rfl (by kernel_rfl) | apply ovE rfl); (simp (disch := omega) only [go_sem, ↓reduceIte, dk, ↓lk, Int.reduceBEq, Int.reduceBNe, Bool.true_bne, Bool.false_bne, Bool.not_true, Bool.not_false, hy, e1, w1, w2, w3, w4, hg] <;> with_reducible rfl); exact trivial)
            | rfl)
          exact ⟨(i + 1, 4294967296, true), ⟨by dsimp only; omega, hpre, by dsimp only; omega, by dsimp only; omega, fun h => by cases h⟩, by dsimp only; omega, Weak.w⟩
    · have hi3 : i = s.length := by omega
      subst hi3
      rw [List.drop_length, numRGo] at hpre
      cases l
      · simp only [Bool.false_eq_true, if_false] at hpre
        rw [hpre]
        have w1 := wrapU32 (n := n) hn1 (by have := hn3 rfl; omega)
        repeat (first
          | (apply axJ; (focus ((with_reducible constructor) <;> rfl)))
          | (apply awT mixedOK hΓ (by kernel_rfl); (simp (disch := omega) only [go_sem, ↓reduceIte, dk, ↓lk, Int.reduceBEq, Int.reduceBNe, Bool.true_bne, Bool.false_bne, Bool.not_true, Bool.not_false, w1] <;> with_reducible rfl))
          | ((first | apply awR hΓ | apply awG | apply awH mixedOK hΓ rfl (by kernel_rfl) | apply ovE rfl); (simp (disch := omega) only [go_sem, ↓reduceIte, dk, ↓lk, Int.reduceBEq, Int.reduceBNe, Bool.true_bne, Bool.false_bne, Bool.not_true, Bool.not_false, w1] <;> with_reducible rfl); exact trivial)
          | rfl)
        try rfl
      · simp only [if_true] at hpre
        rw [hpre]
        repeat (first
          | (apply axJ; (focus ((with_reducible constructor) <;> rfl)))
          | (apply awT mixedOK hΓ (by kernel_rfl); (simp (disch := omega) only [go_sem, ↓reduceIte, dk, ↓lk, Int.reduceBEq, Int.reduceBNe, Bool.true_bne, Bool.false_bne, Bool.not_true, Bool.not_false] <;> with_reducible rfl))
          | ((first | apply awR hΓ | apply awG | apply awH mixedOK hΓ rfl (by kernel_rfl) | apply ovE rfl); (simp (disch := omega) only [go_sem, ↓reduceIte, dk, ↓lk, Int.reduceBEq, Int.reduceBNe, Bool.true_bne, Bool.false_bne, Bool.not_true, Bool.not_false] <;> with_reducible rfl); exact trivial)
          | rfl)
        try rfl
  · rw [k2] at hb
    repeat (first
      | (apply axJ; (focus ((with_reducible constructor) <;> rfl)))
      | (apply awT mixedOK hΓ (by kernel_rfl); (simp (disch := omega) only [go_sem, ↓reduceIte, dk, ↓lk, Int.reduceBEq, Int.reduceBNe, Bool.true_bne, Bool.false_bne, Bool.not_true, Bool.not_false, Int.reduceToNat, hne, k1, hb0, hb] <;> with_reducible rfl))
      | ((first | apply awR hΓ | apply awG | apply awH mixedOK hΓ rfl (by kernel_rfl) | apply ovE rfl); (simp (disch := omega) only [go_sem, ↓reduceIte, dk, ↓lk, Int.reduceBEq, Int.reduceBNe, Bool.true_bne, Bool.false_bne, Bool.not_true, Bool.not_false, Int.reduceToNat, hne, k1, hb0, hb] <;> with_reducible rfl); exact trivial)
      | rfl)
    try rfl
end Go.Ab
