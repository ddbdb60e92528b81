/-
  One text of the proof (own work): contracts of functions of the program, by the abstract machine.
-/
import Derived.Test.YtapnigckcnknoaaGreatDoorX12
import Derived.Test.YtapnigckcnknoaaGreatDoorX18
set_option linter.unusedVariables false
set_option linter.unusedSimpArgs false
namespace Go.Ab
open Go Go.RowKit Go.Proofs Go.Shelf
set_option maxRecDepth 10000
set_option maxHeartbeats 16000000
def twos : List Bs := [[124, 124], [38, 38], [61, 61], [33, 61], [60, 61], [62, 61], [60, 60], [62, 62]]
def oneS : List Bs := [[124], [94], [38], [60], [62], [43], [45], [42], [47], [37], [126], [33], [40], [41], [44], [61]]
def symsL : List Bs := [[124, 124], [38, 38], [61, 61], [33, 61], [60, 61], [62, 61], [60, 60], [62, 62], [124], [94], [38], [60], [62], [43], [45], [42], [47], [37], [126], [33], [40], [41], [44], [61]]
def pfx (s x : Bs) : Bool := decide ((s.length : Int) ≥ (x.length : Int)) && s.take x.length == x
theorem find_len {s : Bs} {k : Nat} : ∀ {L : List Bs}, (∀ x ∈ L, x.length = k) → k ≤ s.length → L.find? (pfx s) = if L.contains (s.take k) then some (s.take k) else none
  | [], _, _ => rfl
  | x :: L, h, hk => by
    have hx := h x (by simp)
    rw [List.find?_cons, List.contains_cons, find_len (fun y hy => h y (by simp [hy])) hk]
    have h1 : pfx s x = (s.take k == x) := by
      unfold pfx
      rw [hx, decide_eq_true (by omega), Bool.true_and]
    rw [h1]
    cases h2 : (s.take k == x)
    · simp
    · have : s.take k = x := by simpa using h2
      simp [this]
theorem find_short {s : Bs} {k : Nat} {L : List Bs} (h : ∀ x ∈ L, x.length = k) (hk : s.length < k) : L.find? (pfx s) = none := by
  rw [List.find?_eq_none]
  intro x hx
  unfold pfx
  rw [h x hx, decide_eq_false (by omega)]
  simp
theorem ones_mem : ∀ n : Nat, n < 256 → decide (Lib.indexByte ones (UInt8.ofNat n) ≥ 0) = oneS.contains [UInt8.ofNat n] := by decide
theorem sym_find (s : Bs) : symB s = (symsL.find? (pfx s)).getD [] := by
  have e : symsL = twos ++ oneS := rfl
  have h2 : ∀ x ∈ twos, x.length = 2 := by decide
  have h1 : ∀ x ∈ oneS, x.length = 1 := by decide
  have hT : symT s = (oneS.find? (pfx s)).getD [] := by
    cases s with
    | nil => rw [find_short h1 (by simp)]; rfl
    | cons c r =>
      rw [find_len h1 (by simp), show (c :: r).take 1 = [c] from rfl, symT]
      have := ones_mem c.toNat c.toNat_lt
      rw [UInt8.ofNat_toNat] at this
      rw [this]
      cases oneS.contains [c] <;> rfl
  rw [e, List.find?_append, symB, hT]
  by_cases hl : s.length < 2
  · rw [find_short h2 hl, decide_eq_false (by omega)]
    rfl
  · rw [find_len h2 (by omega), decide_eq_true (by omega), Bool.true_and]
    have hq : symQ (s.take 2) = twos.contains (s.take 2) := by
      unfold symQ twos
      generalize s.take 2 = x
      simp only [List.contains_cons, List.contains_nil, Bool.or_false]
    rw [hq]
    cases twos.contains (s.take 2) <;> rfl
noncomputable def g_symsR : List D → Option D := encSpec (fun x : Unit => []) (fun x : Unit => True) (fun x : Unit => .list (symsL.map .str))
theorem g_symsR_eq  (hd : True) : g_symsR [] = some (.list (symsL.map .str)) := encSpec_eq (x := ()) hd fun y hy => by
    rfl
theorem f_symsR_ok : PureOK Tryz.prog 78 false g_symsR := by
  have hΓ := Γ0_ok
  refine pure_enc (n := 2) (rs := [.tmp 0]) Tryz.func78 (by kernel_rfl) rfl (by kernel_rfl) (by kernel_rfl) ?_
  rintro _ hd
  (try dsimp only at hd ⊢)
  refine ⟨fun h => (by cases h), fun k hz0 => ?_⟩
  rw [start_frame (by simp)]; simp only [enumV, go_sem, emptyH]
  repeat (first
    | (apply axJ; (focus ((with_reducible constructor) <;> rfl)))
    | (apply awT mixedOK hΓ (by kernel_rfl); (simp (disch := omega) only [go_sem, ↓reduceIte, dk, ↓lk] <;> with_reducible rfl))
    | ((first | apply awR hΓ | apply awG | apply awH mixedOK hΓ rfl (by kernel_rfl) | apply ovE rfl); (simp (disch := omega) only [go_sem, ↓reduceIte, dk, ↓lk] <;> with_reducible rfl); exact trivial)
    | rfl)
  try rfl
theorem runN_at {s : Bs} {n : Nat} {nm : Bool} (hn : n ≤ s.length) (h1 : (s.take n).any (fun b => runQ nm b.toNat) = false) (h2 : ∀ h : n < s.length, runQ nm s[n].toNat = true) : runN s nm = n := by
  unfold runN runI
  by_cases hl : n < s.length
  · have := idx_at (p := fun b : UInt8 => runQ nm b.toNat) hl (h2 hl) h1
    rw [this, if_neg (by simp only [decide_eq_true_eq]; omega)]
    omega
  · have e : n = s.length := by omega
    subst e
    rw [List.take_length] at h1
    rw [idx_none (p := fun b : UInt8 => runQ nm b.toNat) h1, if_pos (by decide)]
    omega
noncomputable def g_nextR : List D → Option D := encSpec (fun x : Bs => [.str x]) (fun x : Bs => x.length ≤ 1099511627776 ∧ x ≠ []) (fun x : Bs => eNx (nextB x))
theorem g_nextR_eq {s : Bs} (hd : s.length ≤ 1099511627776 ∧ s ≠ []) : g_nextR [.str s] = some (eNx (nextB s)) := encSpec_eq (x := s) hd fun y hy => by
    simp only [List.cons.injEq, and_true, true_and, D.str.injEq, D.int.injEq, D.list.injEq, D.bool.injEq, D.agg.injEq, D.clo.injEq, Int.natCast_inj, inj_ie, D.ref.injEq, eTk_ie, eTk_e] at hy
    rw [hy]
theorem f_nextR_ok : PureOK Tryz.prog 58 false g_nextR := by
  have hΓ := Γp f_letR_ok (Γp f_digR_ok (Γp f_numR5_ok (Γp f_symsR_ok (Γn))))
  refine pure_enc (n := 102) (rs := [.cell 2 55, .tmp 3]) Tryz.func58 (by kernel_rfl) rfl (by kernel_rfl) (by kernel_rfl) ?_
  rintro s hd
  (try dsimp only at hd ⊢)
  refine ⟨fun h => (by cases h), fun k hz0 => ?_⟩
  obtain ⟨hs, hne⟩ := hd
  have hlen : 0 < s.length := List.length_pos_iff.2 hne
  have hb0 : ∀ h : 0 < s.length, s[0]'h = s.headD 0 := fun h => by cases s with | nil => exact absurd rfl hne | cons c r => rfl
  have e5 := g_letR_eq (c := ((s.headD 0).toNat : Int)) trivial
  have e6 := g_digR_eq (c := ((s.headD 0).toNat : Int)) trivial
  unfold nextB
  rw [start_frame (by simp)]; simp only [enumV, go_sem, emptyH]
  cases k1 : lettI ((s.headD 0).toNat : Int)
  case true =>
    rw [k1] at e5
    simp only [if_true]
    repeat (first
      | (apply axJ; (focus ((with_reducible constructor) <;> rfl)))
      | (apply awT mixedOK hΓ (by kernel_rfl); (simp (disch := omega) only [go_sem, ↓reduceIte, dk, ↓lk, Int.reduceBEq, Int.reduceBNe, Bool.true_bne, Bool.false_bne, Bool.not_true, Bool.not_false, Int.reduceToNat, hb0, e5] <;> with_reducible rfl))
      | ((first | apply awR hΓ | apply awG | apply awH mixedOK hΓ rfl (by kernel_rfl) | apply ovE rfl); (simp (disch := omega) only [go_sem, ↓reduceIte, dk, ↓lk, Int.reduceBEq, Int.reduceBNe, Bool.true_bne, Bool.false_bne, Bool.not_true, Bool.not_false, Int.reduceToNat, hb0, e5] <;> with_reducible rfl); exact trivial)
      | rfl)
    refine awp_loop_at (X := Nat) (fun n => (frame 102 [(0, .data (.str s)), (2, .ptr 0 0), (4, .data (i64 n))])) (fun _ => [(0, .box [.data (i64 0), .data (.str [])])]) 6
      (fun n => n ≤ s.length ∧ (s.take n).any (fun b => runQ true b.toNat) = false) (fun n => s.length - n) 0 ⟨Nat.zero_le _, rfl⟩ (Weak.w) ?_
    rintro n ⟨hn, hpre⟩
    (try dsimp only at hn hpre ⊢)
    by_cases hi : n < s.length
    · have e1 := g_letR_eq (c := (s[n].toNat : Int)) trivial
      have e2 := g_digR_eq (c := (s[n].toNat : Int)) trivial
      have hnx := fun h => any_nx (p := fun b : UInt8 => runQ true b.toNat) hi hpre h
      have hex0 : runQ true s[n].toNat = true → runN s true = n := fun h => runN_at hn hpre fun _ => h
      have hrq : runQ true s[n].toNat = (!digI (s[n].toNat : Int) && !lettI (s[n].toNat : Int)) := by unfold runQ; simp
      (try dsimp only at hnx)
      rw [hrq] at hnx hex0
      generalize hy : s[n] = y at *
      cases ka : lettI (y.toNat : Int)
      · rw [ka] at e1
        cases kb : digI (y.toNat : Int)
        · rw [kb] at e2
          have hex : runN s true = n := hex0 (by rw [ka, kb]; rfl)
          rw [hex]
          cases hc : decide ((n : Int) > 32)
          · simp only [Bool.false_eq_true, if_false]
            repeat (first
              | (apply axJ; (focus ((with_reducible constructor) <;> rfl)))
              | (apply awT mixedOK hΓ (by kernel_rfl); (simp (disch := omega) only [go_sem, ↓reduceIte, dk, ↓lk, Int.reduceBEq, Int.reduceBNe, Bool.true_bne, Bool.false_bne, Bool.not_true, Bool.not_false, ↓ty_build55, Int.reduceToNat, Nat.sub_zero, List.drop_zero, hy, e1, e2, hc] <;> with_reducible rfl))
              | ((first | apply awR hΓ | apply awG | apply awH mixedOK hΓ rfl (by kernel_rfl) | apply ovE rfl); (simp (disch := omega) only [go_sem, ↓reduceIte, dk, ↓lk, Int.reduceBEq, Int.reduceBNe, Bool.true_bne, Bool.false_bne, Bool.not_true, Bool.not_false, ↓ty_build55, Int.reduceToNat, Nat.sub_zero, List.drop_zero, hy, e1, e2, hc] <;> with_reducible rfl); exact trivial)
              | rfl)
            try rfl
          · simp only [if_true]
            repeat (first
              | (apply axJ; (focus ((with_reducible constructor) <;> rfl)))
              | (apply awT mixedOK hΓ (by kernel_rfl); (simp (disch := omega) only [go_sem, ↓reduceIte, dk, ↓lk, Int.reduceBEq, Int.reduceBNe, Bool.true_bne, Bool.false_bne, Bool.not_true, Bool.not_false, ↓ty_build55, Int.reduceToNat, Nat.sub_zero, List.drop_zero, hy, e1, e2, hc] <;> with_reducible rfl))
              | ((first | apply awR hΓ | apply awG | apply awH mixedOK hΓ rfl (by kernel_rfl) | apply ovE rfl); (simp (disch := omega) only [go_sem, ↓reduceIte, dk, ↓lk, Int.reduceBEq, Int.reduceBNe, Bool.true_bne, Bool.false_bne, Bool.not_true, Bool.not_false, ↓ty_build55, Int.reduceToNat, Nat.sub_zero, List.drop_zero, hy, e1, e2, hc] <;> with_reducible rfl); exact trivial)
              | rfl)
            try rfl
        · rw [kb] at e2
          repeat (first
            | (apply axJ; (focus ((with_reducible constructor) <;> rfl)))
            | (apply awT mixedOK hΓ (by kernel_rfl); (simp (disch := omega) only [go_sem, ↓reduceIte, dk, ↓lk, Int.reduceBEq, Int.reduceBNe, Bool.true_bne, Bool.false_bne, Bool.not_true, Bool.not_false, hy, e1, e2] <;> with_reducible rfl))
            | ((first | apply awR hΓ | apply awG | apply awH mixedOK hΓ rfl (by kernel_rfl) | apply ovE rfl); (simp (disch := omega) only [go_sem, ↓reduceIte, dk, ↓lk, Int.reduceBEq, Int.reduceBNe, Bool.true_bne, Bool.false_bne, Bool.not_true, Bool.not_false, hy, e1, e2] <;> with_reducible rfl); exact trivial)
            | rfl)
          exact ⟨n + 1, ⟨by omega, hnx (by rw [ka, kb]; rfl)⟩, by omega, Weak.w⟩
      · rw [ka] at e1
        repeat (first
          | (apply axJ; (focus ((with_reducible constructor) <;> rfl)))
          | (apply awT mixedOK hΓ (by kernel_rfl); (simp (disch := omega) only [go_sem, ↓reduceIte, dk, ↓lk, Int.reduceBEq, Int.reduceBNe, Bool.true_bne, Bool.false_bne, Bool.not_true, Bool.not_false, hy, e1, e2] <;> with_reducible rfl))
          | ((first | apply awR hΓ | apply awG | apply awH mixedOK hΓ rfl (by kernel_rfl) | apply ovE rfl); (simp (disch := omega) only [go_sem, ↓reduceIte, dk, ↓lk, Int.reduceBEq, Int.reduceBNe, Bool.true_bne, Bool.false_bne, Bool.not_true, Bool.not_false, hy, e1, e2] <;> with_reducible rfl); exact trivial)
          | rfl)
        exact ⟨n + 1, ⟨by omega, hnx (by rw [ka]; simp)⟩, by omega, Weak.w⟩
    · have hex : runN s true = n := runN_at hn hpre fun h => absurd h hi
      have hn3 : n = s.length := by omega
      subst hn3
      rw [hex]
      cases hc : decide ((s.length : Int) > 32)
      · simp only [Bool.false_eq_true, if_false]
        repeat (first
          | (apply axJ; (focus ((with_reducible constructor) <;> rfl)))
          | (apply awT mixedOK hΓ (by kernel_rfl); (simp (disch := omega) only [go_sem, ↓reduceIte, dk, ↓lk, Int.reduceBEq, Int.reduceBNe, Bool.true_bne, Bool.false_bne, Bool.not_true, Bool.not_false, ↓ty_build55, Int.reduceToNat, Nat.sub_zero, List.drop_zero, hc] <;> with_reducible rfl))
          | ((first | apply awR hΓ | apply awG | apply awH mixedOK hΓ rfl (by kernel_rfl) | apply ovE rfl); (simp (disch := omega) only [go_sem, ↓reduceIte, dk, ↓lk, Int.reduceBEq, Int.reduceBNe, Bool.true_bne, Bool.false_bne, Bool.not_true, Bool.not_false, ↓ty_build55, Int.reduceToNat, Nat.sub_zero, List.drop_zero, hc] <;> with_reducible rfl); exact trivial)
          | rfl)
        try rfl
      · simp only [if_true]
        repeat (first
          | (apply axJ; (focus ((with_reducible constructor) <;> rfl)))
          | (apply awT mixedOK hΓ (by kernel_rfl); (simp (disch := omega) only [go_sem, ↓reduceIte, dk, ↓lk, Int.reduceBEq, Int.reduceBNe, Bool.true_bne, Bool.false_bne, Bool.not_true, Bool.not_false, ↓ty_build55, Int.reduceToNat, Nat.sub_zero, List.drop_zero, hc] <;> with_reducible rfl))
          | ((first | apply awR hΓ | apply awG | apply awH mixedOK hΓ rfl (by kernel_rfl) | apply ovE rfl); (simp (disch := omega) only [go_sem, ↓reduceIte, dk, ↓lk, Int.reduceBEq, Int.reduceBNe, Bool.true_bne, Bool.false_bne, Bool.not_true, Bool.not_false, ↓ty_build55, Int.reduceToNat, Nat.sub_zero, List.drop_zero, hc] <;> with_reducible rfl); exact trivial)
          | rfl)
        try rfl
  case false =>
    rw [k1] at e5
    simp only [Bool.false_eq_true, if_false]
    cases k2 : digI ((s.headD 0).toNat : Int)
    case true =>
      rw [k2] at e6
      simp only [if_true]
      repeat (first
        | (apply axJ; (focus ((with_reducible constructor) <;> rfl)))
        | (apply awT mixedOK hΓ (by kernel_rfl); (simp (disch := omega) only [go_sem, ↓reduceIte, dk, ↓lk, Int.reduceBEq, Int.reduceBNe, Bool.true_bne, Bool.false_bne, Bool.not_true, Bool.not_false, Int.reduceToNat, hb0, e5, e6] <;> with_reducible rfl))
        | ((first | apply awR hΓ | apply awG | apply awH mixedOK hΓ rfl (by kernel_rfl) | apply ovE rfl); (simp (disch := omega) only [go_sem, ↓reduceIte, dk, ↓lk, Int.reduceBEq, Int.reduceBNe, Bool.true_bne, Bool.false_bne, Bool.not_true, Bool.not_false, Int.reduceToNat, hb0, e5, e6] <;> with_reducible rfl); exact trivial)
        | rfl)
      refine awp_loop_at (X := Nat) (fun n => (frame 102 [(0, .data (.str s)), (2, .ptr 0 0), (5, .data (i64 n))])) (fun _ => [(0, .box [.data (i64 0), .data (.str [])])]) 9
        (fun n => n ≤ s.length ∧ (s.take n).any (fun b => runQ false b.toNat) = false) (fun n => s.length - n) 0 ⟨Nat.zero_le _, rfl⟩ (Weak.w) ?_
      rintro n ⟨hn, hpre⟩
      (try dsimp only at hn hpre ⊢)
      by_cases hi : n < s.length
      · have e2 := g_digR_eq (c := (s[n].toNat : Int)) trivial
        have e7 := g_letR_eq (c := (s[n].toNat : Int)) trivial
        have hnx := fun h => any_nx (p := fun b : UInt8 => runQ false b.toNat) hi hpre h
        have hex0 : runQ false s[n].toNat = true → runN s false = n := fun h => runN_at hn hpre fun _ => h
        have hrq : runQ false s[n].toNat = !digI (s[n].toNat : Int) := by unfold runQ; simp
        have hgd : s.getD n 0 = s[n] := by rw [List.getD_eq_getElem?_getD, List.getElem?_eq_getElem hi]; rfl
        (try dsimp only at hnx)
        rw [hrq] at hnx hex0
        generalize hy : s[n] = y at *
        cases kb : digI (y.toNat : Int)
        · rw [kb] at e2
          have hex : runN s false = n := hex0 (by rw [kb]; rfl)
          rw [hex]
          have e3 := g_numR5_eq (s := s.take n) (by rw [List.length_take]; omega)
          generalize hv : s.take n = v at *
          generalize numE v = q at *
          obtain ⟨q1, q2⟩ := q
          dsimp only at e3 ⊢
          cases hq : (q2 == 0)
          · have hq2 : (q2 != 0) = true := by simpa [bne] using hq
            simp only [Bool.false_eq_true, if_false]
            repeat (first
              | (apply axJ; (focus ((with_reducible constructor) <;> rfl)))
              | (apply awT mixedOK hΓ (by kernel_rfl); (simp (disch := omega) only [go_sem, ↓reduceIte, dk, ↓lk, Int.reduceBEq, Int.reduceBNe, Bool.true_bne, Bool.false_bne, Bool.not_true, Bool.not_false, ↓ty_build55, Int.reduceToNat, Nat.sub_zero, List.drop_zero, hy, e2, hv, e3, hq2] <;> with_reducible rfl))
              | ((first | apply awR hΓ | apply awG | apply awH mixedOK hΓ rfl (by kernel_rfl) | apply ovE rfl); (simp (disch := omega) only [go_sem, ↓reduceIte, dk, ↓lk, Int.reduceBEq, Int.reduceBNe, Bool.true_bne, Bool.false_bne, Bool.not_true, Bool.not_false, ↓ty_build55, Int.reduceToNat, Nat.sub_zero, List.drop_zero, hy, e2, hv, e3, hq2] <;> with_reducible rfl); exact trivial)
              | rfl)
            try rfl
          have hq2 : (q2 != 0) = false := by simpa [bne] using hq
          simp only [if_true]
          rw [hgd, show decide (n < s.length) = true from decide_eq_true hi, Bool.true_and]
          cases kc : lettI (y.toNat : Int)
          · rw [kc] at e7
            simp only [Bool.false_eq_true, if_false]
            repeat (first
              | (apply axJ; (focus ((with_reducible constructor) <;> rfl)))
              | (apply awT mixedOK hΓ (by kernel_rfl); (simp (disch := omega) only [go_sem, ↓reduceIte, dk, ↓lk, Int.reduceBEq, Int.reduceBNe, Bool.true_bne, Bool.false_bne, Bool.not_true, Bool.not_false, ↓ty_build55, Int.reduceToNat, Nat.sub_zero, List.drop_zero, hy, e2, hv, e3, hq2, e7] <;> with_reducible rfl))
              | ((first | apply awR hΓ | apply awG | apply awH mixedOK hΓ rfl (by kernel_rfl) | apply ovE rfl); (simp (disch := omega) only [go_sem, ↓reduceIte, dk, ↓lk, Int.reduceBEq, Int.reduceBNe, Bool.true_bne, Bool.false_bne, Bool.not_true, Bool.not_false, ↓ty_build55, Int.reduceToNat, Nat.sub_zero, List.drop_zero, hy, e2, hv, e3, hq2, e7] <;> with_reducible rfl); exact trivial)
              | rfl)
            try rfl
          · rw [kc] at e7
            simp only [if_true]
            repeat (first
              | (apply axJ; (focus ((with_reducible constructor) <;> rfl)))
              | (apply awT mixedOK hΓ (by kernel_rfl); (simp (disch := omega) only [go_sem, ↓reduceIte, dk, ↓lk, Int.reduceBEq, Int.reduceBNe, Bool.true_bne, Bool.false_bne, Bool.not_true, Bool.not_false, ↓ty_build55, Int.reduceToNat, Nat.sub_zero, List.drop_zero, hy, e2, hv, e3, hq2, e7] <;> with_reducible rfl))
              | ((first | apply awR hΓ | apply awG | apply awH mixedOK hΓ rfl (by kernel_rfl) | apply ovE rfl); (simp (disch := omega) only [go_sem, ↓reduceIte, dk, ↓lk, Int.reduceBEq, Int.reduceBNe, Bool.true_bne, Bool.false_bne, Bool.not_true, Bool.not_false, ↓ty_build55, Int.reduceToNat, Nat.sub_zero, List.drop_zero, hy, e2, hv, e3, hq2, e7] <;> with_reducible rfl); exact trivial)
              | rfl)
            try rfl
        · rw [kb] at e2
          repeat (first
            | (apply axJ; (focus ((with_reducible constructor) <;> rfl)))
            | (apply awT mixedOK hΓ (by kernel_rfl); (simp (disch := omega) only [go_sem, ↓reduceIte, dk, ↓lk, Int.reduceBEq, Int.reduceBNe, Bool.true_bne, Bool.false_bne, Bool.not_true, Bool.not_false, hy, e2] <;> with_reducible rfl))
            | ((first | apply awR hΓ | apply awG | apply awH mixedOK hΓ rfl (by kernel_rfl) | apply ovE rfl); (simp (disch := omega) only [go_sem, ↓reduceIte, dk, ↓lk, Int.reduceBEq, Int.reduceBNe, Bool.true_bne, Bool.false_bne, Bool.not_true, Bool.not_false, hy, e2] <;> with_reducible rfl); exact trivial)
            | rfl)
          exact ⟨n + 1, ⟨by omega, hnx (by rw [kb]; rfl)⟩, by omega, Weak.w⟩
      · have hex : runN s false = n := runN_at hn hpre fun h => absurd h hi
        have hn3 : n = s.length := by omega
        subst hn3
        rw [hex]
        have e3 := g_numR5_eq (s := s.take s.length) (by rw [List.length_take]; omega)
        generalize hv : s.take s.length = v at *
        generalize numE v = q at *
        obtain ⟨q1, q2⟩ := q
        dsimp only at e3 ⊢
        cases hq : (q2 == 0)
        · have hq2 : (q2 != 0) = true := by simpa [bne] using hq
          simp only [Bool.false_eq_true, if_false]
          repeat (first
            | (apply axJ; (focus ((with_reducible constructor) <;> rfl)))
            | (apply awT mixedOK hΓ (by kernel_rfl); (simp (disch := omega) only [go_sem, ↓reduceIte, dk, ↓lk, Int.reduceBEq, Int.reduceBNe, Bool.true_bne, Bool.false_bne, Bool.not_true, Bool.not_false, ↓ty_build55, Int.reduceToNat, Nat.sub_zero, List.drop_zero, hv, e3, hq2] <;> with_reducible rfl))
            | ((first | apply awR hΓ | apply awG | apply awH mixedOK hΓ rfl (by kernel_rfl) | apply ovE rfl); (simp (disch := omega) only [go_sem, ↓reduceIte, dk, ↓lk, Int.reduceBEq, Int.reduceBNe, Bool.true_bne, Bool.false_bne, Bool.not_true, Bool.not_false, ↓ty_build55, Int.reduceToNat, Nat.sub_zero, List.drop_zero, hv, e3, hq2] <;> with_reducible rfl); exact trivial)
            | rfl)
          try rfl
        have hq2 : (q2 != 0) = false := by simpa [bne] using hq
        simp only [if_true]
        rw [show decide (s.length < s.length) = false from decide_eq_false (Nat.lt_irrefl _), Bool.false_and]
        simp only [Bool.false_eq_true, if_false]
        repeat (first
          | (apply axJ; (focus ((with_reducible constructor) <;> rfl)))
          | (apply awT mixedOK hΓ (by kernel_rfl); (simp (disch := omega) only [go_sem, ↓reduceIte, dk, ↓lk, Int.reduceBEq, Int.reduceBNe, Bool.true_bne, Bool.false_bne, Bool.not_true, Bool.not_false, ↓ty_build55, Int.reduceToNat, Nat.sub_zero, List.drop_zero, hv, e3, hq2] <;> with_reducible rfl))
          | ((first | apply awR hΓ | apply awG | apply awH mixedOK hΓ rfl (by kernel_rfl) | apply ovE rfl); (simp (disch := omega) only [go_sem, ↓reduceIte, dk, ↓lk, Int.reduceBEq, Int.reduceBNe, Bool.true_bne, Bool.false_bne, Bool.not_true, Bool.not_false, ↓ty_build55, Int.reduceToNat, Nat.sub_zero, List.drop_zero, hv, e3, hq2] <;> with_reducible rfl); exact trivial)
          | rfl)
        try rfl
    case false =>
      rw [k2] at e6
      simp only [Bool.false_eq_true, if_false]
      have e4 := g_symsR_eq trivial
      have hx2 : ∀ x ∈ symsL, x.length ≤ 2 ∧ x ≠ [] := by decide
      have hl24 : symsL.length = 24 := rfl
      rw [sym_find]
      repeat (first
        | (apply axJ; (focus ((with_reducible constructor) <;> rfl)))
        | (apply awT mixedOK hΓ (by kernel_rfl); (simp (disch := omega) only [go_sem, ↓reduceIte, dk, ↓lk, Int.reduceBEq, Int.reduceBNe, Bool.true_bne, Bool.false_bne, Bool.not_true, Bool.not_false, Int.reduceToNat, hb0, e5, e6, e4] <;> with_reducible rfl))
        | ((first | apply awR hΓ | apply awG | apply awH mixedOK hΓ rfl (by kernel_rfl) | apply ovE rfl); (simp (disch := omega) only [go_sem, ↓reduceIte, dk, ↓lk, Int.reduceBEq, Int.reduceBNe, Bool.true_bne, Bool.false_bne, Bool.not_true, Bool.not_false, Int.reduceToNat, hb0, e5, e6, e4] <;> with_reducible rfl); exact trivial)
        | rfl)
      generalize symsL = L at *
      refine awp_loop_at (X := Nat) (fun i => (frame 102 [(0, .data (.str s)), (2, .ptr 0 0), (79, .data (.list (L.map .str))), (80, .data (i64 L.length)), (81, .data (i64 i))])) (fun _ => [(0, .box [.data (i64 0), .data (.str [])])]) 11
        (fun i => i ≤ L.length ∧ L.find? (pfx s) = (L.drop i).find? (pfx s)) (fun i => L.length - i) 0 ⟨Nat.zero_le _, rfl⟩ (Weak.w) ?_
      rintro i ⟨hi, hpre⟩
      (try dsimp only at hi hpre ⊢)
      rw [hpre]
      by_cases hi2 : i < L.length
      · have hdr := List.drop_eq_getElem_cons hi2
        obtain ⟨hy2, hy3⟩ := hx2 _ (List.getElem_mem hi2)
        rw [hdr] at hpre ⊢
        rw [List.find?_cons] at hpre ⊢
        generalize hy : L[i] = y at *
        unfold pfx at hpre ⊢
        cases ka : decide ((s.length : Int) ≥ (y.length : Int))
        · rw [ka] at hpre
          simp only [Bool.false_and] at hpre ⊢
          repeat (first
            | (apply axJ; (focus ((with_reducible constructor) <;> rfl)))
            | (apply awT mixedOK hΓ (by kernel_rfl); (simp (disch := omega) only [go_sem, ↓reduceIte, dk, ↓lk, Int.reduceBEq, Int.reduceBNe, Bool.true_bne, Bool.false_bne, Bool.not_true, Bool.not_false, hy, ka] <;> with_reducible rfl))
            | ((first | apply awR hΓ | apply awG | apply awH mixedOK hΓ rfl (by kernel_rfl) | apply ovE rfl); (simp (disch := omega) only [go_sem, ↓reduceIte, dk, ↓lk, Int.reduceBEq, Int.reduceBNe, Bool.true_bne, Bool.false_bne, Bool.not_true, Bool.not_false, hy, ka] <;> with_reducible rfl); exact trivial)
            | rfl)
          exact ⟨i + 1, ⟨by omega, rfl⟩, by omega, Weak.w⟩
        · rw [ka] at hpre
          have ka2 := of_decide_eq_true ka
          simp only [Bool.true_and] at hpre ⊢
          cases kb : (s.take y.length == y)
          · rw [kb] at hpre
            dsimp only at hpre ⊢
            repeat (first
              | (apply axJ; (focus ((with_reducible constructor) <;> rfl)))
              | (apply awT mixedOK hΓ (by kernel_rfl); (simp (disch := omega) only [go_sem, ↓reduceIte, dk, ↓lk, Int.reduceBEq, Int.reduceBNe, Bool.true_bne, Bool.false_bne, Bool.not_true, Bool.not_false, Int.reduceToNat, Nat.sub_zero, List.drop_zero, Int.toNat_natCast, hy, ka, kb] <;> with_reducible rfl))
              | ((first | apply awR hΓ | apply awG | apply awH mixedOK hΓ rfl (by kernel_rfl) | apply ovE rfl); (simp (disch := omega) only [go_sem, ↓reduceIte, dk, ↓lk, Int.reduceBEq, Int.reduceBNe, Bool.true_bne, Bool.false_bne, Bool.not_true, Bool.not_false, Int.reduceToNat, Nat.sub_zero, List.drop_zero, Int.toNat_natCast, hy, ka, kb] <;> with_reducible rfl); exact trivial)
              | rfl)
            exact ⟨i + 1, ⟨by omega, rfl⟩, by omega, Weak.w⟩
          · have hyb : (y == []) = false := by simpa using hy3
            simp only [Option.getD_some, hyb, Bool.false_eq_true, if_false]
            repeat (first
              | (apply axJ; (focus ((with_reducible constructor) <;> rfl)))
              | (apply awT mixedOK hΓ (by kernel_rfl); (simp (disch := omega) only [go_sem, ↓reduceIte, dk, ↓lk, Int.reduceBEq, Int.reduceBNe, Bool.true_bne, Bool.false_bne, Bool.not_true, Bool.not_false, ↓ty_build55, Int.reduceToNat, Nat.sub_zero, List.drop_zero, Int.toNat_natCast, hy, ka, kb] <;> with_reducible rfl))
              | ((first | apply awR hΓ | apply awG | apply awH mixedOK hΓ rfl (by kernel_rfl) | apply ovE rfl); (simp (disch := omega) only [go_sem, ↓reduceIte, dk, ↓lk, Int.reduceBEq, Int.reduceBNe, Bool.true_bne, Bool.false_bne, Bool.not_true, Bool.not_false, ↓ty_build55, Int.reduceToNat, Nat.sub_zero, List.drop_zero, Int.toNat_natCast, hy, ka, kb] <;> with_reducible rfl); exact trivial)
              | rfl)
            try rfl
      have hi3 : i = L.length := by omega
      subst hi3
      rw [List.drop_length]
      repeat (first
        | (apply axJ; (focus ((with_reducible constructor) <;> rfl)))
        | (apply awT mixedOK hΓ (by kernel_rfl); (simp (disch := omega) only [go_sem, ↓reduceIte, dk, ↓lk, Int.reduceBEq, Int.reduceBNe, Bool.true_bne, Bool.false_bne, Bool.not_true, Bool.not_false, ↓ty_build55] <;> with_reducible rfl))
        | ((first | apply awR hΓ | apply awG | apply awH mixedOK hΓ rfl (by kernel_rfl) | apply ovE rfl); (simp (disch := omega) only [go_sem, ↓reduceIte, dk, ↓lk, Int.reduceBEq, Int.reduceBNe, Bool.true_bne, Bool.false_bne, Bool.not_true, Bool.not_false, ↓ty_build55] <;> with_reducible rfl); exact trivial)
        | rfl)
      try rfl
end Go.Ab
namespace Go.Ab
open Go Go.RowKit Go.Proofs Go.Shelf
set_option maxRecDepth 10000
set_option maxHeartbeats 16000000
noncomputable def g_toksR : List D → Option D := encSpec (fun x : Bs => [.str x]) (fun x : Bs => x.length ≤ 1099511627776) (fun x : Bs => eTks (toksB x))
theorem g_toksR_eq {s : Bs} (hd : s.length ≤ 1099511627776) : g_toksR [.str s] = some (eTks (toksB s)) := encSpec_eq (x := s) hd fun y hy => by
    simp only [List.cons.injEq, and_true, true_and, D.str.injEq, D.int.injEq, D.list.injEq, D.bool.injEq, D.agg.injEq, D.clo.injEq, Int.natCast_inj, inj_ie, D.ref.injEq, eTk_ie, eTk_e] at hy
    rw [hy]
theorem f_toksR_ok : PureOK Tryz.prog 37 false g_toksR := by
  have hΓ := Γp f_nextR_ok (Γn)
  refine pure_enc (n := 44) (rs := [.tmp 2, .tmp 3]) Tryz.func37 (by kernel_rfl) rfl (by kernel_rfl) (by kernel_rfl) ?_
  rintro s hd
  (try dsimp only at hd ⊢)
  refine ⟨fun h => (by cases h), fun k hz0 => ?_⟩
  unfold toksB
  rw [start_frame (by simp)]; simp only [enumV, go_sem, emptyH]
  by_cases hl : (s.length : Int) > 65536
  · have h1 : decide ((s.length : Int) > 65536) = true := decide_eq_true hl
    rw [h1]
    simp only [if_true]
    repeat (first
      | (apply axJ; (focus ((with_reducible constructor) <;> rfl)))
      | (apply awT mixedOK hΓ (by kernel_rfl); (simp (disch := omega) only [go_sem, ↓reduceIte, dk, ↓lk, Int.reduceBEq, Int.reduceBNe, Bool.true_bne, Bool.false_bne, Bool.not_true, Bool.not_false, h1] <;> with_reducible rfl))
      | ((first | apply awR hΓ | apply awG | apply awH mixedOK hΓ rfl (by kernel_rfl) | apply ovE rfl); (simp (disch := omega) only [go_sem, ↓reduceIte, dk, ↓lk, Int.reduceBEq, Int.reduceBNe, Bool.true_bne, Bool.false_bne, Bool.not_true, Bool.not_false, h1] <;> with_reducible rfl); exact trivial)
      | rfl)
    try rfl
  have h1 : decide ((s.length : Int) > 65536) = false := decide_eq_false hl
  rw [h1]
  simp only [Bool.false_eq_true, if_false]
  repeat (first
    | (apply axJ; (focus ((with_reducible constructor) <;> rfl)))
    | (apply awT mixedOK hΓ (by kernel_rfl); (simp (disch := omega) only [go_sem, ↓reduceIte, dk, ↓lk, Int.reduceBEq, Int.reduceBNe, Bool.true_bne, Bool.false_bne, Bool.not_true, Bool.not_false, h1] <;> with_reducible rfl))
    | ((first | apply awR hΓ | apply awG | apply awH mixedOK hΓ rfl (by kernel_rfl) | apply ovE rfl); (simp (disch := omega) only [go_sem, ↓reduceIte, dk, ↓lk, Int.reduceBEq, Int.reduceBNe, Bool.true_bne, Bool.false_bne, Bool.not_true, Bool.not_false, h1] <;> with_reducible rfl); exact trivial)
    | rfl)
  refine awp_weak (Weak.nilrowF (i := 4) 55 (sz := 2) (by omega) (by omega) rfl) ?_
  refine awp_loop_at (X := List Tk × Nat) (fun y => (frame 44 [(0, .data (.str s)), (4, .row 7 y.1.length), (5, .data (i64 y.2))])) (fun y => [(7, .row 55 2 (y.1.map eTk))]) 8
    (fun y => toksF s.length [] s = toksF (s.drop y.2).length y.1 (s.drop y.2) ∧ y.2 ≤ s.length ∧ y.1.length ≤ 256) (fun y => s.length - y.2) ([], 0) ⟨rfl, Nat.zero_le _, Nat.zero_le _⟩ (Weak.v (by (simp [ConvF, lookV, Conv, ints, upd]; done)) (by (simp (disch := omega) only [TabSub, look, if_pos, if_neg, Obj.refsOK, refsOKs, AV.refsOK, decide_eq_true_eq, Bool.and_true, Bool.and_self, upd] ) <;> ((repeat' apply And.intro) <;> first | exact True.intro | omega | (simp; done) | rfl))) ?_
  rintro ⟨acc, i⟩ ⟨h2, h3, h4⟩
  dsimp only at h2 h3 h4 ⊢
  by_cases hi : i < s.length
  case neg =>
    have hi3 : i = s.length := by omega
    subst hi3
    rw [List.drop_length] at h2
    rw [h2, show toksF ([] : Bs).length acc [] = (acc, 0) from rfl]
    repeat (first
      | (apply axJ; (focus ((with_reducible constructor) <;> rfl)))
      | (apply awT mixedOK hΓ (by kernel_rfl); (simp (disch := omega) only [go_sem, ↓reduceIte, dk, ↓lk, Int.reduceBEq, Int.reduceBNe, Bool.true_bne, Bool.false_bne, Bool.not_true, Bool.not_false] <;> with_reducible rfl))
      | ((first | apply awR hΓ | apply awG | apply awH mixedOK hΓ rfl (by kernel_rfl) | apply ovE rfl); (simp (disch := omega) only [go_sem, ↓reduceIte, dk, ↓lk, Int.reduceBEq, Int.reduceBNe, Bool.true_bne, Bool.false_bne, Bool.not_true, Bool.not_false] <;> with_reducible rfl); exact trivial)
      | rfl)
    try rfl
  have hdr := List.drop_eq_getElem_cons hi
  have hdl : (s.drop i).length = s.length - i := List.length_drop
  have hne : s.drop i ≠ [] := fun e => by rw [hdr] at e; cases e
  have hb : (((s[i].toNat : Nat) : Int) == 32) = (s[i] == 32) := byteEq s[i] 32
  have e1 := g_nextR_eq (s := s.drop i) ⟨by omega, hne⟩
  have hdd : ∀ k, (s.drop i).drop k = s.drop (i + k) := fun k => List.drop_drop
  have hd1 : s.drop (i + 1) = (s.drop i).drop 1 := (hdd 1).symm
  have hnp := fun h => next_pos (s := s.drop i) hne h
  have htn : ∀ c t, s.drop i = c :: t → (c == 32) = false → (acc.length == 256) = false → ((nextB (s.drop i)).2 == 0) = true → toksF (s.drop i).length acc (s.drop i) = toksF (s.drop (i + (nextB (s.drop i)).1.2.length)).length (acc ++ [(nextB (s.drop i)).1]) (s.drop (i + (nextB (s.drop i)).1.2.length)) := fun c t hc h5 h6 h7 => by
    rw [← hdd, hc]
    rw [hc] at h7
    exact toks_next t h5 h6 h7
  have htb : ∀ c t, s.drop i = c :: t → (c == 32) = true → toksF (s.drop i).length acc (s.drop i) = toksF (s.drop (i + 1)).length acc (s.drop (i + 1)) := fun c t hc h5 => by
    have h6 : c = 32 := by simpa using h5
    rw [hd1, hc, h6]
    exact toks_blank
  have hte : ∀ c t, s.drop i = c :: t → (c == 32) = false → toksF (s.drop i).length acc (s.drop i) = if acc.length == 256 then ([], 10) else if (nextB (s.drop i)).2 == 0 then toksF t.length (acc ++ [(nextB (s.drop i)).1]) ((s.drop i).drop (nextB (s.drop i)).1.2.length) else ([], (nextB (s.drop i)).2) := fun c t hc h5 => by
    rw [hc, List.length_cons, toksF, h5]
    rfl
  replace htn := htn _ _ hdr
  replace htb := htb _ _ hdr
  replace hte := hte _ _ hdr
  generalize hy : s[i] = y at *
  cases hc : (y == 32)
  case true =>
    rw [hc] at hb
    rw [htb hc] at h2
    repeat (first
      | (apply axJ; (focus ((with_reducible constructor) <;> rfl)))
      | (apply awT mixedOK hΓ (by kernel_rfl); (simp (disch := omega) only [go_sem, ↓reduceIte, dk, ↓lk, Int.reduceBEq, Int.reduceBNe, Bool.true_bne, Bool.false_bne, Bool.not_true, Bool.not_false, hy, hb] <;> with_reducible rfl))
      | ((first | apply awR hΓ | apply awG | apply awH mixedOK hΓ rfl (by kernel_rfl) | apply ovE rfl); (simp (disch := omega) only [go_sem, ↓reduceIte, dk, ↓lk, Int.reduceBEq, Int.reduceBNe, Bool.true_bne, Bool.false_bne, Bool.not_true, Bool.not_false, hy, hb] <;> with_reducible rfl); exact trivial)
      | rfl)
    exact ⟨(acc, i + 1), ⟨h2, by dsimp only; omega, h4⟩, by dsimp only; omega, Weak.w⟩
  rw [hc] at hb
  have hte := hte hc
  have htn := htn hc
  cases ha : (acc.length == 256)
  case true =>
    have ha2 : (((acc.length : Nat) : Int) == 256) = true := by
      rw [beq_iff_eq] at ha ⊢
      omega
    rw [h2, hte, ha]
    simp only [if_true]
    repeat (first
      | (apply axJ; (focus ((with_reducible constructor) <;> rfl)))
      | (apply awT mixedOK hΓ (by kernel_rfl); (simp (disch := omega) only [go_sem, ↓reduceIte, dk, ↓lk, Int.reduceBEq, Int.reduceBNe, Bool.true_bne, Bool.false_bne, Bool.not_true, Bool.not_false, hy, hb, ha2] <;> with_reducible rfl))
      | ((first | apply awR hΓ | apply awG | apply awH mixedOK hΓ rfl (by kernel_rfl) | apply ovE rfl); (simp (disch := omega) only [go_sem, ↓reduceIte, dk, ↓lk, Int.reduceBEq, Int.reduceBNe, Bool.true_bne, Bool.false_bne, Bool.not_true, Bool.not_false, hy, hb, ha2] <;> with_reducible rfl); exact trivial)
      | rfl)
    try rfl
  have ha2 : (((acc.length : Nat) : Int) == 256) = false := by
    rw [beq_eq_false_iff_ne] at ha ⊢
    omega
  rw [ha] at hte
  replace htn := htn ha
  have hsl : List.take (s.length - i) (List.drop i s) = List.drop i s := List.take_of_length_le (by omega)
  cases hn : ((nextB (s.drop i)).2 == 0)
  · rw [hn] at hte
    simp only [Bool.false_eq_true, if_false] at hte
    rw [h2, hte]
    generalize hr : s.drop i = r at *
    generalize nextB r = p at *
    obtain ⟨⟨p1, p2⟩, p3⟩ := p
    replace e1 : g_nextR [.str r] = some (.tup [.agg [.int .i64 p1, .str p2], .int .i64 p3]) := e1
    have hn2 : (p3 != 0) = true := by simpa [bne] using hn
    repeat (first
      | (apply axJ; (focus ((with_reducible constructor) <;> rfl)))
      | (apply awT mixedOK hΓ (by kernel_rfl); (simp (disch := omega) only [go_sem, ↓reduceIte, dk, ↓lk, Int.reduceBEq, Int.reduceBNe, Bool.true_bne, Bool.false_bne, Bool.not_true, Bool.not_false, Int.toNat_natCast, hy, hb, ha2, hr, hsl, e1, hn2] <;> with_reducible rfl))
      | ((first | apply awR hΓ | apply awG | apply awH mixedOK hΓ rfl (by kernel_rfl) | apply ovE rfl); (simp (disch := omega) only [go_sem, ↓reduceIte, dk, ↓lk, Int.reduceBEq, Int.reduceBNe, Bool.true_bne, Bool.false_bne, Bool.not_true, Bool.not_false, Int.toNat_natCast, hy, hb, ha2, hr, hsl, e1, hn2] <;> with_reducible rfl); exact trivial)
      | rfl)
    try rfl
  · obtain ⟨hp1, hp2⟩ := hnp (by simpa using hn)
    rw [htn hn] at h2
    clear htn hte htb hnp hdd hd1
    generalize hr : s.drop i = r at *
    generalize nextB r = p at *
    obtain ⟨⟨p1, p2⟩, p3⟩ := p
    replace e1 : g_nextR [.str r] = some (.tup [.agg [.int .i64 p1, .str p2], .int .i64 p3]) := e1
    have hn2 : (p3 != 0) = false := by simpa [bne] using hn
    dsimp only at hp1 hp2 h2 ⊢
    repeat (first
      | (apply axJ; (focus ((with_reducible constructor) <;> rfl)))
      | (apply awT mixedOK hΓ (by kernel_rfl); (simp (disch := omega) only [go_sem, ↓reduceIte, dk, ↓lk, Int.reduceBEq, Int.reduceBNe, Bool.true_bne, Bool.false_bne, Bool.not_true, Bool.not_false, Int.toNat_natCast, hy, hb, ha2, hr, hsl, e1, hn2] <;> with_reducible rfl))
      | ((first | apply awR hΓ | apply awG | apply awH mixedOK hΓ rfl (by kernel_rfl) | apply ovE rfl); (simp (disch := omega) only [go_sem, ↓reduceIte, dk, ↓lk, Int.reduceBEq, Int.reduceBNe, Bool.true_bne, Bool.false_bne, Bool.not_true, Bool.not_false, Int.toNat_natCast, hy, hb, ha2, hr, hsl, e1, hn2] <;> with_reducible rfl); exact trivial)
      | rfl)
    refine ⟨(acc ++ [(p1, p2)], i + p2.length), ⟨h2, by dsimp only; omega, ?_⟩, by dsimp only; omega, ?_⟩
    · dsimp only
      rw [beq_eq_false_iff_ne] at ha
      rw [List.length_append]
      simp only [List.length_cons, List.length_nil]
      omega
    · have hm : (acc ++ [((p1, p2) : Tk)]).map eTk = acc.map eTk ++ [.agg [i64 p1, .str p2]] := by rw [List.map_append]; rfl
      exact Weak.v (by (simp [ConvF, lookV, Conv, ints, hm]; done)) (by (simp (disch := omega) only [TabSub, look, if_pos, if_neg, Obj.refsOK, refsOKs, AV.refsOK, decide_eq_true_eq, Bool.and_true, Bool.and_self, hm] ) <;> ((repeat' apply And.intro) <;> first | exact True.intro | omega | (simp; done) | rfl))
end Go.Ab
namespace Go.Ab
open Go Go.RowKit Go.Proofs Go.Shelf
set_option maxRecDepth 10000
set_option maxHeartbeats 16000000
theorem run_all {s : Bs} {nm : Bool} : runN s nm = s.length ↔ ∀ c ∈ s, runQ nm c.toNat = false := by
  have h1 := runI_all s nm
  have h2 := (runN_eq s nm).1
  rw [h2, Int.natCast_inj, List.any_eq_false] at h1
  rw [h1]
  exact forall_congr' fun c => forall_congr' fun _ => by simp
theorem take_beq {s : Bs} {n : Nat} (hn : n ≤ s.length) : (s.take n == s) = decide (n = s.length) := by
  rw [Bool.eq_iff_iff, beq_iff_eq, decide_eq_true_eq]
  constructor
  · intro h
    have := congrArg List.length h
    rw [List.length_take] at this
    omega
  · intro h
    rw [h, List.take_length]
theorem numE_bad {s : Bs} (h : ∃ c ∈ s, digI c.toNat = false) : (numE s).2 = 4 := by
  rw [← numR_eq]
  split
  · rfl
  · rw [numRGo_bad s 0 false h]
theorem syms_head : ∀ x ∈ symsL, x ≠ [] ∧ lettI (x.headD 0).toNat = false ∧ digI (x.headD 0).toNat = false ∧ symB x = x := by decide
theorem hasB_iff {l : List Bs} {s : Bs} : hasB l s = true ↔ s ∈ l := by
  unfold hasB
  rw [List.any_eq_true]
  constructor
  · rintro ⟨x, hx, h⟩
    have : x = s := by simpa using h
    rw [← this]; exact hx
  · intro h
    exact ⟨s, h, by simp⟩
theorem symB_has {s : Bs} (hs : s ≠ []) : (symB s != [] && symB s == s) = hasB symsL s := by
  rw [Bool.eq_iff_iff, hasB_iff]
  constructor
  · intro h
    simp only [Bool.and_eq_true, bne_iff_ne, ne_eq, beq_iff_eq] at h
    rw [sym_find] at h
    cases hf : symsL.find? (pfx s) with
    | none => rw [hf] at h; exact absurd rfl h.1
    | some x =>
      rw [hf] at h
      have hx := List.mem_of_find?_eq_some hf
      have : x = s := h.2
      rw [← this]; exact hx
  · intro h
    have := (syms_head s h).2.2.2
    rw [this]
    simp [hs]
def validR (k : Int) (s : Bs) : Bool := if k == 1 then idForm s else if k == 2 then (numE s).2 == 0 else if k == 3 then hasB symsL s else false
theorem validR_eq (k : Int) (s : Bs) : validR k s = validB k s := by
  unfold validR validB
  rcases hs : s with _ | ⟨c, r⟩
  · by_cases h1 : k = 1
    · simp [h1, idForm]
    · by_cases h2 : k = 2
      · simp [h2, numE]
      · by_cases h3 : k = 3
        · subst h3; rfl
        · simp [h1, h2, h3]
  rw [← hs]
  have hne : (s == []) = false := by rw [hs]; rfl
  have hne2 : s ≠ [] := by rw [hs]; simp
  have hhd : s.headD 0 = c := by rw [hs]; rfl
  have hcs : c ∈ s := by rw [hs]; simp
  have hid : idForm s = (!(decide ((s.length : Int) > 32)) && (lettI c.toNat && s.all ldB)) := by rw [hs]; rfl
  rw [hne]
  simp only [Bool.false_eq_true, if_false]
  unfold nextB
  rw [hhd]
  obtain ⟨_, l1⟩ := runN_eq s true
  obtain ⟨_, l2⟩ := runN_eq s false
  have hsy : hasB symsL s = true → lettI c.toNat = false ∧ digI c.toNat = false := fun h => by
    have := syms_head s (hasB_iff.1 h)
    rw [hhd] at this
    exact ⟨this.2.1, this.2.2.1⟩
  cases k1 : lettI (c.toNat : Int)
  case true =>
    have hsn : hasB symsL s = false := by
      cases h : hasB symsL s with
      | false => rfl
      | true => have := (hsy h).1; rw [k1] at this; cases this
    have hdg : digI c.toNat = false := by
      unfold lettI at k1
      unfold digI
      simp only [Bool.or_eq_true, Bool.and_eq_true, decide_eq_true_eq, beq_iff_eq] at k1
      simp only [Bool.and_eq_false_iff, decide_eq_false_iff_not]
      omega
    have hnb := numE_bad ⟨c, hcs, hdg⟩
    rw [hsn, hnb, hid, k1, Bool.true_and]
    simp only [if_true]
    have hall : s.all ldB = decide (runN s true = s.length) := by
      rw [Bool.eq_iff_iff, decide_eq_true_eq, run_all, List.all_eq_true]
      refine forall_congr' fun d => forall_congr' fun _ => ?_
      unfold ldB runQ
      cases lettI (d.toNat : Int) <;> cases digI (d.toNat : Int) <;> simp
    rw [hall]
    cases k2 : decide ((runN s true : Int) > 32)
    · simp only [Bool.false_eq_true, if_false]
      rw [take_beq l1]
      have h2 := of_decide_eq_false k2
      by_cases h3 : runN s true = s.length
      · have h4 : decide ((s.length : Int) > 32) = false := decide_eq_false (by omega)
        rw [decide_eq_true h3, h4]
        by_cases h1 : k = 1
        · simp [h1]
        · have : ((1 : Int) == k) = false := by simpa using fun e => h1 e.symm
          by_cases h5 : k = 2
          · simp [h5]
          · simp [h1, h5, this]
      · rw [decide_eq_false h3]
        by_cases h1 : k = 1
        · simp [h1]
        · by_cases h5 : k = 2
          · simp [h5]
          · simp [h1, h5]
    · simp only [if_true]
      have h2 := of_decide_eq_true k2
      have h4 : decide ((s.length : Int) > 32) = true := decide_eq_true (by omega)
      rw [h4]
      by_cases h1 : k = 1
      · simp [h1]
      · by_cases h5 : k = 2
        · simp [h5]
        · simp [h1, h5]
  case false =>
    simp only [Bool.false_eq_true, if_false]
    rw [hid, k1]
    cases k2 : digI (c.toNat : Int)
    case true =>
      have hsn : hasB symsL s = false := by
        cases h : hasB symsL s with
        | false => rfl
        | true => have := (hsy h).2; rw [k2] at this; cases this
      rw [hsn]
      simp only [if_true]
      by_cases h3 : runN s false = s.length
      · rw [h3, List.take_length, show decide (((s.length : Nat) : Int) < (s.length : Int)) = false from decide_eq_false (by omega)]
        simp only [Bool.false_and, Bool.false_eq_true, if_false]
        cases hq : ((numE s).2 == 0)
        · have hq2 : (numE s).2 ≠ 0 := by simpa using hq
          simp only [Bool.false_eq_true, if_false]
          rw [hq]
          by_cases h1 : k = 1
          · simp [h1]
          · by_cases h5 : k = 2
            · simp [h5]
            · simp [h1, h5]
        · simp only [if_true]
          by_cases h1 : k = 1
          · simp [h1]
          · by_cases h5 : k = 2
            · simp [h5]
            · have : ((2 : Int) == k) = false := by simpa using fun e => h5 e.symm
              simp [h1, h5, this]
      · have hb : ∃ d ∈ s, digI d.toNat = false := by
          have : ¬ ∀ d ∈ s, runQ false d.toNat = false := fun h => h3 (run_all.2 h)
          simp only [Classical.not_forall] at this
          obtain ⟨d, hd, hq⟩ := this
          refine ⟨d, hd, ?_⟩
          unfold runQ at hq
          simpa using hq
        have hnb := numE_bad hb
        rw [hnb]
        have ht : (s.take (runN s false) == s) = false := by rw [take_beq l2, decide_eq_false h3]
        have hL : (if k == 1 then (!decide ((s.length : Int) > 32) && (false && s.all ldB)) else if k == 2 then ((4 : Int) == 0) else if k == 3 then false else false) = false := by
          simp
        rw [hL]
        split
        · split
          · simp
          · simp [ht]
        · rename_i hq
          have hq2 : (numE (s.take (runN s false))).2 ≠ 0 := by simpa using hq
          simp [hq2]
    case false =>
      have hnb := numE_bad ⟨c, hcs, k2⟩
      have hsb := symB_has hne2
      simp only [Bool.false_eq_true, if_false]
      rw [hnb, ← hsb]
      cases hy : (symB s == [])
      · have hy2 : (symB s != []) = true := by simpa [bne] using hy
        rw [hy2]
        simp only [Bool.false_eq_true, if_false, Bool.true_and]
        by_cases h1 : k = 1
        · simp [h1]
        · by_cases h5 : k = 2
          · simp [h5]
          · by_cases h6 : k = 3
            · simp [h6]
            · have : ((3 : Int) == k) = false := by simpa using fun e => h6 e.symm
              simp [h1, h5, h6, this]
      · have hy2 : (symB s != []) = false := by simpa [bne] using hy
        rw [hy2]
        simp only [if_true, Bool.false_and]
        simp
noncomputable def g_validR5 : List D → Option D := encSpec (fun x : Int × Bs => [.agg [i64 x.1, .str x.2]]) (fun x : Int × Bs => x.2.length ≤ 1099511627776) (fun x : Int × Bs => .bool (validB x.1 x.2))
theorem g_validR5_eq {kd : Int} {s : Bs} (hd : s.length ≤ 1099511627776) : g_validR5 [.agg [.int .i64 kd, .str s]] = some (.bool (validB kd s)) := encSpec_eq (x := (kd, s)) hd fun y hy => by
    obtain ⟨y0, y1⟩ := y; simp only [List.cons.injEq, and_true, true_and, D.str.injEq, D.int.injEq, D.list.injEq, D.bool.injEq, D.agg.injEq, D.clo.injEq, Int.natCast_inj, inj_ie, D.ref.injEq, eTk_ie, eTk_e] at hy
    (try obtain ⟨rfl, rfl⟩ := hy)
    (try subst_vars)
    rfl
theorem f_validR5_ok : PureOK Tryz.prog 47 true g_validR5 := by
  have hΓ := Γp f_form05_ok (Γp f_numR5_ok (Γp f_symsR_ok (Γp f_has_ok (Γn))))
  refine pure_enc (n := 28) (rs := [.tmp 2]) Tryz.func47 (by kernel_rfl) rfl (by kernel_rfl) (by kernel_rfl) ?_
  rintro ⟨kd, s⟩ hd
  (try dsimp only at hd ⊢)
  refine ⟨fun _ => by (repeat (first | exact .int _ _ | exact .bool _ | exact .str _ | (refine .tup _ (fun d hd => ?_); simp only [List.mem_cons, List.not_mem_nil, or_false] at hd; rcases hd with rfl | hd))), fun k hz0 => ?_⟩
  rw [← validR_eq]
  unfold validR
  have e1 := g_form05_eq hd
  have e2 := g_numR5_eq hd
  have e3 := g_symsR_eq trivial
  have e4 := g_has_eq (l := symsL) (s := s) (by decide)
  generalize idForm s = b1 at *
  generalize hasB symsL s = b3 at *
  generalize symsL = L at *
  generalize numE s = q at *
  obtain ⟨q1, q2⟩ := q
  dsimp only at e2 ⊢
  rw [start_frame (by simp)]; simp only [enumV, go_sem, emptyH]
  cases k1 : (kd == 1)
  case true =>
    simp only [if_true]
    repeat (first
      | (apply axJ; (focus ((with_reducible constructor) <;> rfl)))
      | (apply awT mixedOK hΓ (by kernel_rfl); (simp (disch := omega) only [go_sem, ↓reduceIte, dk, ↓lk, Int.reduceBEq, Int.reduceBNe, Bool.true_bne, Bool.false_bne, Bool.not_true, Bool.not_false, k1, e1] <;> with_reducible rfl))
      | ((first | apply awR hΓ | apply awG | apply awH mixedOK hΓ rfl (by kernel_rfl) | apply ovE rfl); (simp (disch := omega) only [go_sem, ↓reduceIte, dk, ↓lk, Int.reduceBEq, Int.reduceBNe, Bool.true_bne, Bool.false_bne, Bool.not_true, Bool.not_false, k1, e1] <;> with_reducible rfl); exact trivial)
      | rfl)
    try rfl
  simp only [Bool.false_eq_true, if_false]
  cases k2 : (kd == 2)
  case true =>
    simp only [if_true]
    cases k4 : (q2 == 0)
    · repeat (first
      | (apply axJ; (focus ((with_reducible constructor) <;> rfl)))
      | (apply awT mixedOK hΓ (by kernel_rfl); (simp (disch := omega) only [go_sem, ↓reduceIte, dk, ↓lk, Int.reduceBEq, Int.reduceBNe, Bool.true_bne, Bool.false_bne, Bool.not_true, Bool.not_false, k1, k2, k4, e2] <;> with_reducible rfl))
      | ((first | apply awR hΓ | apply awG | apply awH mixedOK hΓ rfl (by kernel_rfl) | apply ovE rfl); (simp (disch := omega) only [go_sem, ↓reduceIte, dk, ↓lk, Int.reduceBEq, Int.reduceBNe, Bool.true_bne, Bool.false_bne, Bool.not_true, Bool.not_false, k1, k2, k4, e2] <;> with_reducible rfl); exact trivial)
      | rfl)
      try rfl
    · repeat (first
      | (apply axJ; (focus ((with_reducible constructor) <;> rfl)))
      | (apply awT mixedOK hΓ (by kernel_rfl); (simp (disch := omega) only [go_sem, ↓reduceIte, dk, ↓lk, Int.reduceBEq, Int.reduceBNe, Bool.true_bne, Bool.false_bne, Bool.not_true, Bool.not_false, k1, k2, k4, e2] <;> with_reducible rfl))
      | ((first | apply awR hΓ | apply awG | apply awH mixedOK hΓ rfl (by kernel_rfl) | apply ovE rfl); (simp (disch := omega) only [go_sem, ↓reduceIte, dk, ↓lk, Int.reduceBEq, Int.reduceBNe, Bool.true_bne, Bool.false_bne, Bool.not_true, Bool.not_false, k1, k2, k4, e2] <;> with_reducible rfl); exact trivial)
      | rfl)
      try rfl
  simp only [Bool.false_eq_true, if_false]
  cases k3 : (kd == 3)
  case true =>
    simp only [if_true]
    repeat (first
      | (apply axJ; (focus ((with_reducible constructor) <;> rfl)))
      | (apply awT mixedOK hΓ (by kernel_rfl); (simp (disch := omega) only [go_sem, ↓reduceIte, dk, ↓lk, Int.reduceBEq, Int.reduceBNe, Bool.true_bne, Bool.false_bne, Bool.not_true, Bool.not_false, k1, k2, k3, e3, e4] <;> with_reducible rfl))
      | ((first | apply awR hΓ | apply awG | apply awH mixedOK hΓ rfl (by kernel_rfl) | apply ovE rfl); (simp (disch := omega) only [go_sem, ↓reduceIte, dk, ↓lk, Int.reduceBEq, Int.reduceBNe, Bool.true_bne, Bool.false_bne, Bool.not_true, Bool.not_false, k1, k2, k3, e3, e4] <;> with_reducible rfl); exact trivial)
      | rfl)
    try rfl
  simp only [Bool.false_eq_true, if_false]
  repeat (first
    | (apply axJ; (focus ((with_reducible constructor) <;> rfl)))
    | (apply awT mixedOK hΓ (by kernel_rfl); (simp (disch := omega) only [go_sem, ↓reduceIte, dk, ↓lk, Int.reduceBEq, Int.reduceBNe, Bool.true_bne, Bool.false_bne, Bool.not_true, Bool.not_false, k1, k2, k3] <;> with_reducible rfl))
    | ((first | apply awR hΓ | apply awG | apply awH mixedOK hΓ rfl (by kernel_rfl) | apply ovE rfl); (simp (disch := omega) only [go_sem, ↓reduceIte, dk, ↓lk, Int.reduceBEq, Int.reduceBNe, Bool.true_bne, Bool.false_bne, Bool.not_true, Bool.not_false, k1, k2, k3] <;> with_reducible rfl); exact trivial)
    | rfl)
  try rfl
def allV (l : List Tk) : Bool := l.all (fun t => validB t.1 t.2) && decide ((l.length : Int) ≤ 256)
noncomputable def g_allVR : List D → Option D := encSpec (fun x : (List Tk) => [.list (x.map eTk)]) (fun x : (List Tk) => x.length ≤ 1099511627776 ∧ ∀ t ∈ x, t.2.length ≤ 1099511627776) (fun x : (List Tk) => .bool (allV x))
theorem g_allVR_eq {l : List Tk} (hd : l.length ≤ 1099511627776 ∧ ∀ t ∈ l, t.2.length ≤ 1099511627776) : g_allVR [.list (l.map eTk)] = some (.bool (allV l)) := encSpec_eq (x := l) hd fun y hy => by
    simp only [List.cons.injEq, and_true, true_and, D.str.injEq, D.int.injEq, D.list.injEq, D.bool.injEq, D.agg.injEq, D.clo.injEq, Int.natCast_inj, inj_ie, D.ref.injEq, eTk_ie, eTk_e] at hy
    rw [hy]
theorem f_allVR_ok : PureOK Tryz.prog 20 true g_allVR := by
  have hΓ := Γp f_validR5_ok (Γn)
  refine pure_enc (n := 18) (rs := [.tmp 2]) Tryz.func20 (by kernel_rfl) rfl (by kernel_rfl) (by kernel_rfl) ?_
  rintro l hd
  (try dsimp only at hd ⊢)
  refine ⟨fun _ => by (repeat (first | exact .int _ _ | exact .bool _ | exact .str _ | (refine .tup _ (fun d hd => ?_); simp only [List.mem_cons, List.not_mem_nil, or_false] at hd; rcases hd with rfl | hd))), fun k hz0 => ?_⟩
  obtain ⟨d1, d2⟩ := hd
  unfold allV
  rw [start_frame (by simp)]; simp only [enumV, go_sem, emptyH]
  repeat (first
    | (apply axJ; (focus ((with_reducible constructor) <;> rfl)))
    | (apply awT mixedOK hΓ (by kernel_rfl); (simp (disch := omega) only [go_sem, ↓reduceIte, dk, ↓lk, Int.reduceBEq, Int.reduceBNe, Bool.true_bne, Bool.false_bne, Bool.not_true, Bool.not_false] <;> with_reducible rfl))
    | ((first | apply awR hΓ | apply awG | apply awH mixedOK hΓ rfl (by kernel_rfl) | apply ovE rfl); (simp (disch := omega) only [go_sem, ↓reduceIte, dk, ↓lk, Int.reduceBEq, Int.reduceBNe, Bool.true_bne, Bool.false_bne, Bool.not_true, Bool.not_false] <;> with_reducible rfl); exact trivial)
    | rfl)
  refine awp_loop_at (X := Nat) (fun i => (frame 18 [(0, .data (.list (l.map eTk))), (5, .data (.list (l.map eTk))), (6, .data (i64 l.length)), (7, .data (i64 i))])) (fun _ => []) 8
    (fun i => i ≤ l.length ∧ (l.take i).all (fun t => validB t.1 t.2) = true) (fun i => l.length - i) 0 ⟨Nat.zero_le _, rfl⟩ (Weak.w) ?_
  rintro i ⟨hi, hpre⟩
  (try dsimp only at hi hpre ⊢)
  by_cases hi2 : i < l.length
  · have hat := @all_at _ (fun t : Tk => validB t.1 t.2) l i hi2
    have htk := @all_take _ (fun t : Tk => validB t.1 t.2) l i hi2 hpre
    have e1 := g_validR5_eq (kd := l[i].1) (s := l[i].2) (d2 _ (List.getElem_mem hi2))
    generalize hy : l[i] = y at *
    obtain ⟨y1, y2⟩ := y
    dsimp only at hat htk e1
    generalize validB y1 y2 = b at *
    cases b
    · rw [hat rfl, Bool.false_and]
      repeat (first
        | (apply axJ; (focus ((with_reducible constructor) <;> rfl)))
        | (apply awT mixedOK hΓ (by kernel_rfl); (simp (disch := omega) only [go_sem, ↓reduceIte, dk, ↓lk, Int.reduceBEq, Int.reduceBNe, Bool.true_bne, Bool.false_bne, Bool.not_true, Bool.not_false, hy, e1] <;> with_reducible rfl))
        | ((first | apply awR hΓ | apply awG | apply awH mixedOK hΓ rfl (by kernel_rfl) | apply ovE rfl); (simp (disch := omega) only [go_sem, ↓reduceIte, dk, ↓lk, Int.reduceBEq, Int.reduceBNe, Bool.true_bne, Bool.false_bne, Bool.not_true, Bool.not_false, hy, e1] <;> with_reducible rfl); exact trivial)
        | rfl)
      try rfl
    · repeat (first
      | (apply axJ; (focus ((with_reducible constructor) <;> rfl)))
      | (apply awT mixedOK hΓ (by kernel_rfl); (simp (disch := omega) only [go_sem, ↓reduceIte, dk, ↓lk, Int.reduceBEq, Int.reduceBNe, Bool.true_bne, Bool.false_bne, Bool.not_true, Bool.not_false, hy, e1] <;> with_reducible rfl))
      | ((first | apply awR hΓ | apply awG | apply awH mixedOK hΓ rfl (by kernel_rfl) | apply ovE rfl); (simp (disch := omega) only [go_sem, ↓reduceIte, dk, ↓lk, Int.reduceBEq, Int.reduceBNe, Bool.true_bne, Bool.false_bne, Bool.not_true, Bool.not_false, hy, e1] <;> with_reducible rfl); exact trivial)
      | rfl)
      exact ⟨i + 1, ⟨by omega, htk rfl⟩, by omega, Weak.w⟩
  have hi3 : i = l.length := by omega
  subst hi3
  rw [List.take_length] at hpre
  rw [hpre, Bool.true_and]
  generalize hc : decide ((l.length : Int) ≤ 256) = c
  repeat (first
    | (apply axJ; (focus ((with_reducible constructor) <;> rfl)))
    | (apply awT mixedOK hΓ (by kernel_rfl); (simp (disch := omega) only [go_sem, ↓reduceIte, dk, ↓lk, Int.reduceBEq, Int.reduceBNe, Bool.true_bne, Bool.false_bne, Bool.not_true, Bool.not_false, hc] <;> with_reducible rfl))
    | ((first | apply awR hΓ | apply awG | apply awH mixedOK hΓ rfl (by kernel_rfl) | apply ovE rfl); (simp (disch := omega) only [go_sem, ↓reduceIte, dk, ↓lk, Int.reduceBEq, Int.reduceBNe, Bool.true_bne, Bool.false_bne, Bool.not_true, Bool.not_false, hc] <;> with_reducible rfl); exact trivial)
    | rfl)
  try rfl
end Go.Ab
