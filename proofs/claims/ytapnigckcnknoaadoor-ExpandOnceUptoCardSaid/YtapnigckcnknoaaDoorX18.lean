/-
  One text of the proof (own work): contracts of functions of the program, by the abstract machine.
-/
import Derived.Test.YtapnigckcnknoaaDoorX12
import Derived.Test.YtapnigckcnknoaaDoorX17
import Derived.Test.YtapnigckcnknoaaDoorX15
set_option linter.unusedVariables false
set_option linter.unusedSimpArgs false
namespace Go.Ab
open Go Go.RowKit Go.Proofs Go.Shelf
set_option maxRecDepth 10000
set_option maxHeartbeats 16000000
def twos : List Bs := [[124, 124], [38, 38], [61, 61], [33, 61], [60, 61], [62, 61], [60, 60], [62, 62]]
def oneS : List Bs := [[124], [94], [38], [60], [62], [43], [45], [42], [47], [37], [126], [33], [40], [41], [44], [61]]
def symsL : List Bs := [[124, 124], [38, 38], [61, 61], [33, 61], [60, 61], [62, 61], [60, 60], [62, 62], [124], [94], [38], [60], [62], [43], [45], [42], [47], [37], [126], [33], [40], [41], [44], [61]]
def pfx (s x : Bs) : Bool := decide ((s.length : Int) ≥ (x.length : Int)) && s.take x.length == x
theorem find_len {s : Bs} {k : Nat} : ∀ {L : List Bs}, (∀ x ∈ L, x.length = k) → k ≤ s.length → L.find? (pfx s) = if L.contains (s.take k) then some (s.take k) else none
  | [], _, _ => rfl
  | x :: L, h, hk => by
    have hx := h x (by simp)
    rw [List.find?_cons, List.contains_cons, find_len (fun y hy => h y (by simp [hy])) hk]
    have h1 : pfx s x = (s.take k == x) := by
      unfold pfx
      rw [hx, decide_eq_true (by omega), Bool.true_and]
    rw [h1]
    cases h2 : (s.take k == x)
    · simp
    · have : s.take k = x := by simpa using h2
      simp [this]
theorem find_short {s : Bs} {k : Nat} {L : List Bs} (h : ∀ x ∈ L, x.length = k) (hk : s.length < k) : L.find? (pfx s) = none := by
  rw [List.find?_eq_none]
  intro x hx
  unfold pfx
  rw [h x hx, decide_eq_false (by omega)]
  simp
theorem ones_mem : ∀ n : Nat, n < 256 → decide (Lib.indexByte ones (UInt8.ofNat n) ≥ 0) = oneS.contains [UInt8.ofNat n] := by decide
theorem sym_find (s : Bs) : symB s = (symsL.find? (pfx s)).getD [] := by
  have e : symsL = twos ++ oneS := rfl
  have h2 : ∀ x ∈ twos, x.length = 2 := by decide
  have h1 : ∀ x ∈ oneS, x.length = 1 := by decide
  have hT : symT s = (oneS.find? (pfx s)).getD [] := by
    cases s with
    | nil => rw [find_short h1 (by simp)]; rfl
    | cons c r =>
      rw [find_len h1 (by simp), show (c :: r).take 1 = [c] from rfl, symT]
      have := ones_mem c.toNat c.toNat_lt
      rw [UInt8.ofNat_toNat] at this
      rw [this]
      cases oneS.contains [c] <;> rfl
  rw [e, List.find?_append, symB, hT]
  by_cases hl : s.length < 2
  · rw [find_short h2 hl, decide_eq_false (by omega)]
    rfl
  · rw [find_len h2 (by omega), decide_eq_true (by omega), Bool.true_and]
    have hq : symQ (s.take 2) = twos.contains (s.take 2) := by
      unfold symQ twos
      generalize s.take 2 = x
      simp only [List.contains_cons, List.contains_nil, Bool.or_false]
    rw [hq]
    cases twos.contains (s.take 2) <;> rfl
noncomputable def g_symsR : List D → Option D := encSpec (fun x : Unit => []) (fun x : Unit => True) (fun x : Unit => .list (symsL.map .str))
theorem g_symsR_eq  (hd : True) : g_symsR [] = some (.list (symsL.map .str)) := encSpec_eq (x := ()) hd fun y hy => by
    rfl
theorem f_symsR_ok : PureOK Tryd.prog 50 false g_symsR := by
  have hΓ := Γ0_ok
  refine pure_enc (n := 2) (rs := [.tmp 0]) Tryd.func50 (by kernel_rfl) rfl (by kernel_rfl) (by kernel_rfl) ?_
  rintro _ hd
  (try dsimp only at hd ⊢)
  refine ⟨fun h => (by cases h), fun k hz0 => ?_⟩
  rw [start_frame (by simp)]; simp only [enumV, go_sem, emptyH]
  repeat (first
    | (apply axJ; (focus ((with_reducible constructor) <;> rfl)))
    | (apply awT mixedOK hΓ (by kernel_rfl); (simp (disch := omega) only [go_sem, ↓reduceIte, dk, ↓lk] <;> with_reducible rfl))
    | ((first | apply awR hΓ | apply awG | apply awH mixedOK hΓ rfl (by kernel_rfl) | apply ovE rfl); (simp (disch := omega) only [go_sem, ↓reduceIte, dk, ↓lk] <;> with_reducible rfl); exact trivial)
    | rfl)
  try rfl
theorem runN_at {s : Bs} {n : Nat} {nm : Bool} (hn : n ≤ s.length) (h1 : (s.take n).any (fun b => runQ nm b.toNat) = false) (h2 : ∀ h : n < s.length, runQ nm s[n].toNat = true) : runN s nm = n := by
  unfold runN runI
  by_cases hl : n < s.length
  · have := idx_at (p := fun b : UInt8 => runQ nm b.toNat) hl (h2 hl) h1
    rw [this, if_neg (by simp only [decide_eq_true_eq]; omega)]
    omega
  · have e : n = s.length := by omega
    subst e
    rw [List.take_length] at h1
    rw [idx_none (p := fun b : UInt8 => runQ nm b.toNat) h1, if_pos (by decide)]
    omega
noncomputable def g_nextR : List D → Option D := encSpec (fun x : Bs => [.str x]) (fun x : Bs => x.length ≤ 1099511627776 ∧ x ≠ []) (fun x : Bs => eNx (nextB x))
theorem g_nextR_eq {s : Bs} (hd : s.length ≤ 1099511627776 ∧ s ≠ []) : g_nextR [.str s] = some (eNx (nextB s)) := encSpec_eq (x := s) hd fun y hy => by
    simp only [List.cons.injEq, and_true, true_and, D.str.injEq, D.int.injEq, D.list.injEq, D.bool.injEq, D.agg.injEq, D.clo.injEq, Int.natCast_inj, inj_ie, D.ref.injEq, eTk_ie, eTk_e] at hy
    rw [hy]
theorem f_nextR_ok : PureOK Tryd.prog 32 false g_nextR := by
  have hΓ := Γp f_letR_ok (Γp f_digR_ok (Γp f_numR5_ok (Γp f_symsR_ok (Γn))))
  refine pure_enc (n := 102) (rs := [.cell 2 46, .tmp 3]) Tryd.func32 (by kernel_rfl) rfl (by kernel_rfl) (by kernel_rfl) ?_
  rintro s hd
  (try dsimp only at hd ⊢)
  refine ⟨fun h => (by cases h), fun k hz0 => ?_⟩
  obtain ⟨hs, hne⟩ := hd
  have hlen : 0 < s.length := List.length_pos_iff.2 hne
  have hb0 : ∀ h : 0 < s.length, s[0]'h = s.headD 0 := fun h => by cases s with | nil => exact absurd rfl hne | cons c r => rfl
  have e5 := g_letR_eq (c := ((s.headD 0).toNat : Int)) trivial
  have e6 := g_digR_eq (c := ((s.headD 0).toNat : Int)) trivial
  unfold nextB
  rw [start_frame (by simp)]; simp only [enumV, go_sem, emptyH]
  cases k1 : lettI ((s.headD 0).toNat : Int)
  case true =>
    rw [k1] at e5
    simp only [if_true]
    repeat (first
      | (apply axJ; (focus ((with_reducible constructor) <;> rfl)))
      | (apply awT mixedOK hΓ (by kernel_rfl); (simp (disch := omega) only [go_sem, ↓reduceIte, dk, ↓lk, Int.reduceBEq, Int.reduceBNe, Bool.true_bne, Bool.false_bne, Bool.not_true, Bool.not_false, Int.reduceToNat, hb0, e5] <;> with_reducible rfl))
      | ((first | apply awR hΓ | apply awG | apply awH mixedOK hΓ rfl (by kernel_rfl) | apply ovE rfl); (simp (disch := omega) only [go_sem, ↓reduceIte, dk, ↓lk, Int.reduceBEq, Int.reduceBNe, Bool.true_bne, Bool.false_bne, Bool.not_true, Bool.not_false, Int.reduceToNat, hb0, e5] <;> with_reducible rfl); exact trivial)
      | rfl)
    refine awp_loop_at (X := Nat) (fun n => (frame 102 [(0, .data (.str s)), (2, .ptr 0 0), (4, .data (i64 n))])) (fun _ => [(0, .box [.data (i64 0), .data (.str [])])]) 6
      (fun n => n ≤ s.length ∧ (s.take n).any (fun b => runQ true b.toNat) = false) (fun n => s.length - n) 0 ⟨Nat.zero_le _, rfl⟩ (Weak.w) ?_
    rintro n ⟨hn, hpre⟩
    (try dsimp only at hn hpre ⊢)
    by_cases hi : n < s.length
    · have e1 := g_letR_eq (c := (s[n].toNat : Int)) trivial
      have e2 := g_digR_eq (c := (s[n].toNat : Int)) trivial
      have hnx := fun h => any_nx (p := fun b : UInt8 => runQ true b.toNat) hi hpre h
      have hex0 : runQ true s[n].toNat = true → runN s true = n := fun h => runN_at hn hpre fun _ => h
      have hrq : runQ true s[n].toNat = (!digI (s[n].toNat : Int) && !lettI (s[n].toNat : Int)) := by unfold runQ; simp
      (try dsimp only at hnx)
      rw [hrq] at hnx hex0
      generalize hy : s[n] = y at *
      cases ka : lettI (y.toNat : Int)
      · rw [ka] at e1
        cases kb : digI (y.toNat : Int)
        · rw [kb] at e2
          have hex : runN s true = n := hex0 (by rw [ka, kb]; rfl)
          rw [hex]
          cases hc : decide ((n : Int) > 32)
          · simp only [Bool.false_eq_true, if_false]
            repeat (first
              | (apply axJ; (focus ((with_reducible constructor) <;> rfl)))
              | (apply awT mixedOK hΓ (by kernel_rfl); (simp (disch := omega) only [go_sem, ↓reduceIte, dk, ↓lk, Int.reduceBEq, Int.reduceBNe, Bool.true_bne, Bool.false_bne, Bool.not_true, Bool.not_false, ↓ty_build46, Int.reduceToNat, Nat.sub_zero, List.drop_zero, hy, e1, e2, hc] <;> with_reducible rfl))
              | ((first | apply awR hΓ | apply awG | apply awH mixedOK hΓ rfl (by kernel_rfl) | apply ovE rfl); (simp (disch := omega) only [go_sem, ↓reduceIte, dk, ↓lk, Int.reduceBEq, Int.reduceBNe, Bool.true_bne, Bool.false_bne, Bool.not_true, Bool.not_false, ↓ty_build46, Int.reduceToNat, Nat.sub_zero, List.drop_zero, hy, e1, e2, hc] <;> with_reducible rfl); exact trivial)
              | rfl)
            try rfl
          · simp only [if_true]
            repeat (first
              | (apply axJ; (focus ((with_reducible constructor) <;> rfl)))
              | (apply awT mixedOK hΓ (by kernel_rfl); (simp (disch := omega) only [go_sem, ↓reduceIte, dk, ↓lk, Int.reduceBEq, Int.reduceBNe, Bool.true_bne, Bool.false_bne, Bool.not_true, Bool.not_false, ↓ty_build46, Int.reduceToNat, Nat.sub_zero, List.drop_zero, hy, e1, e2, hc] <;> with_reducible rfl))
              | ((first | apply awR hΓ | apply awG | apply awH mixedOK hΓ rfl (by kernel_rfl) | apply ovE rfl); (simp (disch := omega) only [go_sem, ↓reduceIte, dk, ↓lk, Int.reduceBEq, Int.reduceBNe, Bool.true_bne, Bool.false_bne, Bool.not_true, Bool.not_false, ↓ty_build46, Int.reduceToNat, Nat.sub_zero, List.drop_zero, hy, e1, e2, hc] <;> with_reducible rfl); exact trivial)
              | rfl)
            try rfl
        · rw [kb] at e2
          repeat (first
            | (apply axJ; (focus ((with_reducible constructor) <;> rfl)))
            | (apply awT mixedOK hΓ (by kernel_rfl); (simp (disch := omega) only [go_sem, ↓reduceIte, dk, ↓lk, Int.reduceBEq, Int.reduceBNe, Bool.true_bne, Bool.false_bne, Bool.not_true, Bool.not_false, hy, e1, e2] <;> with_reducible rfl))
            | ((first | apply awR hΓ | apply awG | apply awH mixedOK hΓ rfl (by kernel_rfl) | apply ovE rfl); (simp (disch := omega) only [go_sem, ↓reduceIte, dk, ↓lk, Int.reduceBEq, Int.reduceBNe, Bool.true_bne, Bool.false_bne, Bool.not_true, Bool.not_false, hy, e1, e2] <;> with_reducible rfl); exact trivial)
            | rfl)
          exact ⟨n + 1, ⟨by omega, hnx (by rw [ka, kb]; rfl)⟩, by omega, Weak.w⟩
      · rw [ka] at e1
        repeat (first
          | (apply axJ; (focus ((with_reducible constructor) <;> rfl)))
          | (apply awT mixedOK hΓ (by kernel_rfl); (simp (disch := omega) only [go_sem, ↓reduceIte, dk, ↓lk, Int.reduceBEq, Int.reduceBNe, Bool.true_bne, Bool.false_bne, Bool.not_true, Bool.not_false, hy, e1, e2] <;> with_reducible rfl))
          | ((first | apply awR hΓ | apply awG | apply awH mixedOK hΓ rfl (by kernel_rfl) | apply ovE rfl); (simp (disch := omega) only [go_sem, ↓reduceIte, dk, ↓lk, Int.reduceBEq, Int.reduceBNe, Bool.true_bne, Bool.false_bne, Bool.not_true, Bool.not_false, hy, e1, e2] <;> with_reducible rfl); exact trivial)
          | rfl)
        exact ⟨n + 1, ⟨by omega, hnx (by rw [ka]; simp)⟩, by omega, Weak.w⟩
    · have hex : runN s true = n := runN_at hn hpre fun h => absurd h hi
      have hn3 : n = s.length := by omega
      subst hn3
      rw [hex]
      cases hc : decide ((s.length : Int) > 32)
      · simp only [Bool.false_eq_true, if_false]
        repeat (first
          | (apply axJ; (focus ((with_reducible constructor) <;> rfl)))
          | (apply awT mixedOK hΓ (by kernel_rfl); (simp (disch := omega) only [go_sem, ↓reduceIte, dk, ↓lk, Int.reduceBEq, Int.reduceBNe, Bool.true_bne, Bool.false_bne, Bool.not_true, Bool.not_false, ↓ty_build46, Int.reduceToNat, Nat.sub_zero, List.drop_zero, hc] <;> with_reducible rfl))
          | ((first | apply awR hΓ | apply awG | apply awH mixedOK hΓ rfl (by kernel_rfl) | apply ovE rfl); (simp (disch := omega) only [go_sem, ↓reduceIte, dk, ↓lk, Int.reduceBEq, Int.reduceBNe, Bool.true_bne, Bool.false_bne, Bool.not_true, Bool.not_false, ↓ty_build46, Int.reduceToNat, Nat.sub_zero, List.drop_zero, hc] <;> with_reducible rfl); exact trivial)
          | rfl)
        try rfl
      · simp only [if_true]
        repeat (first
          | (apply axJ; (focus ((with_reducible constructor) <;> rfl)))
          | (apply awT mixedOK hΓ (by kernel_rfl); (simp (disch := omega) only [go_sem, ↓reduceIte, dk, ↓lk, Int.reduceBEq, Int.reduceBNe, Bool.true_bne, Bool.false_bne, Bool.not_true, Bool.not_false, ↓ty_build46, Int.reduceToNat, Nat.sub_zero, List.drop_zero, hc] <;> with_reducible rfl))
          | ((first | apply awR hΓ | apply awG | apply awH mixedOK hΓ rfl (by kernel_rfl) | apply ovE rfl); (simp (disch := omega) only [go_sem, ↓reduceIte, dk, ↓lk, Int.reduceBEq, Int.reduceBNe, Bool.true_bne, Bool.false_bne, Bool.not_true, Bool.not_false, ↓ty_build46, Int.reduceToNat, Nat.sub_zero, List.drop_zero, hc] <;> with_reducible rfl); exact trivial)
          | rfl)
        try rfl
  case false =>
    rw [k1] at e5
    simp only [Bool.false_eq_true, if_false]
    cases k2 : digI ((s.headD 0).toNat : Int)
    case true =>
      rw [k2] at e6
      simp only [if_true]
      repeat (first
        | (apply axJ; (focus ((with_reducible constructor) <;> rfl)))
        | (apply awT mixedOK hΓ (by kernel_rfl); (simp (disch := omega) only [go_sem, ↓reduceIte, dk, ↓lk, Int.reduceBEq, Int.reduceBNe, Bool.true_bne, Bool.false_bne, Bool.not_true, Bool.not_false, Int.reduceToNat, hb0, e5, e6] <;> with_reducible rfl))
        | ((first | apply awR hΓ | apply awG | apply awH mixedOK hΓ rfl (by kernel_rfl) | apply ovE rfl); (simp (disch := omega) only [go_sem, ↓reduceIte, dk, ↓lk, Int.reduceBEq, Int.reduceBNe, Bool.true_bne, Bool.false_bne, Bool.not_true, Bool.not_false, Int.reduceToNat, hb0, e5, e6] <;> with_reducible rfl); exact trivial)
        | rfl)
      refine awp_loop_at (X := Nat) (fun n => (frame 102 [(0, .data (.str s)), (2, .ptr 0 0), (5, .data (i64 n))])) (fun _ => [(0, .box [.data (i64 0), .data (.str [])])]) 9
        (fun n => n ≤ s.length ∧ (s.take n).any (fun b => runQ false b.toNat) = false) (fun n => s.length - n) 0 ⟨Nat.zero_le _, rfl⟩ (Weak.w) ?_
      rintro n ⟨hn, hpre⟩
      (try dsimp only at hn hpre ⊢)
      by_cases hi : n < s.length
      · have e2 := g_digR_eq (c := (s[n].toNat : Int)) trivial
        have e7 := g_letR_eq (c := (s[n].toNat : Int)) trivial
        have hnx := fun h => any_nx (p := fun b : UInt8 => runQ false b.toNat) hi hpre h
        have hex0 : runQ false s[n].toNat = true → runN s false = n := fun h => runN_at hn hpre fun _ => h
        have hrq : runQ false s[n].toNat = !digI (s[n].toNat : Int) := by unfold runQ; simp
        have hgd : s.getD n 0 = s[n] := by rw [List.getD_eq_getElem?_getD, List.getElem?_eq_getElem hi]; rfl
        (try dsimp only at hnx)
        rw [hrq] at hnx hex0
        generalize hy : s[n] = y at *
        cases kb : digI (y.toNat : Int)
        · rw [kb] at e2
          have hex : runN s false = n := hex0 (by rw [kb]; rfl)
          rw [hex]
          have e3 := g_numR5_eq (s := s.take n) (by rw [List.length_take]; omega)
          generalize hv : s.take n = v at *
          generalize numE v = q at *
          obtain ⟨q1, q2⟩ := q
          dsimp only at e3 ⊢
          cases hq : (q2 == 0)
          · have hq2 : (q2 != 0) = true := by simpa [bne] using hq
            simp only [Bool.false_eq_true, if_false]
            repeat (first
              | (apply axJ; (focus ((with_reducible constructor) <;> rfl)))
              | (apply awT mixedOK hΓ (by kernel_rfl); (simp (disch := omega) only [go_sem, ↓reduceIte, dk, ↓lk, Int.reduceBEq, Int.reduceBNe, Bool.true_bne, Bool.false_bne, Bool.not_true, Bool.not_false, ↓ty_build46, Int.reduceToNat, Nat.sub_zero, List.drop_zero, hy, e2, hv, e3, hq2] <;> with_reducible rfl))
              | ((first | apply awR hΓ | apply awG | apply awH mixedOK hΓ rfl (by kernel_rfl) | apply ovE rfl); (simp (disch := omega) only [go_sem, ↓reduceIte, dk, ↓lk, Int.reduceBEq, Int.reduceBNe, Bool.true_bne, Bool.false_bne, Bool.not_true, Bool.not_false, ↓ty_build46, Int.reduceToNat, Nat.sub_zero, List.drop_zero, hy, e2, hv, e3, hq2] <;> with_reducible rfl); exact trivial)
              | rfl)
            try rfl
          have hq2 : (q2 != 0) = false := by simpa [bne] using hq
          simp only [if_true]
          rw [hgd, show decide (n < s.length) = true from decide_eq_true hi, Bool.true_and]
          cases kc : lettI (y.toNat : Int)
          · rw [kc] at e7
            simp only [Bool.false_eq_true, if_false]
            repeat (first
              | (apply axJ; (focus ((with_reducible constructor) <;> rfl)))
              | (apply awT mixedOK hΓ (by kernel_rfl); (simp (disch := omega) only [go_sem, ↓reduceIte, dk, ↓lk, Int.reduceBEq, Int.reduceBNe, Bool.true_bne, Bool.false_bne, Bool.not_true, Bool.not_false, ↓ty_build46, Int.reduceToNat, Nat.sub_zero, List.drop_zero, hy, e2, hv, e3, hq2, e7] <;> with_reducible rfl))
              | ((first | apply awR hΓ | apply awG | apply awH mixedOK hΓ rfl (by kernel_rfl) | apply ovE rfl); (simp (disch := omega) only [go_sem, ↓reduceIte, dk, ↓lk, Int.reduceBEq, Int.reduceBNe, Bool.true_bne, Bool.false_bne, Bool.not_true, Bool.not_false, ↓ty_build46, Int.reduceToNat, Nat.sub_zero, List.drop_zero, hy, e2, hv, e3, hq2, e7] <;> with_reducible rfl); exact trivial)
              | rfl)
            try rfl
          · rw [kc] at e7
            simp only [if_true]
            repeat (first
              | (apply axJ; (focus ((with_reducible constructor) <;> rfl)))
              | (apply awT mixedOK hΓ (by kernel_rfl); (simp (disch := omega) only [go_sem, ↓reduceIte, dk, ↓lk, Int.reduceBEq, Int.reduceBNe, Bool.true_bne, Bool.false_bne, Bool.not_true, Bool.not_false, ↓ty_build46, Int.reduceToNat, Nat.sub_zero, List.drop_zero, hy, e2, hv, e3, hq2, e7] <;> with_reducible rfl))
              | ((first | apply awR hΓ | apply awG | apply awH mixedOK hΓ rfl (by kernel_rfl) | apply ovE rfl); (simp (disch := omega) only [go_sem, ↓reduceIte, dk, ↓lk, Int.reduceBEq, Int.reduceBNe, Bool.true_bne, Bool.false_bne, Bool.not_true, Bool.not_false, ↓ty_build46, Int.reduceToNat, Nat.sub_zero, List.drop_zero, hy, e2, hv, e3, hq2, e7] <;> with_reducible rfl); exact trivial)
              | rfl)
            try rfl
        · rw [kb] at e2
          repeat (first
            | (apply axJ; (focus ((with_reducible constructor) <;> rfl)))
            | (apply awT mixedOK hΓ (by kernel_rfl); (simp (disch := omega) only [go_sem, ↓reduceIte, dk, ↓lk, Int.reduceBEq, Int.reduceBNe, Bool.true_bne, Bool.false_bne, Bool.not_true, Bool.not_false, hy, e2] <;> with_reducible rfl))
            | ((first | apply awR hΓ | apply awG | apply awH mixedOK hΓ rfl (by kernel_rfl) | apply ovE rfl); (simp (disch := omega) only [go_sem, ↓reduceIte, dk, ↓lk, Int.reduceBEq, Int.reduceBNe, Bool.true_bne, Bool.false_bne, Bool.not_true, Bool.not_false, hy, e2] <;> with_reducible rfl); exact trivial)
            | rfl)
          exact ⟨n + 1, ⟨by omega, hnx (by rw [kb]; rfl)⟩, by omega, Weak.w⟩
      · have hex : runN s false = n := runN_at hn hpre fun h => absurd h hi
        have hn3 : n = s.length := by omega
        subst hn3
        rw [hex]
        have e3 := g_numR5_eq (s := s.take s.length) (by rw [List.length_take]; omega)
        generalize hv : s.take s.length = v at *
        generalize numE v = q at *
        obtain ⟨q1, q2⟩ := q
        dsimp only at e3 ⊢
        cases hq : (q2 == 0)
        · have hq2 : (q2 != 0) = true := by simpa [bne] using hq
          simp only [Bool.false_eq_true, if_false]
          repeat (first
            | (apply axJ; (focus ((with_reducible constructor) <;> rfl)))
            | (apply awT mixedOK hΓ (by kernel_rfl); (simp (disch := omega) only [go_sem, ↓reduceIte, dk, ↓lk, Int.reduceBEq, Int.reduceBNe, Bool.true_bne, Bool.false_bne, Bool.not_true, Bool.not_false, ↓ty_build46, Int.reduceToNat, Nat.sub_zero, List.drop_zero, hv, e3, hq2] <;> with_reducible rfl))
            | ((first | apply awR hΓ | apply awG | apply awH mixedOK hΓ rfl (by kernel_rfl) | apply ovE rfl); (simp (disch := omega) only [go_sem, ↓reduceIte, dk, ↓lk, Int.reduceBEq, Int.reduceBNe, Bool.true_bne, Bool.false_bne, Bool.not_true, Bool.not_false, ↓ty_build46, Int.reduceToNat, Nat.sub_zero, List.drop_zero, hv, e3, hq2] <;> with_reducible rfl); exact trivial)
            | rfl)
          try rfl
        have hq2 : (q2 != 0) = false := by simpa [bne] using hq
        simp only [if_true]
        rw [show decide (s.length < s.length) = false from decide_eq_false (Nat.lt_irrefl _), Bool.false_and]
        simp only [Bool.false_eq_true, if_false]
        repeat (first
          | (apply axJ; (focus ((with_reducible constructor) <;> rfl)))
          | (apply awT mixedOK hΓ (by kernel_rfl); (simp (disch := omega) only [go_sem, ↓reduceIte, dk, ↓lk, Int.reduceBEq, Int.reduceBNe, Bool.true_bne, Bool.false_bne, Bool.not_true, Bool.not_false, ↓ty_build46, Int.reduceToNat, Nat.sub_zero, List.drop_zero, hv, e3, hq2] <;> with_reducible rfl))
          | ((first | apply awR hΓ | apply awG | apply awH mixedOK hΓ rfl (by kernel_rfl) | apply ovE rfl); (simp (disch := omega) only [go_sem, ↓reduceIte, dk, ↓lk, Int.reduceBEq, Int.reduceBNe, Bool.true_bne, Bool.false_bne, Bool.not_true, Bool.not_false, ↓ty_build46, Int.reduceToNat, Nat.sub_zero, List.drop_zero, hv, e3, hq2] <;> with_reducible rfl); exact trivial)
          | rfl)
        try rfl
    case false =>
      rw [k2] at e6
      simp only [Bool.false_eq_true, if_false]
      have e4 := g_symsR_eq trivial
      have hx2 : ∀ x ∈ symsL, x.length ≤ 2 ∧ x ≠ [] := by decide
      have hl24 : symsL.length = 24 := rfl
      rw [sym_find]
      repeat (first
        | (apply axJ; (focus ((with_reducible constructor) <;> rfl)))
        | (apply awT mixedOK hΓ (by kernel_rfl); (simp (disch := omega) only [go_sem, ↓reduceIte, dk, ↓lk, Int.reduceBEq, Int.reduceBNe, Bool.true_bne, Bool.false_bne, Bool.not_true, Bool.not_false, Int.reduceToNat, hb0, e5, e6, e4] <;> with_reducible rfl))
        | ((first | apply awR hΓ | apply awG | apply awH mixedOK hΓ rfl (by kernel_rfl) | apply ovE rfl); (simp (disch := omega) only [go_sem, ↓reduceIte, dk, ↓lk, Int.reduceBEq, Int.reduceBNe, Bool.true_bne, Bool.false_bne, Bool.not_true, Bool.not_false, Int.reduceToNat, hb0, e5, e6, e4] <;> with_reducible rfl); exact trivial)
        | rfl)
      generalize symsL = L at *
      refine awp_loop_at (X := Nat) (fun i => (frame 102 [(0, .data (.str s)), (2, .ptr 0 0), (79, .data (.list (L.map .str))), (80, .data (i64 L.length)), (81, .data (i64 i))])) (fun _ => [(0, .box [.data (i64 0), .data (.str [])])]) 11
        (fun i => i ≤ L.length ∧ L.find? (pfx s) = (L.drop i).find? (pfx s)) (fun i => L.length - i) 0 ⟨Nat.zero_le _, rfl⟩ (Weak.w) ?_
      rintro i ⟨hi, hpre⟩
      (try dsimp only at hi hpre ⊢)
      rw [hpre]
      by_cases hi2 : i < L.length
      · have hdr := List.drop_eq_getElem_cons hi2
        obtain ⟨hy2, hy3⟩ := hx2 _ (List.getElem_mem hi2)
        rw [hdr] at hpre ⊢
        rw [List.find?_cons] at hpre ⊢
        generalize hy : L[i] = y at *
        unfold pfx at hpre ⊢
        cases ka : decide ((s.length : Int) ≥ (y.length : Int))
        · rw [ka] at hpre
          simp only [Bool.false_and] at hpre ⊢
          repeat (first
            | (apply axJ; (focus ((with_reducible constructor) <;> rfl)))
            | (apply awT mixedOK hΓ (by kernel_rfl); (simp (disch := omega) only [go_sem, ↓reduceIte, dk, ↓lk, Int.reduceBEq, Int.reduceBNe, Bool.true_bne, Bool.false_bne, Bool.not_true, Bool.not_false, hy, ka] <;> with_reducible rfl))
            | ((first | apply awR hΓ | apply awG | apply awH mixedOK hΓ rfl (by kernel_rfl) | apply ovE rfl); (simp (disch := omega) only [go_sem, ↓reduceIte, dk, ↓lk, Int.reduceBEq, Int.reduceBNe, Bool.true_bne, Bool.false_bne, Bool.not_true, Bool.not_false, hy, ka] <;> with_reducible rfl); exact trivial)
            | rfl)
          exact ⟨i + 1, ⟨by omega, rfl⟩, by omega, Weak.w⟩
        · rw [ka] at hpre
          have ka2 := of_decide_eq_true ka
          simp only [Bool.true_and] at hpre ⊢
          cases kb : (s.take y.length == y)
          · rw [kb] at hpre
            dsimp only at hpre ⊢
            repeat (first
              | (apply axJ; (focus ((with_reducible constructor) <;> rfl)))
              | (apply awT mixedOK hΓ (by kernel_rfl); (simp (disch := omega) only [go_sem, ↓reduceIte, dk, ↓lk, Int.reduceBEq, Int.reduceBNe, Bool.true_bne, Bool.false_bne, Bool.not_true, Bool.not_false, Int.reduceToNat, Nat.sub_zero, List.drop_zero, Int.toNat_natCast, hy, ka, kb] <;> with_reducible rfl))
              | ((first | apply awR hΓ | apply awG | apply awH mixedOK hΓ rfl (by kernel_rfl) | apply ovE rfl); (simp (disch := omega) only [go_sem, ↓reduceIte, dk, ↓lk, Int.reduceBEq, Int.reduceBNe, Bool.true_bne, Bool.false_bne, Bool.not_true, Bool.not_false, Int.reduceToNat, Nat.sub_zero, List.drop_zero, Int.toNat_natCast, hy, ka, kb] <;> with_reducible rfl); exact trivial)
              | rfl)
            exact ⟨i + 1, ⟨by omega, rfl⟩, by omega, Weak.w⟩
          · have hyb : (y == []) = false := by simpa using hy3
            simp only [Option.getD_some, hyb, Bool.false_eq_true, if_false]
            repeat (first
              | (apply axJ; (focus ((with_reducible constructor) <;> rfl)))
              | (apply awT mixedOK hΓ (by kernel_rfl); (simp (disch := omega) only [go_sem, ↓reduceIte, dk, ↓lk, Int.reduceBEq, Int.reduceBNe, Bool.true_bne, Bool.false_bne, Bool.not_true, Bool.not_false, ↓ty_build46, Int.reduceToNat, Nat.sub_zero, List.drop_zero, Int.toNat_natCast, hy, ka, kb] <;> with_reducible rfl))
              | ((first | apply awR hΓ | apply awG | apply awH mixedOK hΓ rfl (by kernel_rfl) | apply ovE rfl); (simp (disch := omega) only [go_sem, ↓reduceIte, dk, ↓lk, Int.reduceBEq, Int.reduceBNe, Bool.true_bne, Bool.false_bne, Bool.not_true, Bool.not_false, ↓ty_build46, Int.reduceToNat, Nat.sub_zero, List.drop_zero, Int.toNat_natCast, hy, ka, kb] <;> with_reducible rfl); exact trivial)
              | rfl)
            try rfl
      have hi3 : i = L.length := by omega
      subst hi3
      rw [List.drop_length]
      repeat (first
        | (apply axJ; (focus ((with_reducible constructor) <;> rfl)))
        | (apply awT mixedOK hΓ (by kernel_rfl); (simp (disch := omega) only [go_sem, ↓reduceIte, dk, ↓lk, Int.reduceBEq, Int.reduceBNe, Bool.true_bne, Bool.false_bne, Bool.not_true, Bool.not_false, ↓ty_build46] <;> with_reducible rfl))
        | ((first | apply awR hΓ | apply awG | apply awH mixedOK hΓ rfl (by kernel_rfl) | apply ovE rfl); (simp (disch := omega) only [go_sem, ↓reduceIte, dk, ↓lk, Int.reduceBEq, Int.reduceBNe, Bool.true_bne, Bool.false_bne, Bool.not_true, Bool.not_false, ↓ty_build46] <;> with_reducible rfl); exact trivial)
        | rfl)
      try rfl
end Go.Ab
namespace Go.Ab
open Go Go.RowKit Go.Proofs Go.Shelf
set_option maxRecDepth 10000
set_option maxHeartbeats 16000000
noncomputable def g_toksR : List D → Option D := encSpec (fun x : Bs => [.str x]) (fun x : Bs => x.length ≤ 1099511627776) (fun x : Bs => eTks (toksB x))
theorem g_toksR_eq {s : Bs} (hd : s.length ≤ 1099511627776) : g_toksR [.str s] = some (eTks (toksB s)) := encSpec_eq (x := s) hd fun y hy => by
    simp only [List.cons.injEq, and_true, true_and, D.str.injEq, D.int.injEq, D.list.injEq, D.bool.injEq, D.agg.injEq, D.clo.injEq, Int.natCast_inj, inj_ie, D.ref.injEq, eTk_ie, eTk_e] at hy
    rw [hy]
theorem f_toksR_ok : PureOK Tryd.prog 14 false g_toksR := by
  have hΓ := Γp f_nextR_ok (Γn)
  refine pure_enc (n := 44) (rs := [.tmp 2, .tmp 3]) Tryd.func14 (by kernel_rfl) rfl (by kernel_rfl) (by kernel_rfl) ?_
  rintro s hd
  (try dsimp only at hd ⊢)
  refine ⟨fun h => (by cases h), fun k hz0 => ?_⟩
  unfold toksB
  rw [start_frame (by simp)]; simp only [enumV, go_sem, emptyH]
  by_cases hl : (s.length : Int) > 65536
  · have h1 : decide ((s.length : Int) > 65536) = true := decide_eq_true hl
    rw [h1]
    simp only [if_true]
    repeat (first
      | (apply axJ; (focus ((with_reducible constructor) <;> rfl)))
      | (apply awT mixedOK hΓ (by kernel_rfl); (simp (disch := omega) only [go_sem, ↓reduceIte, dk, ↓lk, Int.reduceBEq, Int.reduceBNe, Bool.true_bne, Bool.false_bne, Bool.not_true, Bool.not_false, h1] <;> with_reducible rfl))
      | ((first | apply awR hΓ | apply awG | apply awH mixedOK hΓ rfl (by kernel_rfl) | apply ovE rfl); (simp (disch := omega) only [go_sem, ↓reduceIte, dk, ↓lk, Int.reduceBEq, Int.reduceBNe, Bool.true_bne, Bool.false_bne, Bool.not_true, Bool.not_false, h1] <;> with_reducible rfl); exact trivial)
      | rfl)
    try rfl
  have h1 : decide ((s.length : Int) > 65536) = false := decide_eq_false hl
  rw [h1]
  simp only [Bool.false_eq_true, if_false]
  repeat (first
    | (apply axJ; (focus ((with_reducible constructor) <;> rfl)))
    | (apply awT mixedOK hΓ (by kernel_rfl); (simp (disch := omega) only [go_sem, ↓reduceIte, dk, ↓lk, Int.reduceBEq, Int.reduceBNe, Bool.true_bne, Bool.false_bne, Bool.not_true, Bool.not_false, h1] <;> with_reducible rfl))
    | ((first | apply awR hΓ | apply awG | apply awH mixedOK hΓ rfl (by kernel_rfl) | apply ovE rfl); (simp (disch := omega) only [go_sem, ↓reduceIte, dk, ↓lk, Int.reduceBEq, Int.reduceBNe, Bool.true_bne, Bool.false_bne, Bool.not_true, Bool.not_false, h1] <;> with_reducible rfl); exact trivial)
    | rfl)
  refine awp_weak (Weak.nilrowF (i := 4) 46 (sz := 2) (by omega) (by omega) rfl) ?_
  refine awp_loop_at (X := List Tk × Nat) (fun y => (frame 44 [(0, .data (.str s)), (4, .row 7 y.1.length), (5, .data (i64 y.2))])) (fun y => [(7, .row 46 2 (y.1.map eTk))]) 8
    (fun y => toksF s.length [] s = toksF (s.drop y.2).length y.1 (s.drop y.2) ∧ y.2 ≤ s.length ∧ y.1.length ≤ 256) (fun y => s.length - y.2) ([], 0) ⟨rfl, Nat.zero_le _, Nat.zero_le _⟩ (Weak.v (by (simp [ConvF, lookV, Conv, ints, upd]; done)) (by (simp (disch := omega) only [TabSub, look, if_pos, if_neg, Obj.refsOK, refsOKs, AV.refsOK, decide_eq_true_eq, Bool.and_true, Bool.and_self, upd] ) <;> ((repeat' apply And.intro) <;> first | exact True.intro | omega | (simp; done) | rfl))) ?_
  rintro ⟨acc, i⟩ ⟨h2, h3, h4⟩
  dsimp only at h2 h3 h4 ⊢
  by_cases hi : i < s.length
  case neg =>
    have hi3 : i = s.length := by omega
    subst hi3
    rw [List.drop_length] at h2
    rw [h2, show toksF ([] : Bs).length acc [] = (acc, 0) from rfl]
    repeat (first
      | (apply axJ; (focus ((with_reducible constructor) <;> rfl)))
      | (apply awT mixedOK hΓ (by kernel_rfl); (simp (disch := omega) only [go_sem, ↓reduceIte, dk, ↓lk, Int.reduceBEq, Int.reduceBNe, Bool.true_bne, Bool.false_bne, Bool.not_true, Bool.not_false] <;> with_reducible rfl))
      | ((first | apply awR hΓ | apply awG | apply awH mixedOK hΓ rfl (by kernel_rfl) | apply ovE rfl); (simp (disch := omega) only [go_sem, ↓reduceIte, dk, ↓lk, Int.reduceBEq, Int.reduceBNe, Bool.true_bne, Bool.false_bne, Bool.not_true, Bool.not_false] <;> with_reducible rfl); exact trivial)
      | rfl)
    try rfl
  have hdr := List.drop_eq_getElem_cons hi
  have hdl : (s.drop i).length = s.length - i := List.length_drop
  have hne : s.drop i ≠ [] := fun e => by rw [hdr] at e; cases e
  have hb : (((s[i].toNat : Nat) : Int) == 32) = (s[i] == 32) := byteEq s[i] 32
  have e1 := g_nextR_eq (s := s.drop i) ⟨by omega, hne⟩
  have hdd : ∀ k, (s.drop i).drop k = s.drop (i + k) := fun k => List.drop_drop
  have hd1 : s.drop (i + 1) = (s.drop i).drop 1 := (hdd 1).symm
  have hnp := fun h => next_pos (s := s.drop i) hne h
  have htn : ∀ c t, s.drop i = c :: t → (c == 32) = false → (acc.length == 256) = false → ((nextB (s.drop i)).2 == 0) = true → toksF (s.drop i).length acc (s.drop i) = toksF (s.drop (i + (nextB (s.drop i)).1.2.length)).length (acc ++ [(nextB (s.drop i)).1]) (s.drop (i + (nextB (s.drop i)).1.2.length)) := fun c t hc h5 h6 h7 => by
    rw [← hdd, hc]
    rw [hc] at h7
    exact toks_next t h5 h6 h7
  have htb : ∀ c t, s.drop i = c :: t → (c == 32) = true → toksF (s.drop i).length acc (s.drop i) = toksF (s.drop (i + 1)).length acc (s.drop (i + 1)) := fun c t hc h5 => by
    have h6 : c = 32 := by simpa using h5
    rw [hd1, hc, h6]
    exact toks_blank
  have hte : ∀ c t, s.drop i = c :: t → (c == 32) = false → toksF (s.drop i).length acc (s.drop i) = if acc.length == 256 then ([], 10) else if (nextB (s.drop i)).2 == 0 then toksF t.length (acc ++ [(nextB (s.drop i)).1]) ((s.drop i).drop (nextB (s.drop i)).1.2.length) else ([], (nextB (s.drop i)).2) := fun c t hc h5 => by
    rw [hc, List.length_cons, toksF, h5]
    rfl
  replace htn := htn _ _ hdr
  replace htb := htb _ _ hdr
  replace hte := hte _ _ hdr
  generalize hy : s[i] = y at *
  cases hc : (y == 32)
  case true =>
    rw [hc] at hb
    rw [htb hc] at h2
    repeat (first
      | (apply axJ; (focus ((with_reducible constructor) <;> rfl)))
      | (apply awT mixedOK hΓ (by kernel_rfl); (simp (disch := omega) only [go_sem, ↓reduceIte, dk, ↓lk, Int.reduceBEq, Int.reduceBNe, Bool.true_bne, Bool.false_bne, Bool.not_true, Bool.not_false, hy, hb] <;> with_reducible rfl))
      | ((first | apply awR hΓ | apply awG | apply awH mixedOK hΓ rfl (by kernel_rfl) | apply ovE rfl); (simp (disch := omega) only [go_sem, ↓reduceIte, dk, ↓lk, Int.reduceBEq, Int.reduceBNe, Bool.true_bne, Bool.false_bne, Bool.not_true, Bool.not_false, hy, hb] <;> with_reducible rfl); exact trivial)
      | rfl)
    exact ⟨(acc, i + 1), ⟨h2, by dsimp only; omega, h4⟩, by dsimp only; omega, Weak.w⟩
  rw [hc] at hb
  have hte := hte hc
  have htn := htn hc
  cases ha : (acc.length == 256)
  case true =>
    have ha2 : (((acc.length : Nat) : Int) == 256) = true := by
      rw [beq_iff_eq] at ha ⊢
      omega
    rw [h2, hte, ha]
    simp only [if_true]
    repeat (first
      | (apply axJ; (focus ((with_reducible constructor) <;> rfl)))
      | (apply awT mixedOK hΓ (by kernel_rfl); (simp (disch := omega) only [go_sem, ↓reduceIte, dk, ↓lk, Int.reduceBEq, Int.reduceBNe, Bool.true_bne, Bool.false_bne, Bool.not_true, Bool.not_false, hy, hb, ha2] <;> with_reducible rfl))
      | ((first | apply awR hΓ | apply awG | apply awH mixedOK hΓ rfl (by kernel_rfl) | apply ovE rfl); (simp (disch := omega) only [go_sem, ↓reduceIte, dk, ↓lk, Int.reduceBEq, Int.reduceBNe, Bool.true_bne, Bool.false_bne, Bool.not_true, Bool.not_false, hy, hb, ha2] <;> with_reducible rfl); exact trivial)
      | rfl)
    try rfl
  have ha2 : (((acc.length : Nat) : Int) == 256) = false := by
    rw [beq_eq_false_iff_ne] at ha ⊢
    omega
  rw [ha] at hte
  replace htn := htn ha
  have hsl : List.take (s.length - i) (List.drop i s) = List.drop i s := List.take_of_length_le (by omega)
  cases hn : ((nextB (s.drop i)).2 == 0)
  · rw [hn] at hte
    simp only [Bool.false_eq_true, if_false] at hte
    rw [h2, hte]
    generalize hr : s.drop i = r at *
    generalize nextB r = p at *
    obtain ⟨⟨p1, p2⟩, p3⟩ := p
    replace e1 : g_nextR [.str r] = some (.tup [.agg [.int .i64 p1, .str p2], .int .i64 p3]) := e1
    have hn2 : (p3 != 0) = true := by simpa [bne] using hn
    repeat (first
      | (apply axJ; (focus ((with_reducible constructor) <;> rfl)))
      | (apply awT mixedOK hΓ (by kernel_rfl); (simp (disch := omega) only [go_sem, ↓reduceIte, dk, ↓lk, Int.reduceBEq, Int.reduceBNe, Bool.true_bne, Bool.false_bne, Bool.not_true, Bool.not_false, Int.toNat_natCast, hy, hb, ha2, hr, hsl, e1, hn2] <;> with_reducible rfl))
      | ((first | apply awR hΓ | apply awG | apply awH mixedOK hΓ rfl (by kernel_rfl) | apply ovE rfl); (simp (disch := omega) only [go_sem, ↓reduceIte, dk, ↓lk, Int.reduceBEq, Int.reduceBNe, Bool.true_bne, Bool.false_bne, Bool.not_true, Bool.not_false, Int.toNat_natCast, hy, hb, ha2, hr, hsl, e1, hn2] <;> with_reducible rfl); exact trivial)
      | rfl)
    try rfl
  · obtain ⟨hp1, hp2⟩ := hnp (by simpa using hn)
    rw [htn hn] at h2
    clear htn hte htb hnp hdd hd1
    generalize hr : s.drop i = r at *
    generalize nextB r = p at *
    obtain ⟨⟨p1, p2⟩, p3⟩ := p
    replace e1 : g_nextR [.str r] = some (.tup [.agg [.int .i64 p1, .str p2], .int .i64 p3]) := e1
    have hn2 : (p3 != 0) = false := by simpa [bne] using hn
    dsimp only at hp1 hp2 h2 ⊢
    repeat (first
      | (apply axJ; (focus ((with_reducible constructor) <;> rfl)))
      | (apply awT mixedOK hΓ (by kernel_rfl); (simp (disch := omega) only [go_sem, ↓reduceIte, dk, ↓lk, Int.reduceBEq, Int.reduceBNe, Bool.true_bne, Bool.false_bne, Bool.not_true, Bool.not_false, Int.toNat_natCast, hy, hb, ha2, hr, hsl, e1, hn2] <;> with_reducible rfl))
      | ((first | apply awR hΓ | apply awG | apply awH mixedOK hΓ rfl (by kernel_rfl) | apply ovE rfl); (simp (disch := omega) only [go_sem, ↓reduceIte, dk, ↓lk, Int.reduceBEq, Int.reduceBNe, Bool.true_bne, Bool.false_bne, Bool.not_true, Bool.not_false, Int.toNat_natCast, hy, hb, ha2, hr, hsl, e1, hn2] <;> with_reducible rfl); exact trivial)
      | rfl)
    refine ⟨(acc ++ [(p1, p2)], i + p2.length), ⟨h2, by dsimp only; omega, ?_⟩, by dsimp only; omega, ?_⟩
    · dsimp only
      rw [beq_eq_false_iff_ne] at ha
      rw [List.length_append]
      simp only [List.length_cons, List.length_nil]
      omega
    · have hm : (acc ++ [((p1, p2) : Tk)]).map eTk = acc.map eTk ++ [.agg [i64 p1, .str p2]] := by rw [List.map_append]; rfl
      exact Weak.v (by (simp [ConvF, lookV, Conv, ints, hm]; done)) (by (simp (disch := omega) only [TabSub, look, if_pos, if_neg, Obj.refsOK, refsOKs, AV.refsOK, decide_eq_true_eq, Bool.and_true, Bool.and_self, hm] ) <;> ((repeat' apply And.intro) <;> first | exact True.intro | omega | (simp; done) | rfl))
end Go.Ab
namespace Go.Ab
open Go Go.RowKit Go.Proofs Go.Shelf
set_option maxRecDepth 10000
set_option maxHeartbeats 16000000
end Go.Ab
namespace Go.Ab
open Go Go.RowKit Go.Proofs
set_option maxRecDepth 10000
set_option maxHeartbeats 16000000
end Go.Ab
namespace Go.Ab
open Go Go.RowKit Go.Proofs
set_option maxRecDepth 10000
set_option maxHeartbeats 16000000
def tokRow : List Bs → List Tk → List Tk × Int
  | [], acc => (acc, 0)
  | s :: r, acc => if (toksB s).2 == 0 then tokRow r (acc ++ (toksB s).1) else ([], (toksB s).2)
def bodyT (R : List Bs) : List Tk × Int :=
  if (tokRow R []).2 == 0 then (if decide (((tokRow R []).1.length : Int) > 256) then ([], 10) else ((tokRow R []).1, 0)) else ([], (tokRow R []).2)
def bodyR (l : List Bs) (b : Sp) : List Tk × Int :=
  if decide (b.2.1 < 0) || (decide (b.2.2 < b.2.1) || decide (b.2.2 > (l.length : Int))) then ([], 3) else bodyT ((l.drop b.2.1.toNat).take (b.2.2.toNat - b.2.1.toNat))
def bodyB (fs : List Fl) (b : Sp) : List Tk × Int :=
  if (findF fs b.1).2 then (if (linesE (findF fs b.1).1).2 == 0 then bodyR (linesE (findF fs b.1).1).1 b else ([], (linesE (findF fs b.1).1).2)) else ([], 7)
theorem toksF_len : ∀ (f : Nat) (acc : List Tk) (s : Bs), acc.length ≤ 256 → (toksF f acc s).1.length ≤ 256
  | 0, _, _, h => h
  | _ + 1, _, [], h => h
  | f + 1, acc, c :: r, h => by
    rw [toksF]
    split
    · exact toksF_len f acc r h
    · split
      · simp
      · rename_i h2
        have h3 : acc.length ≠ 256 := by simpa using h2
        split
        · exact toksF_len f _ _ (by rw [List.length_append]; simp only [List.length_cons, List.length_nil]; omega)
        · simp
theorem toks_len (s : Bs) : (toksB s).1.length ≤ 256 := by
  unfold toksB
  split
  · simp
  · exact toksF_len _ _ _ (by simp)
theorem find_le {l : List Fl} {m : Nat} (h : ∀ f ∈ l, f.2.length ≤ m) (q : Bs) : (findF l q).1.length ≤ m := by
  unfold findF
  cases hf : l.find? (fun f => f.1 == q) with
  | none => exact Nat.zero_le _
  | some f => exact h f (List.mem_of_find?_eq_some hf)
noncomputable def g_bodyP : List D → Option D := encSpec (fun x : (List Fl) × Mc => [.list (x.1.map eFl), eMc x.2]) (fun x : (List Fl) × Mc => x.1.length ≤ 1099511627776 ∧ ∀ f ∈ x.1, f.2.length ≤ 1000000000) (fun x : (List Fl) × Mc => eTks (bodyB x.1 x.2.body))
theorem g_bodyP_eq {fs : List Fl} {m : Mc} (hd : fs.length ≤ 1099511627776 ∧ ∀ f ∈ fs, f.2.length ≤ 1000000000) : g_bodyP [.list (fs.map eFl), eMc m] = some (eTks (bodyB fs m.body)) := encSpec_eq (x := (fs, m)) hd fun y hy => by
    obtain ⟨y0, y1⟩ := y; simp only [List.cons.injEq, and_true, true_and, D.str.injEq, D.int.injEq, D.list.injEq, D.bool.injEq, D.agg.injEq, D.clo.injEq, Int.natCast_inj, inj_ie, D.ref.injEq, eTk_ie, eTk_e, eFl_ie, eSp_ie, eMc_e] at hy
    (try obtain ⟨rfl, rfl⟩ := hy)
    (try subst_vars)
    rfl
theorem f_bodyP_ok : PureOK Tryd.prog 20 false g_bodyP := by
  have hΓ := Γp f_tfind_ok (Γp f_linesP_ok (Γp f_toksP_ok (Γn)))
  refine pure_enc (n := 83) (rs := [.tmp 4, .tmp 5]) Tryd.func20 (by kernel_rfl) rfl (by kernel_rfl) (by kernel_rfl) ?_
  rintro ⟨fs, m⟩ hd
  (try dsimp only at hd ⊢)
  refine ⟨fun h => (by cases h), fun k hz0 => ?_⟩
  obtain ⟨d1, d2⟩ := hd
  obtain ⟨mn, mp, b1, b2, b3⟩ := m
  have hfl := find_le d2 b1
  have e1 := g_tfind_eq (l := fs) (q := b1) d1
  have e2 := g_linesP_eq (s := (findF fs b1).1) (by omega)
  unfold bodyB
  dsimp only
  rw [eMc_eq]
  dsimp only
  generalize findF fs b1 = F at *
  obtain ⟨F1, F2⟩ := F
  dsimp only at *
  rw [start_frame (by simp)]; simp only [enumV, go_sem, emptyH]
  cases F2
  · simp only [Bool.false_eq_true, if_false]
    repeat (first
      | (apply axJ; (focus ((with_reducible constructor) <;> rfl)))
      | (apply awT mixedOK hΓ (by kernel_rfl); (simp (disch := omega) only [go_sem, ↓reduceIte, dk, ↓lk, Int.reduceBEq, Int.reduceBNe, Bool.true_bne, Bool.false_bne, Bool.not_true, Bool.not_false, e1] <;> with_reducible rfl))
      | ((first | apply awR hΓ | apply awG | apply awH mixedOK hΓ rfl (by kernel_rfl) | apply ovE rfl); (simp (disch := omega) only [go_sem, ↓reduceIte, dk, ↓lk, Int.reduceBEq, Int.reduceBNe, Bool.true_bne, Bool.false_bne, Bool.not_true, Bool.not_false, e1] <;> with_reducible rfl); exact trivial)
      | rfl)
    try rfl
  simp only [if_true]
  have hLb := lines_bd F1
  generalize linesE F1 = G at *
  obtain ⟨G1, G2⟩ := G
  replace e2 : g_linesP [.str F1] = some (.tup [.list (G1.map .str), .int .i64 G2]) := e2
  dsimp only
  cases hG : (G2 == 0)
  · have hG2 : (G2 != 0) = true := by simpa [bne] using hG
    simp only [Bool.false_eq_true, if_false]
    repeat (first
      | (apply axJ; (focus ((with_reducible constructor) <;> rfl)))
      | (apply awT mixedOK hΓ (by kernel_rfl); (simp (disch := omega) only [go_sem, ↓reduceIte, dk, ↓lk, Int.reduceBEq, Int.reduceBNe, Bool.true_bne, Bool.false_bne, Bool.not_true, Bool.not_false, e1, e2, hG2] <;> with_reducible rfl))
      | ((first | apply awR hΓ | apply awG | apply awH mixedOK hΓ rfl (by kernel_rfl) | apply ovE rfl); (simp (disch := omega) only [go_sem, ↓reduceIte, dk, ↓lk, Int.reduceBEq, Int.reduceBNe, Bool.true_bne, Bool.false_bne, Bool.not_true, Bool.not_false, e1, e2, hG2] <;> with_reducible rfl); exact trivial)
      | rfl)
    try rfl
  have hG2 : (G2 != 0) = false := by simpa [bne] using hG
  simp only [if_true]
  unfold bodyR
  dsimp only
  cases hr1 : decide (b2 < 0)
  case true =>
    simp only [Bool.true_or, if_true]
    repeat (first
      | (apply axJ; (focus ((with_reducible constructor) <;> rfl)))
      | (apply awT mixedOK hΓ (by kernel_rfl); (simp (disch := omega) only [go_sem, ↓reduceIte, dk, ↓lk, Int.reduceBEq, Int.reduceBNe, Bool.true_bne, Bool.false_bne, Bool.not_true, Bool.not_false, e1, e2, hG2, hr1] <;> with_reducible rfl))
      | ((first | apply awR hΓ | apply awG | apply awH mixedOK hΓ rfl (by kernel_rfl) | apply ovE rfl); (simp (disch := omega) only [go_sem, ↓reduceIte, dk, ↓lk, Int.reduceBEq, Int.reduceBNe, Bool.true_bne, Bool.false_bne, Bool.not_true, Bool.not_false, e1, e2, hG2, hr1] <;> with_reducible rfl); exact trivial)
      | rfl)
    try rfl
  cases hr2 : decide (b3 < b2)
  case true =>
    simp only [Bool.true_or, Bool.or_true, if_true]
    repeat (first
      | (apply axJ; (focus ((with_reducible constructor) <;> rfl)))
      | (apply awT mixedOK hΓ (by kernel_rfl); (simp (disch := omega) only [go_sem, ↓reduceIte, dk, ↓lk, Int.reduceBEq, Int.reduceBNe, Bool.true_bne, Bool.false_bne, Bool.not_true, Bool.not_false, e1, e2, hG2, hr1, hr2] <;> with_reducible rfl))
      | ((first | apply awR hΓ | apply awG | apply awH mixedOK hΓ rfl (by kernel_rfl) | apply ovE rfl); (simp (disch := omega) only [go_sem, ↓reduceIte, dk, ↓lk, Int.reduceBEq, Int.reduceBNe, Bool.true_bne, Bool.false_bne, Bool.not_true, Bool.not_false, e1, e2, hG2, hr1, hr2] <;> with_reducible rfl); exact trivial)
      | rfl)
    try rfl
  cases hr3 : decide (b3 > (G1.length : Int))
  case true =>
    simp only [Bool.or_true, if_true]
    repeat (first
      | (apply axJ; (focus ((with_reducible constructor) <;> rfl)))
      | (apply awT mixedOK hΓ (by kernel_rfl); (simp (disch := omega) only [go_sem, ↓reduceIte, dk, ↓lk, Int.reduceBEq, Int.reduceBNe, Bool.true_bne, Bool.false_bne, Bool.not_true, Bool.not_false, e1, e2, hG2, hr1, hr2, hr3] <;> with_reducible rfl))
      | ((first | apply awR hΓ | apply awG | apply awH mixedOK hΓ rfl (by kernel_rfl) | apply ovE rfl); (simp (disch := omega) only [go_sem, ↓reduceIte, dk, ↓lk, Int.reduceBEq, Int.reduceBNe, Bool.true_bne, Bool.false_bne, Bool.not_true, Bool.not_false, e1, e2, hG2, hr1, hr2, hr3] <;> with_reducible rfl); exact trivial)
      | rfl)
    try rfl
  simp only [Bool.or_self, Bool.false_eq_true, if_false]
  have k1 := of_decide_eq_false hr1
  have k2 := of_decide_eq_false hr2
  have k3 := of_decide_eq_false hr3
  obtain ⟨f, rfl⟩ : ∃ f : Nat, b2 = (f : Int) := ⟨b2.toNat, by omega⟩
  obtain ⟨t, rfl⟩ : ∃ t : Nat, b3 = (t : Int) := ⟨b3.toNat, by omega⟩
  rw [Int.toNat_natCast, Int.toNat_natCast]
  have hsl : List.take (t - f) (List.drop f (List.map D.str G1)) = ((G1.drop f).take (t - f)).map D.str := by rw [List.map_take, List.map_drop]
  have hRl : ((G1.drop f).take (t - f)).length = t - f := by rw [List.length_take, List.length_drop]; omega
  have hRm : ∀ s ∈ (G1.drop f).take (t - f), s ∈ G1 := fun s hs => List.mem_of_mem_drop (List.mem_of_mem_take hs)
  generalize hR : (G1.drop f).take (t - f) = R at hsl hRl hRm ⊢
  clear hR
  repeat (first
    | (apply axJ; (focus ((with_reducible constructor) <;> rfl)))
    | (apply awT mixedOK hΓ (by kernel_rfl); (simp (disch := omega) only [go_sem, ↓reduceIte, dk, ↓lk, Int.reduceBEq, Int.reduceBNe, Bool.true_bne, Bool.false_bne, Bool.not_true, Bool.not_false, e1, e2, hG2, hr1, hr2, hr3, Int.toNat_natCast, hsl] <;> with_reducible rfl))
    | ((first | apply awR hΓ | apply awG | apply awH mixedOK hΓ rfl (by kernel_rfl) | apply ovE rfl); (simp (disch := omega) only [go_sem, ↓reduceIte, dk, ↓lk, Int.reduceBEq, Int.reduceBNe, Bool.true_bne, Bool.false_bne, Bool.not_true, Bool.not_false, e1, e2, hG2, hr1, hr2, hr3, Int.toNat_natCast, hsl] <;> with_reducible rfl); exact trivial)
    | rfl)
  obtain ⟨hL1, hL2⟩ := hLb
  dsimp only at hL1 hL2
  unfold bodyT
  refine awp_weak (Weak.nilrowF (i := 10) 46 (sz := 2) (by omega) (by omega) rfl) ?_
  refine awp_loop_at (X := Nat × List Tk) (fun y => (frame 83 [(10, .row 56 y.2.length), (61, .data (.list (R.map .str))), (62, .data (i64 R.length)), (63, .data (i64 y.1))])) (fun y => [(56, .row 46 2 (y.2.map eTk))]) 57
    (fun y => y.1 ≤ R.length ∧ tokRow R [] = tokRow (R.drop y.1) y.2 ∧ y.2.length ≤ y.1 * 256) (fun y => R.length - y.1) (0, []) ⟨Nat.zero_le _, rfl, Nat.zero_le _⟩ (Weak.v (by (simp [ConvF, lookV, Conv, ints, upd]; done)) (by (simp (disch := omega) only [TabSub, look, if_pos, if_neg, Obj.refsOK, refsOKs, AV.refsOK, decide_eq_true_eq, Bool.and_true, Bool.and_self, upd] ) <;> ((repeat' apply And.intro) <;> first | exact True.intro | omega | (simp; done) | rfl))) ?_
  rintro ⟨i, acc⟩ ⟨hi, hpre, hac⟩
  (try dsimp only at hi hpre hac ⊢)
  rw [hpre]
  by_cases hi2 : i < R.length
  · have hdr := List.drop_eq_getElem_cons hi2
    have hw := hL2 _ (hRm _ (List.getElem_mem hi2))
    have e3 := g_toksP_eq (s := R[i]) (by omega)
    have htl := toks_len R[i]
    rw [hdr] at hpre ⊢
    rw [tokRow] at hpre ⊢
    generalize hy : R[i] = y at *
    generalize toksB y = q at *
    obtain ⟨q1, q2⟩ := q
    replace e3 : g_toksP [.str y] = some (.tup [.list (q1.map eTk), .int .i64 q2]) := e3
    dsimp only at hpre htl ⊢
    cases hq : (q2 == 0)
    · have hq2 : (q2 != 0) = true := by simpa [bne] using hq
      simp only [Bool.false_eq_true, if_false, hq]
      repeat (first
        | (apply axJ; (focus ((with_reducible constructor) <;> rfl)))
        | (apply awT mixedOK hΓ (by kernel_rfl); (simp (disch := omega) only [go_sem, ↓reduceIte, dk, ↓lk, Int.reduceBEq, Int.reduceBNe, Bool.true_bne, Bool.false_bne, Bool.not_true, Bool.not_false, hy, e3, hq2] <;> with_reducible rfl))
        | ((first | apply awR hΓ | apply awG | apply awH mixedOK hΓ rfl (by kernel_rfl) | apply ovE rfl); (simp (disch := omega) only [go_sem, ↓reduceIte, dk, ↓lk, Int.reduceBEq, Int.reduceBNe, Bool.true_bne, Bool.false_bne, Bool.not_true, Bool.not_false, hy, e3, hq2] <;> with_reducible rfl); exact trivial)
        | rfl)
      try rfl
    · have hq2 : (q2 != 0) = false := by simpa [bne] using hq
      rw [hq] at hpre
      simp only [if_true] at hpre ⊢
      rw [← hpre]
      repeat (first
        | (apply axJ; (focus ((with_reducible constructor) <;> rfl)))
        | (apply awT mixedOK hΓ (by kernel_rfl); (simp (disch := omega) only [go_sem, ↓reduceIte, dk, ↓lk, Int.reduceBEq, Int.reduceBNe, Bool.true_bne, Bool.false_bne, Bool.not_true, Bool.not_false, hy, e3, hq2] <;> with_reducible rfl))
        | ((first | apply awR hΓ | apply awG | apply awH mixedOK hΓ rfl (by kernel_rfl) | apply ovE rfl); (simp (disch := omega) only [go_sem, ↓reduceIte, dk, ↓lk, Int.reduceBEq, Int.reduceBNe, Bool.true_bne, Bool.false_bne, Bool.not_true, Bool.not_false, hy, e3, hq2] <;> with_reducible rfl); exact trivial)
        | rfl)
      refine ⟨(i + 1, acc ++ q1), ⟨by dsimp only; omega, hpre, by dsimp only; rw [List.length_append]; omega⟩, by dsimp only; omega, ?_⟩
      exact Weak.v (by (simp [ConvF, lookV, Conv, ints, List.map_append, List.length_append]; done)) (by (simp (disch := omega) only [TabSub, look, if_pos, if_neg, Obj.refsOK, refsOKs, AV.refsOK, decide_eq_true_eq, Bool.and_true, Bool.and_self, List.map_append, List.length_append] ) <;> ((repeat' apply And.intro) <;> first | exact True.intro | omega | (simp; done) | rfl))
  have hi3 : i = R.length := by omega
  subst hi3
  rw [List.drop_length, tokRow]
  dsimp only
  rw [show ((0 : Int) == 0) = true from rfl]
  simp only [if_true]
  cases h5 : decide ((acc.length : Int) > 256)
  · simp only [Bool.false_eq_true, if_false]
    repeat (first
      | (apply axJ; (focus ((with_reducible constructor) <;> rfl)))
      | (apply awT mixedOK hΓ (by kernel_rfl); (simp (disch := omega) only [go_sem, ↓reduceIte, dk, ↓lk, Int.reduceBEq, Int.reduceBNe, Bool.true_bne, Bool.false_bne, Bool.not_true, Bool.not_false, h5] <;> with_reducible rfl))
      | ((first | apply awR hΓ | apply awG | apply awH mixedOK hΓ rfl (by kernel_rfl) | apply ovE rfl); (simp (disch := omega) only [go_sem, ↓reduceIte, dk, ↓lk, Int.reduceBEq, Int.reduceBNe, Bool.true_bne, Bool.false_bne, Bool.not_true, Bool.not_false, h5] <;> with_reducible rfl); exact trivial)
      | rfl)
    try rfl
  · simp only [if_true]
    repeat (first
      | (apply axJ; (focus ((with_reducible constructor) <;> rfl)))
      | (apply awT mixedOK hΓ (by kernel_rfl); (simp (disch := omega) only [go_sem, ↓reduceIte, dk, ↓lk, Int.reduceBEq, Int.reduceBNe, Bool.true_bne, Bool.false_bne, Bool.not_true, Bool.not_false, h5] <;> with_reducible rfl))
      | ((first | apply awR hΓ | apply awG | apply awH mixedOK hΓ rfl (by kernel_rfl) | apply ovE rfl); (simp (disch := omega) only [go_sem, ↓reduceIte, dk, ↓lk, Int.reduceBEq, Int.reduceBNe, Bool.true_bne, Bool.false_bne, Bool.not_true, Bool.not_false, h5] <;> with_reducible rfl); exact trivial)
      | rfl)
    try rfl
end Go.Ab
