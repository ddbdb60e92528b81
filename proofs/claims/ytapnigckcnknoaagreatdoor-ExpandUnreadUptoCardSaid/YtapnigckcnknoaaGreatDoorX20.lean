/-
  One text of the proof (own work): contracts of functions of the program, by the abstract machine.
-/
import Derived.Test.YtapnigckcnknoaaGreatDoorX12
import Derived.Test.YtapnigckcnknoaaGreatDoorX19
import Derived.Test.YtapnigckcnknoaaGreatDoorX18
import Derived.Test.YtapnigckcnknoaaGreatDoorX16
set_option linter.unusedVariables false
set_option linter.unusedSimpArgs false
namespace Go.Ab
open Go Go.RowKit Go.Proofs Go.Shelf
set_option maxRecDepth 10000
set_option maxHeartbeats 16000000
theorem run_all {s : Bs} {nm : Bool} : runN s nm = s.length ↔ ∀ c ∈ s, runQ nm c.toNat = false := by
  have h1 := runI_all s nm
  have h2 := (runN_eq s nm).1
  rw [h2, Int.natCast_inj, List.any_eq_false] at h1
  rw [h1]
  exact forall_congr' fun c => forall_congr' fun _ => by simp
theorem take_beq {s : Bs} {n : Nat} (hn : n ≤ s.length) : (s.take n == s) = decide (n = s.length) := by
  rw [Bool.eq_iff_iff, beq_iff_eq, decide_eq_true_eq]
  constructor
  · intro h
    have := congrArg List.length h
    rw [List.length_take] at this
    omega
  · intro h
    rw [h, List.take_length]
theorem numE_bad {s : Bs} (h : ∃ c ∈ s, digI c.toNat = false) : (numE s).2 = 4 := by
  rw [← numR_eq]
  split
  · rfl
  · rw [numRGo_bad s 0 false h]
theorem syms_head : ∀ x ∈ symsL, x ≠ [] ∧ lettI (x.headD 0).toNat = false ∧ digI (x.headD 0).toNat = false ∧ symB x = x := by decide
theorem hasB_iff {l : List Bs} {s : Bs} : hasB l s = true ↔ s ∈ l := by
  unfold hasB
  rw [List.any_eq_true]
  constructor
  · rintro ⟨x, hx, h⟩
    have : x = s := by simpa using h
    rw [← this]; exact hx
  · intro h
    exact ⟨s, h, by simp⟩
theorem symB_has {s : Bs} (hs : s ≠ []) : (symB s != [] && symB s == s) = hasB symsL s := by
  rw [Bool.eq_iff_iff, hasB_iff]
  constructor
  · intro h
    simp only [Bool.and_eq_true, bne_iff_ne, ne_eq, beq_iff_eq] at h
    rw [sym_find] at h
    cases hf : symsL.find? (pfx s) with
    | none => rw [hf] at h; exact absurd rfl h.1
    | some x =>
      rw [hf] at h
      have hx := List.mem_of_find?_eq_some hf
      have : x = s := h.2
      rw [← this]; exact hx
  · intro h
    have := (syms_head s h).2.2.2
    rw [this]
    simp [hs]
def validR (k : Int) (s : Bs) : Bool := if k == 1 then idForm s else if k == 2 then (numE s).2 == 0 else if k == 3 then hasB symsL s else false
theorem validR_eq (k : Int) (s : Bs) : validR k s = validB k s := by
  unfold validR validB
  rcases hs : s with _ | ⟨c, r⟩
  · by_cases h1 : k = 1
    · simp [h1, idForm]
    · by_cases h2 : k = 2
      · simp [h2, numE]
      · by_cases h3 : k = 3
        · subst h3; rfl
        · simp [h1, h2, h3]
  rw [← hs]
  have hne : (s == []) = false := by rw [hs]; rfl
  have hne2 : s ≠ [] := by rw [hs]; simp
  have hhd : s.headD 0 = c := by rw [hs]; rfl
  have hcs : c ∈ s := by rw [hs]; simp
  have hid : idForm s = (!(decide ((s.length : Int) > 32)) && (lettI c.toNat && s.all ldB)) := by rw [hs]; rfl
  rw [hne]
  simp only [Bool.false_eq_true, if_false]
  unfold nextB
  rw [hhd]
  obtain ⟨_, l1⟩ := runN_eq s true
  obtain ⟨_, l2⟩ := runN_eq s false
  have hsy : hasB symsL s = true → lettI c.toNat = false ∧ digI c.toNat = false := fun h => by
    have := syms_head s (hasB_iff.1 h)
    rw [hhd] at this
    exact ⟨this.2.1, this.2.2.1⟩
  cases k1 : lettI (c.toNat : Int)
  case true =>
    have hsn : hasB symsL s = false := by
      cases h : hasB symsL s with
      | false => rfl
      | true => have := (hsy h).1; rw [k1] at this; cases this
    have hdg : digI c.toNat = false := by
      unfold lettI at k1
      unfold digI
      simp only [Bool.or_eq_true, Bool.and_eq_true, decide_eq_true_eq, beq_iff_eq] at k1
      simp only [Bool.and_eq_false_iff, decide_eq_false_iff_not]
      omega
    have hnb := numE_bad ⟨c, hcs, hdg⟩
    rw [hsn, hnb, hid, k1, Bool.true_and]
    simp only [if_true]
    have hall : s.all ldB = decide (runN s true = s.length) := by
      rw [Bool.eq_iff_iff, decide_eq_true_eq, run_all, List.all_eq_true]
      refine forall_congr' fun d => forall_congr' fun _ => ?_
      unfold ldB runQ
      cases lettI (d.toNat : Int) <;> cases digI (d.toNat : Int) <;> simp
    rw [hall]
    cases k2 : decide ((runN s true : Int) > 32)
    · simp only [Bool.false_eq_true, if_false]
      rw [take_beq l1]
      have h2 := of_decide_eq_false k2
      by_cases h3 : runN s true = s.length
      · have h4 : decide ((s.length : Int) > 32) = false := decide_eq_false (by omega)
        rw [decide_eq_true h3, h4]
        by_cases h1 : k = 1
        · simp [h1]
        · have : ((1 : Int) == k) = false := by simpa using fun e => h1 e.symm
          by_cases h5 : k = 2
          · simp [h5]
          · simp [h1, h5, this]
      · rw [decide_eq_false h3]
        by_cases h1 : k = 1
        · simp [h1]
        · by_cases h5 : k = 2
          · simp [h5]
          · simp [h1, h5]
    · simp only [if_true]
      have h2 := of_decide_eq_true k2
      have h4 : decide ((s.length : Int) > 32) = true := decide_eq_true (by omega)
      rw [h4]
      by_cases h1 : k = 1
      · simp [h1]
      · by_cases h5 : k = 2
        · simp [h5]
        · simp [h1, h5]
  case false =>
    simp only [Bool.false_eq_true, if_false]
    rw [hid, k1]
    cases k2 : digI (c.toNat : Int)
    case true =>
      have hsn : hasB symsL s = false := by
        cases h : hasB symsL s with
        | false => rfl
        | true => have := (hsy h).2; rw [k2] at this; cases this
      rw [hsn]
      simp only [if_true]
      by_cases h3 : runN s false = s.length
      · rw [h3, List.take_length, show decide (((s.length : Nat) : Int) < (s.length : Int)) = false from decide_eq_false (by omega)]
        simp only [Bool.false_and, Bool.false_eq_true, if_false]
        cases hq : ((numE s).2 == 0)
        · have hq2 : (numE s).2 ≠ 0 := by simpa using hq
          simp only [Bool.false_eq_true, if_false]
          rw [hq]
          by_cases h1 : k = 1
          · simp [h1]
          · by_cases h5 : k = 2
            · simp [h5]
            · simp [h1, h5]
        · simp only [if_true]
          by_cases h1 : k = 1
          · simp [h1]
          · by_cases h5 : k = 2
            · simp [h5]
            · have : ((2 : Int) == k) = false := by simpa using fun e => h5 e.symm
              simp [h1, h5, this]
      · have hb : ∃ d ∈ s, digI d.toNat = false := by
          have : ¬ ∀ d ∈ s, runQ false d.toNat = false := fun h => h3 (run_all.2 h)
          simp only [Classical.not_forall] at this
          obtain ⟨d, hd, hq⟩ := this
          refine ⟨d, hd, ?_⟩
          unfold runQ at hq
          simpa using hq
        have hnb := numE_bad hb
        rw [hnb]
        have ht : (s.take (runN s false) == s) = false := by rw [take_beq l2, decide_eq_false h3]
        have hL : (if k == 1 then (!decide ((s.length : Int) > 32) && (false && s.all ldB)) else if k == 2 then ((4 : Int) == 0) else if k == 3 then false else false) = false := by
          simp
        rw [hL]
        split
        · split
          · simp
          · simp [ht]
        · rename_i hq
          have hq2 : (numE (s.take (runN s false))).2 ≠ 0 := by simpa using hq
          simp [hq2]
    case false =>
      have hnb := numE_bad ⟨c, hcs, k2⟩
      have hsb := symB_has hne2
      simp only [Bool.false_eq_true, if_false]
      rw [hnb, ← hsb]
      cases hy : (symB s == [])
      · have hy2 : (symB s != []) = true := by simpa [bne] using hy
        rw [hy2]
        simp only [Bool.false_eq_true, if_false, Bool.true_and]
        by_cases h1 : k = 1
        · simp [h1]
        · by_cases h5 : k = 2
          · simp [h5]
          · by_cases h6 : k = 3
            · simp [h6]
            · have : ((3 : Int) == k) = false := by simpa using fun e => h6 e.symm
              simp [h1, h5, h6, this]
      · have hy2 : (symB s != []) = false := by simpa [bne] using hy
        rw [hy2]
        simp only [if_true, Bool.false_and]
        simp
noncomputable def g_validR5 : List D → Option D := encSpec (fun x : Int × Bs => [.agg [i64 x.1, .str x.2]]) (fun x : Int × Bs => x.2.length ≤ 1099511627776) (fun x : Int × Bs => .bool (validB x.1 x.2))
theorem g_validR5_eq {kd : Int} {s : Bs} (hd : s.length ≤ 1099511627776) : g_validR5 [.agg [.int .i64 kd, .str s]] = some (.bool (validB kd s)) := encSpec_eq (x := (kd, s)) hd fun y hy => by
    obtain ⟨y0, y1⟩ := y; simp only [List.cons.injEq, and_true, true_and, D.str.injEq, D.int.injEq, D.list.injEq, D.bool.injEq, D.agg.injEq, D.clo.injEq, Int.natCast_inj, inj_ie, D.ref.injEq, eTk_ie, eTk_e] at hy
    (try obtain ⟨rfl, rfl⟩ := hy)
    (try subst_vars)
    rfl
theorem f_validR5_ok : PureOK Tryz.prog 47 true g_validR5 := by
  have hΓ := Γp f_form05_ok (Γp f_numR5_ok (Γp f_symsR_ok (Γp f_has_ok (Γn))))
  refine pure_enc (n := 28) (rs := [.tmp 2]) Tryz.func47 (by kernel_rfl) rfl (by kernel_rfl) (by kernel_rfl) ?_
  rintro ⟨kd, s⟩ hd
  (try dsimp only at hd ⊢)
  refine ⟨fun _ => by (repeat (first | exact .int _ _ | exact .bool _ | exact .str _ | (refine .tup _ (fun d hd => ?_); simp only [List.mem_cons, List.not_mem_nil, or_false] at hd; rcases hd with rfl | hd))), fun k hz0 => ?_⟩
  rw [← validR_eq]
  unfold validR
  have e1 := g_form05_eq hd
  have e2 := g_numR5_eq hd
  have e3 := g_symsR_eq trivial
  have e4 := g_has_eq (l := symsL) (s := s) (by decide)
  generalize idForm s = b1 at *
  generalize hasB symsL s = b3 at *
  generalize symsL = L at *
  generalize numE s = q at *
  obtain ⟨q1, q2⟩ := q
  dsimp only at e2 ⊢
  rw [start_frame (by simp)]; simp only [enumV, go_sem, emptyH]
  cases k1 : (kd == 1)
  case true =>
    simp only [if_true]
    repeat (first
      | (apply axJ; (focus ((with_reducible constructor) <;> rfl)))
      | (apply awT mixedOK hΓ (by kernel_rfl); (simp (disch := omega) only [go_sem, ↓reduceIte, dk, ↓lk, Int.reduceBEq, Int.reduceBNe, Bool.true_bne, Bool.false_bne, Bool.not_true, Bool.not_false, k1, e1] <;> with_reducible rfl))
      | ((first | apply awR hΓ | apply awG | apply awH mixedOK hΓ rfl (by kernel_rfl) | apply ovE rfl); (simp (disch := omega) only [go_sem, ↓reduceIte, dk, ↓lk, Int.reduceBEq, Int.reduceBNe, Bool.true_bne, Bool.false_bne, Bool.not_true, Bool.not_false, k1, e1] <;> with_reducible rfl); exact trivial)
      | rfl)
    try rfl
  simp only [Bool.false_eq_true, if_false]
  cases k2 : (kd == 2)
  case true =>
    simp only [if_true]
    cases k4 : (q2 == 0)
    · repeat (first
      | (apply axJ; (focus ((with_reducible constructor) <;> rfl)))
      | (apply awT mixedOK hΓ (by kernel_rfl); (simp (disch := omega) only [go_sem, ↓reduceIte, dk, ↓lk, Int.reduceBEq, Int.reduceBNe, Bool.true_bne, Bool.false_bne, Bool.not_true, Bool.not_false, k1, k2, k4, e2] <;> with_reducible rfl))
      | ((first | apply awR hΓ | apply awG | apply awH mixedOK hΓ rfl (by kernel_rfl) | apply ovE rfl); (simp (disch := omega) only [go_sem, ↓reduceIte, dk, ↓lk, Int.reduceBEq, Int.reduceBNe, Bool.true_bne, Bool.false_bne, Bool.not_true, Bool.not_false, k1, k2, k4, e2] <;> with_reducible rfl); exact trivial)
      | rfl)
      try rfl
    · repeat (first
      | (apply axJ; (focus ((with_reducible constructor) <;> rfl)))
      | (apply awT mixedOK hΓ (by kernel_rfl); (simp (disch := omega) only [go_sem, ↓reduceIte, dk, ↓lk, Int.reduceBEq, Int.reduceBNe, Bool.true_bne, Bool.false_bne, Bool.not_true, Bool.not_false, k1, k2, k4, e2] <;> with_reducible rfl))
      | ((first | apply awR hΓ | apply awG | apply awH mixedOK hΓ rfl (by kernel_rfl) | apply ovE rfl); (simp (disch := omega) only [go_sem, ↓reduceIte, dk, ↓lk, Int.reduceBEq, Int.reduceBNe, Bool.true_bne, Bool.false_bne, Bool.not_true, Bool.not_false, k1, k2, k4, e2] <;> with_reducible rfl); exact trivial)
      | rfl)
      try rfl
  simp only [Bool.false_eq_true, if_false]
  cases k3 : (kd == 3)
  case true =>
    simp only [if_true]
    repeat (first
      | (apply axJ; (focus ((with_reducible constructor) <;> rfl)))
      | (apply awT mixedOK hΓ (by kernel_rfl); (simp (disch := omega) only [go_sem, ↓reduceIte, dk, ↓lk, Int.reduceBEq, Int.reduceBNe, Bool.true_bne, Bool.false_bne, Bool.not_true, Bool.not_false, k1, k2, k3, e3, e4] <;> with_reducible rfl))
      | ((first | apply awR hΓ | apply awG | apply awH mixedOK hΓ rfl (by kernel_rfl) | apply ovE rfl); (simp (disch := omega) only [go_sem, ↓reduceIte, dk, ↓lk, Int.reduceBEq, Int.reduceBNe, Bool.true_bne, Bool.false_bne, Bool.not_true, Bool.not_false, k1, k2, k3, e3, e4] <;> with_reducible rfl); exact trivial)
      | rfl)
    try rfl
  simp only [Bool.false_eq_true, if_false]
  repeat (first
    | (apply axJ; (focus ((with_reducible constructor) <;> rfl)))
    | (apply awT mixedOK hΓ (by kernel_rfl); (simp (disch := omega) only [go_sem, ↓reduceIte, dk, ↓lk, Int.reduceBEq, Int.reduceBNe, Bool.true_bne, Bool.false_bne, Bool.not_true, Bool.not_false, k1, k2, k3] <;> with_reducible rfl))
    | ((first | apply awR hΓ | apply awG | apply awH mixedOK hΓ rfl (by kernel_rfl) | apply ovE rfl); (simp (disch := omega) only [go_sem, ↓reduceIte, dk, ↓lk, Int.reduceBEq, Int.reduceBNe, Bool.true_bne, Bool.false_bne, Bool.not_true, Bool.not_false, k1, k2, k3] <;> with_reducible rfl); exact trivial)
    | rfl)
  try rfl
def allV (l : List Tk) : Bool := l.all (fun t => validB t.1 t.2) && decide ((l.length : Int) ≤ 256)
noncomputable def g_allVR : List D → Option D := encSpec (fun x : (List Tk) => [.list (x.map eTk)]) (fun x : (List Tk) => x.length ≤ 1099511627776 ∧ ∀ t ∈ x, t.2.length ≤ 1099511627776) (fun x : (List Tk) => .bool (allV x))
theorem g_allVR_eq {l : List Tk} (hd : l.length ≤ 1099511627776 ∧ ∀ t ∈ l, t.2.length ≤ 1099511627776) : g_allVR [.list (l.map eTk)] = some (.bool (allV l)) := encSpec_eq (x := l) hd fun y hy => by
    simp only [List.cons.injEq, and_true, true_and, D.str.injEq, D.int.injEq, D.list.injEq, D.bool.injEq, D.agg.injEq, D.clo.injEq, Int.natCast_inj, inj_ie, D.ref.injEq, eTk_ie, eTk_e] at hy
    rw [hy]
theorem f_allVR_ok : PureOK Tryz.prog 20 true g_allVR := by
  have hΓ := Γp f_validR5_ok (Γn)
  refine pure_enc (n := 18) (rs := [.tmp 2]) Tryz.func20 (by kernel_rfl) rfl (by kernel_rfl) (by kernel_rfl) ?_
  rintro l hd
  (try dsimp only at hd ⊢)
  refine ⟨fun _ => by (repeat (first | exact .int _ _ | exact .bool _ | exact .str _ | (refine .tup _ (fun d hd => ?_); simp only [List.mem_cons, List.not_mem_nil, or_false] at hd; rcases hd with rfl | hd))), fun k hz0 => ?_⟩
  obtain ⟨d1, d2⟩ := hd
  unfold allV
  rw [start_frame (by simp)]; simp only [enumV, go_sem, emptyH]
  repeat (first
    | (apply axJ; (focus ((with_reducible constructor) <;> rfl)))
    | (apply awT mixedOK hΓ (by kernel_rfl); (simp (disch := omega) only [go_sem, ↓reduceIte, dk, ↓lk, Int.reduceBEq, Int.reduceBNe, Bool.true_bne, Bool.false_bne, Bool.not_true, Bool.not_false] <;> with_reducible rfl))
    | ((first | apply awR hΓ | apply awG | apply awH mixedOK hΓ rfl (by kernel_rfl) | apply ovE rfl); (simp (disch := omega) only [go_sem, ↓reduceIte, dk, ↓lk, Int.reduceBEq, Int.reduceBNe, Bool.true_bne, Bool.false_bne, Bool.not_true, Bool.not_false] <;> with_reducible rfl); exact trivial)
    | rfl)
  refine awp_loop_at (X := Nat) (fun i => (frame 18 [(0, .data (.list (l.map eTk))), (5, .data (.list (l.map eTk))), (6, .data (i64 l.length)), (7, .data (i64 i))])) (fun _ => []) 8
    (fun i => i ≤ l.length ∧ (l.take i).all (fun t => validB t.1 t.2) = true) (fun i => l.length - i) 0 ⟨Nat.zero_le _, rfl⟩ (Weak.w) ?_
  rintro i ⟨hi, hpre⟩
  (try dsimp only at hi hpre ⊢)
  by_cases hi2 : i < l.length
  · have hat := @all_at _ (fun t : Tk => validB t.1 t.2) l i hi2
    have htk := @all_take _ (fun t : Tk => validB t.1 t.2) l i hi2 hpre
    have e1 := g_validR5_eq (kd := l[i].1) (s := l[i].2) (d2 _ (List.getElem_mem hi2))
    generalize hy : l[i] = y at *
    obtain ⟨y1, y2⟩ := y
    dsimp only at hat htk e1
    generalize validB y1 y2 = b at *
    cases b
    · rw [hat rfl, Bool.false_and]
      repeat (first
        | (apply axJ; (focus ((with_reducible constructor) <;> rfl)))
        | (apply awT mixedOK hΓ (by kernel_rfl); (simp (disch := omega) only [go_sem, ↓reduceIte, dk, ↓lk, Int.reduceBEq, Int.reduceBNe, Bool.true_bne, Bool.false_bne, Bool.not_true, Bool.not_false, hy, e1] <;> with_reducible rfl))
        | ((first | apply awR hΓ | apply awG | apply awH mixedOK hΓ rfl (by kernel_rfl) | apply ovE rfl); (simp (disch := omega) only [go_sem, ↓reduceIte, dk, ↓lk, Int.reduceBEq, Int.reduceBNe, Bool.true_bne, Bool.false_bne, Bool.not_true, Bool.not_false, hy, e1] <;> with_reducible rfl); exact trivial)
        | rfl)
      try rfl
    · repeat (first
      | (apply axJ; (focus ((with_reducible constructor) <;> rfl)))
      | (apply awT mixedOK hΓ (by kernel_rfl); (simp (disch := omega) only [go_sem, ↓reduceIte, dk, ↓lk, Int.reduceBEq, Int.reduceBNe, Bool.true_bne, Bool.false_bne, Bool.not_true, Bool.not_false, hy, e1] <;> with_reducible rfl))
      | ((first | apply awR hΓ | apply awG | apply awH mixedOK hΓ rfl (by kernel_rfl) | apply ovE rfl); (simp (disch := omega) only [go_sem, ↓reduceIte, dk, ↓lk, Int.reduceBEq, Int.reduceBNe, Bool.true_bne, Bool.false_bne, Bool.not_true, Bool.not_false, hy, e1] <;> with_reducible rfl); exact trivial)
      | rfl)
      exact ⟨i + 1, ⟨by omega, htk rfl⟩, by omega, Weak.w⟩
  have hi3 : i = l.length := by omega
  subst hi3
  rw [List.take_length] at hpre
  rw [hpre, Bool.true_and]
  generalize hc : decide ((l.length : Int) ≤ 256) = c
  repeat (first
    | (apply axJ; (focus ((with_reducible constructor) <;> rfl)))
    | (apply awT mixedOK hΓ (by kernel_rfl); (simp (disch := omega) only [go_sem, ↓reduceIte, dk, ↓lk, Int.reduceBEq, Int.reduceBNe, Bool.true_bne, Bool.false_bne, Bool.not_true, Bool.not_false, hc] <;> with_reducible rfl))
    | ((first | apply awR hΓ | apply awG | apply awH mixedOK hΓ rfl (by kernel_rfl) | apply ovE rfl); (simp (disch := omega) only [go_sem, ↓reduceIte, dk, ↓lk, Int.reduceBEq, Int.reduceBNe, Bool.true_bne, Bool.false_bne, Bool.not_true, Bool.not_false, hc] <;> with_reducible rfl); exact trivial)
    | rfl)
  try rfl
end Go.Ab
namespace Go.Ab
open Go Go.RowKit Go.Proofs
set_option maxRecDepth 10000
set_option maxHeartbeats 16000000
def few5 (l : List Tk) : Bool := l.all (fun t => !decide ((t.2.length : Int) > 50)) && decide ((l.length : Int) ≤ 300)
noncomputable def g_few5R : List D → Option D := encSpec (fun x : (List Tk) => [.list (x.map eTk)]) (fun x : (List Tk) => x.length ≤ 1099511627776) (fun x : (List Tk) => .bool (few5 x))
theorem g_few5R_eq {l : List Tk} (hd : l.length ≤ 1099511627776) : g_few5R [.list (l.map eTk)] = some (.bool (few5 l)) := encSpec_eq (x := l) hd fun y hy => by
    simp only [List.cons.injEq, and_true, true_and, D.str.injEq, D.int.injEq, D.list.injEq, D.bool.injEq, D.agg.injEq, D.clo.injEq, Int.natCast_inj, inj_ie, D.ref.injEq, eTk_ie, eTk_e, eFl_ie, eSp_ie] at hy
    rw [hy]
theorem f_few5R_ok : PureOK Tryz.prog 38 true g_few5R := by
  have hΓ := Γ0_ok
  refine pure_enc (n := 19) (rs := [.tmp 2]) Tryz.func38 (by kernel_rfl) rfl (by kernel_rfl) (by kernel_rfl) ?_
  rintro l hd
  (try dsimp only at hd ⊢)
  refine ⟨fun _ => by (repeat (first | exact .int _ _ | exact .bool _ | exact .str _ | (refine .tup _ (fun d hd => ?_); simp only [List.mem_cons, List.not_mem_nil, or_false] at hd; rcases hd with rfl | hd))), fun k hz0 => ?_⟩
  unfold few5
  rw [start_frame (by simp)]; simp only [enumV, go_sem, emptyH]
  repeat (first
    | (apply axJ; (focus ((with_reducible constructor) <;> rfl)))
    | (apply awT mixedOK hΓ (by kernel_rfl); (simp (disch := omega) only [go_sem, ↓reduceIte, dk, ↓lk, Int.reduceBEq, Int.reduceBNe, Bool.true_bne, Bool.false_bne, Bool.not_true, Bool.not_false] <;> with_reducible rfl))
    | ((first | apply awR hΓ | apply awG | apply awH mixedOK hΓ rfl (by kernel_rfl) | apply ovE rfl); (simp (disch := omega) only [go_sem, ↓reduceIte, dk, ↓lk, Int.reduceBEq, Int.reduceBNe, Bool.true_bne, Bool.false_bne, Bool.not_true, Bool.not_false] <;> with_reducible rfl); exact trivial)
    | rfl)
  refine awp_loop_at (X := Nat) (fun i => (frame 19 [(0, .data (.list (l.map eTk))), (5, .data (.list (l.map eTk))), (6, .data (i64 l.length)), (7, .data (i64 i))])) (fun _ => []) 8
    (fun i => i ≤ l.length ∧ (l.take i).all (fun t => !decide ((t.2.length : Int) > 50)) = true) (fun i => l.length - i) 0 ⟨Nat.zero_le _, rfl⟩ (Weak.w) ?_
  rintro i ⟨hi, hpre⟩
  (try dsimp only at hi hpre ⊢)
  by_cases hi2 : i < l.length
  · have hat := @all_at _ (fun t : Tk => !decide ((t.2.length : Int) > 50)) l i hi2
    have htk := @all_take _ (fun t : Tk => !decide ((t.2.length : Int) > 50)) l i hi2 hpre
    generalize hy : l[i] = y at *
    obtain ⟨y1, y2⟩ := y
    dsimp only at hat htk
    cases hq : decide ((y2.length : Int) > 50)
    · rw [hq] at htk
      repeat (first
        | (apply axJ; (focus ((with_reducible constructor) <;> rfl)))
        | (apply awT mixedOK hΓ (by kernel_rfl); (simp (disch := omega) only [go_sem, ↓reduceIte, dk, ↓lk, Int.reduceBEq, Int.reduceBNe, Bool.true_bne, Bool.false_bne, Bool.not_true, Bool.not_false, hy, hq] <;> with_reducible rfl))
        | ((first | apply awR hΓ | apply awG | apply awH mixedOK hΓ rfl (by kernel_rfl) | apply ovE rfl); (simp (disch := omega) only [go_sem, ↓reduceIte, dk, ↓lk, Int.reduceBEq, Int.reduceBNe, Bool.true_bne, Bool.false_bne, Bool.not_true, Bool.not_false, hy, hq] <;> with_reducible rfl); exact trivial)
        | rfl)
      exact ⟨i + 1, ⟨by omega, htk rfl⟩, by omega, Weak.w⟩
    · rw [hq] at hat
      rw [hat rfl, Bool.false_and]
      repeat (first
        | (apply axJ; (focus ((with_reducible constructor) <;> rfl)))
        | (apply awT mixedOK hΓ (by kernel_rfl); (simp (disch := omega) only [go_sem, ↓reduceIte, dk, ↓lk, Int.reduceBEq, Int.reduceBNe, Bool.true_bne, Bool.false_bne, Bool.not_true, Bool.not_false, hy, hq] <;> with_reducible rfl))
        | ((first | apply awR hΓ | apply awG | apply awH mixedOK hΓ rfl (by kernel_rfl) | apply ovE rfl); (simp (disch := omega) only [go_sem, ↓reduceIte, dk, ↓lk, Int.reduceBEq, Int.reduceBNe, Bool.true_bne, Bool.false_bne, Bool.not_true, Bool.not_false, hy, hq] <;> with_reducible rfl); exact trivial)
        | rfl)
      try rfl
  have hi3 : i = l.length := by omega
  subst hi3
  rw [List.take_length] at hpre
  rw [hpre, Bool.true_and]
  generalize hc : decide ((l.length : Int) ≤ 300) = c
  repeat (first
    | (apply axJ; (focus ((with_reducible constructor) <;> rfl)))
    | (apply awT mixedOK hΓ (by kernel_rfl); (simp (disch := omega) only [go_sem, ↓reduceIte, dk, ↓lk, Int.reduceBEq, Int.reduceBNe, Bool.true_bne, Bool.false_bne, Bool.not_true, Bool.not_false, hc] <;> with_reducible rfl))
    | ((first | apply awR hΓ | apply awG | apply awH mixedOK hΓ rfl (by kernel_rfl) | apply ovE rfl); (simp (disch := omega) only [go_sem, ↓reduceIte, dk, ↓lk, Int.reduceBEq, Int.reduceBNe, Bool.true_bne, Bool.false_bne, Bool.not_true, Bool.not_false, hc] <;> with_reducible rfl); exact trivial)
    | rfl)
  try rfl
def few3Go (z : Int) : Int → List Fl → Bool
  | _, [] => true
  | n, f :: r => if decide ((f.1.length : Int) > 300) || decide (n + (f.2.length : Int) > z) then false else few3Go z (n + (f.2.length : Int)) r
def few3 (l : List Fl) (m z : Int) : Bool := if decide ((l.length : Int) > m) then false else few3Go z 0 l
end Go.Ab
namespace Go.Ab
open Go Go.RowKit Go.Proofs
set_option maxRecDepth 10000
set_option maxHeartbeats 16000000
def tokRow : List Bs → List Tk → List Tk × Int
  | [], acc => (acc, 0)
  | s :: r, acc => if (toksB s).2 == 0 then tokRow r (acc ++ (toksB s).1) else ([], (toksB s).2)
def bodyT (R : List Bs) : List Tk × Int :=
  if (tokRow R []).2 == 0 then (if decide (((tokRow R []).1.length : Int) > 256) then ([], 10) else ((tokRow R []).1, 0)) else ([], (tokRow R []).2)
def bodyR (l : List Bs) (b : Sp) : List Tk × Int :=
  if decide (b.2.1 < 0) || (decide (b.2.2 < b.2.1) || decide (b.2.2 > (l.length : Int))) then ([], 3) else bodyT ((l.drop b.2.1.toNat).take (b.2.2.toNat - b.2.1.toNat))
def bodyB (fs : List Fl) (b : Sp) : List Tk × Int :=
  if (findF fs b.1).2 then (if (linesE (findF fs b.1).1).2 == 0 then bodyR (linesE (findF fs b.1).1).1 b else ([], (linesE (findF fs b.1).1).2)) else ([], 7)
theorem toksF_len : ∀ (f : Nat) (acc : List Tk) (s : Bs), acc.length ≤ 256 → (toksF f acc s).1.length ≤ 256
  | 0, _, _, h => h
  | _ + 1, _, [], h => h
  | f + 1, acc, c :: r, h => by
    rw [toksF]
    split
    · exact toksF_len f acc r h
    · split
      · simp
      · rename_i h2
        have h3 : acc.length ≠ 256 := by simpa using h2
        split
        · exact toksF_len f _ _ (by rw [List.length_append]; simp only [List.length_cons, List.length_nil]; omega)
        · simp
theorem toks_len (s : Bs) : (toksB s).1.length ≤ 256 := by
  unfold toksB
  split
  · simp
  · exact toksF_len _ _ _ (by simp)
theorem find_le {l : List Fl} {m : Nat} (h : ∀ f ∈ l, f.2.length ≤ m) (q : Bs) : (findF l q).1.length ≤ m := by
  unfold findF
  cases hf : l.find? (fun f => f.1 == q) with
  | none => exact Nat.zero_le _
  | some f => exact h f (List.mem_of_find?_eq_some hf)
noncomputable def g_bodyP : List D → Option D := encSpec (fun x : (List Fl) × Mc => [.list (x.1.map eFl), eMc x.2]) (fun x : (List Fl) × Mc => x.1.length ≤ 1099511627776 ∧ ∀ f ∈ x.1, f.2.length ≤ 1000000000) (fun x : (List Fl) × Mc => eTks (bodyB x.1 x.2.body))
theorem g_bodyP_eq {fs : List Fl} {m : Mc} (hd : fs.length ≤ 1099511627776 ∧ ∀ f ∈ fs, f.2.length ≤ 1000000000) : g_bodyP [.list (fs.map eFl), eMc m] = some (eTks (bodyB fs m.body)) := encSpec_eq (x := (fs, m)) hd fun y hy => by
    obtain ⟨y0, y1⟩ := y; simp only [List.cons.injEq, and_true, true_and, D.str.injEq, D.int.injEq, D.list.injEq, D.bool.injEq, D.agg.injEq, D.clo.injEq, Int.natCast_inj, inj_ie, D.ref.injEq, eTk_ie, eTk_e, eFl_ie, eSp_ie, eMc_e] at hy
    (try obtain ⟨rfl, rfl⟩ := hy)
    (try subst_vars)
    rfl
theorem f_bodyP_ok : PureOK Tryz.prog 12 false g_bodyP := by
  have hΓ := Γp f_tfind_ok (Γp f_linesP_ok (Γp f_toksP_ok (Γn)))
  refine pure_enc (n := 83) (rs := [.tmp 4, .tmp 5]) Tryz.func12 (by kernel_rfl) rfl (by kernel_rfl) (by kernel_rfl) ?_
  rintro ⟨fs, m⟩ hd
  (try dsimp only at hd ⊢)
  refine ⟨fun h => (by cases h), fun k hz0 => ?_⟩
  obtain ⟨d1, d2⟩ := hd
  obtain ⟨mn, mp, b1, b2, b3⟩ := m
  have hfl := find_le d2 b1
  have e1 := g_tfind_eq (l := fs) (q := b1) d1
  have e2 := g_linesP_eq (s := (findF fs b1).1) (by omega)
  unfold bodyB
  dsimp only
  rw [eMc_eq]
  dsimp only
  generalize findF fs b1 = F at *
  obtain ⟨F1, F2⟩ := F
  dsimp only at *
  rw [start_frame (by simp)]; simp only [enumV, go_sem, emptyH]
  cases F2
  · simp only [Bool.false_eq_true, if_false]
    repeat (first
      | (apply axJ; (focus ((with_reducible constructor) <;> rfl)))
      | (apply awT mixedOK hΓ (by kernel_rfl); (simp (disch := omega) only [go_sem, ↓reduceIte, dk, ↓lk, Int.reduceBEq, Int.reduceBNe, Bool.true_bne, Bool.false_bne, Bool.not_true, Bool.not_false, e1] <;> with_reducible rfl))
      | ((first | apply awR hΓ | apply awG | apply awH mixedOK hΓ rfl (by kernel_rfl) | apply ovE rfl); (simp (disch := omega) only [go_sem, ↓reduceIte, dk, ↓lk, Int.reduceBEq, Int.reduceBNe, Bool.true_bne, Bool.false_bne, Bool.not_true, Bool.not_false, e1] <;> with_reducible rfl); exact trivial)
      | rfl)
    try rfl
  simp only [if_true]
  have hLb := lines_bd F1
  generalize linesE F1 = G at *
  obtain ⟨G1, G2⟩ := G
  replace e2 : g_linesP [.str F1] = some (.tup [.list (G1.map .str), .int .i64 G2]) := e2
  dsimp only
  cases hG : (G2 == 0)
  · have hG2 : (G2 != 0) = true := by simpa [bne] using hG
    simp only [Bool.false_eq_true, if_false]
    repeat (first
      | (apply axJ; (focus ((with_reducible constructor) <;> rfl)))
      | (apply awT mixedOK hΓ (by kernel_rfl); (simp (disch := omega) only [go_sem, ↓reduceIte, dk, ↓lk, Int.reduceBEq, Int.reduceBNe, Bool.true_bne, Bool.false_bne, Bool.not_true, Bool.not_false, e1, e2, hG2] <;> with_reducible rfl))
      | ((first | apply awR hΓ | apply awG | apply awH mixedOK hΓ rfl (by kernel_rfl) | apply ovE rfl); (simp (disch := omega) only [go_sem, ↓reduceIte, dk, ↓lk, Int.reduceBEq, Int.reduceBNe, Bool.true_bne, Bool.false_bne, Bool.not_true, Bool.not_false, e1, e2, hG2] <;> with_reducible rfl); exact trivial)
      | rfl)
    try rfl
  have hG2 : (G2 != 0) = false := by simpa [bne] using hG
  simp only [if_true]
  unfold bodyR
  dsimp only
  cases hr1 : decide (b2 < 0)
  case true =>
    simp only [Bool.true_or, if_true]
    repeat (first
      | (apply axJ; (focus ((with_reducible constructor) <;> rfl)))
      | (apply awT mixedOK hΓ (by kernel_rfl); (simp (disch := omega) only [go_sem, ↓reduceIte, dk, ↓lk, Int.reduceBEq, Int.reduceBNe, Bool.true_bne, Bool.false_bne, Bool.not_true, Bool.not_false, e1, e2, hG2, hr1] <;> with_reducible rfl))
      | ((first | apply awR hΓ | apply awG | apply awH mixedOK hΓ rfl (by kernel_rfl) | apply ovE rfl); (simp (disch := omega) only [go_sem, ↓reduceIte, dk, ↓lk, Int.reduceBEq, Int.reduceBNe, Bool.true_bne, Bool.false_bne, Bool.not_true, Bool.not_false, e1, e2, hG2, hr1] <;> with_reducible rfl); exact trivial)
      | rfl)
    try rfl
  cases hr2 : decide (b3 < b2)
  case true =>
    simp only [Bool.true_or, Bool.or_true, if_true]
    repeat (first
      | (apply axJ; (focus ((with_reducible constructor) <;> rfl)))
      | (apply awT mixedOK hΓ (by kernel_rfl); (simp (disch := omega) only [go_sem, ↓reduceIte, dk, ↓lk, Int.reduceBEq, Int.reduceBNe, Bool.true_bne, Bool.false_bne, Bool.not_true, Bool.not_false, e1, e2, hG2, hr1, hr2] <;> with_reducible rfl))
      | ((first | apply awR hΓ | apply awG | apply awH mixedOK hΓ rfl (by kernel_rfl) | apply ovE rfl); (simp (disch := omega) only [go_sem, ↓reduceIte, dk, ↓lk, Int.reduceBEq, Int.reduceBNe, Bool.true_bne, Bool.false_bne, Bool.not_true, Bool.not_false, e1, e2, hG2, hr1, hr2] <;> with_reducible rfl); exact trivial)
      | rfl)
    try rfl
  cases hr3 : decide (b3 > (G1.length : Int))
  case true =>
    simp only [Bool.or_true, if_true]
    repeat (first
      | (apply axJ; (focus ((with_reducible constructor) <;> rfl)))
      | (apply awT mixedOK hΓ (by kernel_rfl); (simp (disch := omega) only [go_sem, ↓reduceIte, dk, ↓lk, Int.reduceBEq, Int.reduceBNe, Bool.true_bne, Bool.false_bne, Bool.not_true, Bool.not_false, e1, e2, hG2, hr1, hr2, hr3] <;> with_reducible rfl))
      | ((first | apply awR hΓ | apply awG | apply awH mixedOK hΓ rfl (by kernel_rfl) | apply ovE rfl); (simp (disch := omega) only [go_sem, ↓reduceIte, dk, ↓lk, Int.reduceBEq, Int.reduceBNe, Bool.true_bne, Bool.false_bne, Bool.not_true, Bool.not_false, e1, e2, hG2, hr1, hr2, hr3] <;> with_reducible rfl); exact trivial)
      | rfl)
    try rfl
  simp only [Bool.or_self, Bool.false_eq_true, if_false]
  have k1 := of_decide_eq_false hr1
  have k2 := of_decide_eq_false hr2
  have k3 := of_decide_eq_false hr3
  obtain ⟨f, rfl⟩ : ∃ f : Nat, b2 = (f : Int) := ⟨b2.toNat, by omega⟩
  obtain ⟨t, rfl⟩ : ∃ t : Nat, b3 = (t : Int) := ⟨b3.toNat, by omega⟩
  rw [Int.toNat_natCast, Int.toNat_natCast]
  have hsl : List.take (t - f) (List.drop f (List.map D.str G1)) = ((G1.drop f).take (t - f)).map D.str := by rw [List.map_take, List.map_drop]
  have hRl : ((G1.drop f).take (t - f)).length = t - f := by rw [List.length_take, List.length_drop]; omega
  have hRm : ∀ s ∈ (G1.drop f).take (t - f), s ∈ G1 := fun s hs => List.mem_of_mem_drop (List.mem_of_mem_take hs)
  generalize hR : (G1.drop f).take (t - f) = R at hsl hRl hRm ⊢
  clear hR
  repeat (first
    | (apply axJ; (focus ((with_reducible constructor) <;> rfl)))
    | (apply awT mixedOK hΓ (by kernel_rfl); (simp (disch := omega) only [go_sem, ↓reduceIte, dk, ↓lk, Int.reduceBEq, Int.reduceBNe, Bool.true_bne, Bool.false_bne, Bool.not_true, Bool.not_false, e1, e2, hG2, hr1, hr2, hr3, Int.toNat_natCast, hsl] <;> with_reducible rfl))
    | ((first | apply awR hΓ | apply awG | apply awH mixedOK hΓ rfl (by kernel_rfl) | apply ovE rfl); (simp (disch := omega) only [go_sem, ↓reduceIte, dk, ↓lk, Int.reduceBEq, Int.reduceBNe, Bool.true_bne, Bool.false_bne, Bool.not_true, Bool.not_false, e1, e2, hG2, hr1, hr2, hr3, Int.toNat_natCast, hsl] <;> with_reducible rfl); exact trivial)
    | rfl)
  obtain ⟨hL1, hL2⟩ := hLb
  dsimp only at hL1 hL2
  unfold bodyT
  refine awp_weak (Weak.nilrowF (i := 10) 55 (sz := 2) (by omega) (by omega) rfl) ?_
  refine awp_loop_at (X := Nat × List Tk) (fun y => (frame 83 [(10, .row 56 y.2.length), (61, .data (.list (R.map .str))), (62, .data (i64 R.length)), (63, .data (i64 y.1))])) (fun y => [(56, .row 55 2 (y.2.map eTk))]) 57
    (fun y => y.1 ≤ R.length ∧ tokRow R [] = tokRow (R.drop y.1) y.2 ∧ y.2.length ≤ y.1 * 256) (fun y => R.length - y.1) (0, []) ⟨Nat.zero_le _, rfl, Nat.zero_le _⟩ (Weak.v (by (simp [ConvF, lookV, Conv, ints, upd]; done)) (by (simp (disch := omega) only [TabSub, look, if_pos, if_neg, Obj.refsOK, refsOKs, AV.refsOK, decide_eq_true_eq, Bool.and_true, Bool.and_self, upd] ) <;> ((repeat' apply And.intro) <;> first | exact True.intro | omega | (simp; done) | rfl))) ?_
  rintro ⟨i, acc⟩ ⟨hi, hpre, hac⟩
  (try dsimp only at hi hpre hac ⊢)
  rw [hpre]
  by_cases hi2 : i < R.length
  · have hdr := List.drop_eq_getElem_cons hi2
    have hw := hL2 _ (hRm _ (List.getElem_mem hi2))
    have e3 := g_toksP_eq (s := R[i]) (by omega)
    have htl := toks_len R[i]
    rw [hdr] at hpre ⊢
    rw [tokRow] at hpre ⊢
    generalize hy : R[i] = y at *
    generalize toksB y = q at *
    obtain ⟨q1, q2⟩ := q
    replace e3 : g_toksP [.str y] = some (.tup [.list (q1.map eTk), .int .i64 q2]) := e3
    dsimp only at hpre htl ⊢
    cases hq : (q2 == 0)
    · have hq2 : (q2 != 0) = true := by simpa [bne] using hq
      simp only [Bool.false_eq_true, if_false, hq]
      repeat (first
        | (apply axJ; (focus ((with_reducible constructor) <;> rfl)))
        | (apply awT mixedOK hΓ (by kernel_rfl); (simp (disch := omega) only [go_sem, ↓reduceIte, dk, ↓lk, Int.reduceBEq, Int.reduceBNe, Bool.true_bne, Bool.false_bne, Bool.not_true, Bool.not_false, hy, e3, hq2] <;> with_reducible rfl))
        | ((first | apply awR hΓ | apply awG | apply awH mixedOK hΓ rfl (by kernel_rfl) | apply ovE rfl); (simp (disch := omega) only [go_sem, ↓reduceIte, dk, ↓lk, Int.reduceBEq, Int.reduceBNe, Bool.true_bne, Bool.false_bne, Bool.not_true, Bool.not_false, hy, e3, hq2] <;> with_reducible rfl); exact trivial)
        | rfl)
      try rfl
    · have hq2 : (q2 != 0) = false := by simpa [bne] using hq
      rw [hq] at hpre
      simp only [if_true] at hpre ⊢
      rw [← hpre]
      repeat (first
        | (apply axJ; (focus ((with_reducible constructor) <;> rfl)))
        | (apply awT mixedOK hΓ (by kernel_rfl); (simp (disch := omega) only [go_sem, ↓reduceIte, dk, ↓lk, Int.reduceBEq, Int.reduceBNe, Bool.true_bne, Bool.false_bne, Bool.not_true, Bool.not_false, hy, e3, hq2] <;> with_reducible rfl))
        | ((first | apply awR hΓ | apply awG | apply awH mixedOK hΓ rfl (by kernel_rfl) | apply ovE rfl); (simp (disch := omega) only [go_sem, ↓reduceIte, dk, ↓lk, Int.reduceBEq, Int.reduceBNe, Bool.true_bne, Bool.false_bne, Bool.not_true, Bool.not_false, hy, e3, hq2] <;> with_reducible rfl); exact trivial)
        | rfl)
      refine ⟨(i + 1, acc ++ q1), ⟨by dsimp only; omega, hpre, by dsimp only; rw [List.length_append]; omega⟩, by dsimp only; omega, ?_⟩
      exact Weak.v (by (simp [ConvF, lookV, Conv, ints, List.map_append, List.length_append]; done)) (by (simp (disch := omega) only [TabSub, look, if_pos, if_neg, Obj.refsOK, refsOKs, AV.refsOK, decide_eq_true_eq, Bool.and_true, Bool.and_self, List.map_append, List.length_append] ) <;> ((repeat' apply And.intro) <;> first | exact True.intro | omega | (simp; done) | rfl))
  have hi3 : i = R.length := by omega
  subst hi3
  rw [List.drop_length, tokRow]
  dsimp only
  rw [show ((0 : Int) == 0) = true from rfl]
  simp only [if_true]
  cases h5 : decide ((acc.length : Int) > 256)
  · simp only [Bool.false_eq_true, if_false]
    repeat (first
      | (apply axJ; (focus ((with_reducible constructor) <;> rfl)))
      | (apply awT mixedOK hΓ (by kernel_rfl); (simp (disch := omega) only [go_sem, ↓reduceIte, dk, ↓lk, Int.reduceBEq, Int.reduceBNe, Bool.true_bne, Bool.false_bne, Bool.not_true, Bool.not_false, h5] <;> with_reducible rfl))
      | ((first | apply awR hΓ | apply awG | apply awH mixedOK hΓ rfl (by kernel_rfl) | apply ovE rfl); (simp (disch := omega) only [go_sem, ↓reduceIte, dk, ↓lk, Int.reduceBEq, Int.reduceBNe, Bool.true_bne, Bool.false_bne, Bool.not_true, Bool.not_false, h5] <;> with_reducible rfl); exact trivial)
      | rfl)
    try rfl
  · simp only [if_true]
    repeat (first
      | (apply axJ; (focus ((with_reducible constructor) <;> rfl)))
      | (apply awT mixedOK hΓ (by kernel_rfl); (simp (disch := omega) only [go_sem, ↓reduceIte, dk, ↓lk, Int.reduceBEq, Int.reduceBNe, Bool.true_bne, Bool.false_bne, Bool.not_true, Bool.not_false, h5] <;> with_reducible rfl))
      | ((first | apply awR hΓ | apply awG | apply awH mixedOK hΓ rfl (by kernel_rfl) | apply ovE rfl); (simp (disch := omega) only [go_sem, ↓reduceIte, dk, ↓lk, Int.reduceBEq, Int.reduceBNe, Bool.true_bne, Bool.false_bne, Bool.not_true, Bool.not_false, h5] <;> with_reducible rfl); exact trivial)
      | rfl)
    try rfl
end Go.Ab
namespace Go.Ab
set_option maxRecDepth 4000
abbrev Sq := List UInt8 × Int × Int
def Rs (a b : Sq) : Prop := a.1 < b.1 ∨ (a.1 = b.1 ∧ a.2.2 < b.2.1)
def Cov (l : List Sq) (p : List UInt8) (n : Int) : Prop := ∃ s ∈ l, s.1 = p ∧ s.2.1 ≤ n ∧ n < s.2.2
structure Canon (l : List Sq) : Prop where
  pw : l.Pairwise Rs
  ne : ∀ s ∈ l, s.2.1 < s.2.2
theorem bs_irr (a : List UInt8) : ¬ a < a := List.lt_irrefl a
theorem Rs.trans {a b c : Sq} (h : Rs a b) (k : Rs b c) (hb : b.2.1 < b.2.2) : Rs a c := by
  rcases h with h | ⟨h1, h2⟩ <;> rcases k with k | ⟨k1, k2⟩
  · exact .inl (List.lt_trans h k)
  · exact .inl (k1 ▸ h)
  · exact .inl (h1 ▸ k)
  · exact .inr ⟨h1.trans k1, by omega⟩
theorem Rs.irr {a : Sq} (h : Rs a a) (ha : a.2.1 < a.2.2) : False := by
  rcases h with h | ⟨_, h⟩
  · exact bs_irr _ h
  · omega
theorem Canon.tail {a : Sq} {l : List Sq} (h : Canon (a :: l)) : Canon l := ⟨(List.pairwise_cons.1 h.pw).2, fun s hs => h.ne s (by simp [hs])⟩
theorem Canon.two {l : List Sq} (h : Canon l) {a b : Sq} (ha : a ∈ l) (hb : b ∈ l) : a = b ∨ Rs a b ∨ Rs b a := by
  induction l with
  | nil => cases ha
  | cons x l ih =>
    have h1 := (List.pairwise_cons.1 h.pw).1
    rcases List.mem_cons.1 ha with rfl | ha2 <;> rcases List.mem_cons.1 hb with rfl | hb2
    · exact .inl rfl
    · exact .inr (.inl (h1 _ hb2))
    · exact .inr (.inr (h1 _ ha2))
    · exact ih h.tail ha2 hb2
structure Mx (l : List Sq) (s : Sq) : Prop where
  ne : s.2.1 < s.2.2
  all : ∀ n, s.2.1 ≤ n → n < s.2.2 → Cov l s.1 n
  lo : ¬ Cov l s.1 (s.2.1 - 1)
  hi : ¬ Cov l s.1 s.2.2
theorem Canon.same {l : List Sq} (h : Canon l) {a b : Sq} (ha : a ∈ l) (hb : b ∈ l) (hp : a.1 = b.1) : a = b ∨ a.2.2 < b.2.1 ∨ b.2.2 < a.2.1 := by
  rcases h.two ha hb with e | (k | ⟨_, k⟩) | (k | ⟨_, k⟩)
  · exact .inl e
  · rw [hp] at k; exact absurd k (bs_irr _)
  · exact .inr (.inl k)
  · rw [hp] at k; exact absurd k (bs_irr _)
  · exact .inr (.inr k)
theorem Canon.mx {l : List Sq} (h : Canon l) {s : Sq} : s ∈ l ↔ Mx l s := by
  constructor
  · intro hs
    have hne := h.ne s hs
    refine ⟨hne, fun n h1 h2 => ⟨s, hs, rfl, h1, h2⟩, ?_, ?_⟩
    · rintro ⟨t, ht, hp, h1, h2⟩
      rcases h.same hs ht hp.symm with e | k | k
      · subst e; omega
      · omega
      · omega
    · rintro ⟨t, ht, hp, h1, h2⟩
      rcases h.same hs ht hp.symm with e | k | k
      · subst e; omega
      · omega
      · have := h.ne t ht; omega
  · rintro ⟨hne, h1, h2, h3⟩
    obtain ⟨t, ht, hp, k1, k2⟩ := h1 s.2.1 (Int.le_refl _) hne
    have e1 : t.2.1 = s.2.1 := by
      rcases Int.lt_or_eq_of_le k1 with k | k
      · exact absurd ⟨t, ht, hp, by omega, by omega⟩ h2
      · exact k
    have e2 : t.2.2 = s.2.2 := by
      by_cases hlt : t.2.2 < s.2.2
      · obtain ⟨u, hu, hpu, u1, u2⟩ := h1 t.2.2 (by omega) hlt
        rcases h.same ht hu (hp.trans hpu.symm) with e | k | k
        · subst e; omega
        · omega
        · have := h.ne t ht; omega
      · by_cases hgt : s.2.2 < t.2.2
        · exact absurd ⟨t, ht, hp, by omega, hgt⟩ h3
        · omega
    have : t = s := Prod.ext hp (Prod.ext e1 e2)
    rwa [← this]
theorem pw_eq {R : Sq → Sq → Prop} : ∀ (l m : List Sq), (∀ a ∈ l, ¬ R a a) → (∀ a ∈ l, ∀ b ∈ l, R a b → R b a → False) → l.Pairwise R → m.Pairwise R → (∀ s, s ∈ l ↔ s ∈ m) → l = m
  | [], [], _, _, _, _, _ => rfl
  | [], y :: m, _, _, _, _, h => absurd ((h y).2 (by simp)) (by simp)
  | x :: l, [], _, _, _, _, h => absurd ((h x).1 (by simp)) (by simp)
  | x :: l, y :: m, hi, ha, hl, hm, h => by
    obtain ⟨l1, l2⟩ := List.pairwise_cons.1 hl
    obtain ⟨m1, m2⟩ := List.pairwise_cons.1 hm
    have hxy : x = y := by
      rcases List.mem_cons.1 ((h x).1 (by simp)) with e | hx
      · exact e
      · rcases List.mem_cons.1 ((h y).2 (by simp)) with e | hy
        · exact e.symm
        · exact (ha x (by simp) y (by simp [hy]) (l1 y hy) (m1 x hx)).elim
    subst hxy
    rw [pw_eq l m (fun a h => hi a (by simp [h])) (fun a h b k => ha a (by simp [h]) b (by simp [k])) l2 m2 fun s => ?_]
    constructor
    · intro hs
      rcases List.mem_cons.1 ((h s).1 (by simp [hs])) with e | k
      · subst e; exact absurd (l1 s hs) (hi s (by simp))
      · exact k
    · intro hs
      rcases List.mem_cons.1 ((h s).2 (by simp [hs])) with e | k
      · subst e; exact absurd (m1 s hs) (hi s (by simp))
      · exact k
theorem canon_eq {l m : List Sq} (hl : Canon l) (hm : Canon m) (h : ∀ p n, Cov l p n ↔ Cov m p n) : l = m := by
  refine pw_eq l m (fun a ha k => k.irr (hl.ne a ha)) (fun a ha b hb k1 k2 => (k1.trans k2 (hl.ne b hb)).irr (hl.ne a ha)) hl.pw hm.pw fun s => ?_
  rw [hl.mx, hm.mx]
  constructor
  · rintro ⟨h1, h2, h3, h4⟩
    exact ⟨h1, fun n a b => (h _ _).1 (h2 n a b), fun k => h3 ((h _ _).2 k), fun k => h4 ((h _ _).2 k)⟩
  · rintro ⟨h1, h2, h3, h4⟩
    exact ⟨h1, fun n a b => (h _ _).2 (h2 n a b), fun k => h3 ((h _ _).1 k), fun k => h4 ((h _ _).1 k)⟩
def tch (s x : Sq) : Bool := s.1 == x.1 && (decide (s.2.1 ≤ x.2.2) && decide (x.2.1 ≤ s.2.2))
def mrg (s x : Sq) : Sq := (x.1, min x.2.1 s.2.1, max x.2.2 s.2.2)
def aft (s x : Sq) : Bool := decide (x.1 < s.1) || (s.1 == x.1 && decide (s.2.1 > x.2.2))
def addD (x : Sq) : List Sq → List Sq
  | [] => []
  | s :: r => if tch s x then addD (mrg s x) r else s :: addD x r
def addN (x : Sq) : List Sq → List Sq
  | [] => [x]
  | s :: r => if tch s x then addN (mrg s x) r else if aft s x then x :: s :: addD x r else s :: addN x r
theorem tch_iff (s x : Sq) : tch s x = true ↔ s.1 = x.1 ∧ s.2.1 ≤ x.2.2 ∧ x.2.1 ≤ s.2.2 := by
  unfold tch
  simp only [Bool.and_eq_true, beq_iff_eq, decide_eq_true_eq]
theorem aft_iff (s x : Sq) : aft s x = true ↔ Rs x s := by
  unfold aft Rs
  simp only [Bool.or_eq_true, Bool.and_eq_true, beq_iff_eq, decide_eq_true_eq]
  constructor
  · rintro (h | ⟨h1, h2⟩)
    · exact .inl h
    · exact .inr ⟨h1.symm, h2⟩
  · rintro (h | ⟨h1, h2⟩)
    · exact .inl h
    · exact .inr ⟨h1.symm, h2⟩
theorem addD_eq (x : Sq) : ∀ l, (∀ s ∈ l, Rs x s) → addD x l = l
  | [], _ => rfl
  | s :: r, h => by
    have h1 : tch s x = false := by
      rw [Bool.eq_false_iff]
      intro k
      rw [tch_iff] at k
      rcases h s (by simp) with q | ⟨_, q⟩
      · rw [k.1] at q; exact bs_irr _ q
      · omega
    rw [addD, h1, addD_eq x r (fun s hs => h s (by simp [hs]))]
    rfl
theorem Cov.cons {a : Sq} {l : List Sq} {p : List UInt8} {n : Int} : Cov (a :: l) p n ↔ (a.1 = p ∧ a.2.1 ≤ n ∧ n < a.2.2) ∨ Cov l p n := by
  constructor
  · rintro ⟨s, hs, h⟩
    rcases List.mem_cons.1 hs with rfl | hs
    · exact .inl h
    · exact .inr ⟨s, hs, h⟩
  · rintro (h | ⟨s, hs, h⟩)
    · exact ⟨a, by simp, h⟩
    · exact ⟨s, by simp [hs], h⟩
theorem cov_nil {p : List UInt8} {n : Int} : ¬ Cov [] p n := by
  rintro ⟨s, hs, _⟩
  cases hs
theorem mrg_cov {s x : Sq} (h : tch s x = true) (hs : s.2.1 < s.2.2) (hx : x.2.1 < x.2.2) (p : List UInt8) (n : Int) :
    ((mrg s x).1 = p ∧ (mrg s x).2.1 ≤ n ∧ n < (mrg s x).2.2) ↔ (x.1 = p ∧ x.2.1 ≤ n ∧ n < x.2.2) ∨ (s.1 = p ∧ s.2.1 ≤ n ∧ n < s.2.2) := by
  rw [tch_iff] at h
  obtain ⟨h1, h2, h3⟩ := h
  unfold mrg
  dsimp only
  rw [h1]
  constructor
  · rintro ⟨rfl, k1, k2⟩
    by_cases hn : x.2.1 ≤ n ∧ n < x.2.2
    · exact .inl ⟨rfl, hn⟩
    · exact .inr ⟨rfl, by omega, by omega⟩
  · rintro (⟨rfl, k1, k2⟩ | ⟨rfl, k1, k2⟩)
    · exact ⟨rfl, by omega, by omega⟩
    · exact ⟨rfl, by omega, by omega⟩
theorem lt_path {s x : Sq} (h1 : tch s x = false) (h2 : aft s x = false) : Rs s x := by
  by_cases hp : s.1 = x.1
  · refine .inr ⟨hp, ?_⟩
    have h3 : ¬ Rs x s := fun k => by rw [(aft_iff s x).2 k] at h2; cases h2
    have h4 : ¬ x.2.2 < s.2.1 := fun k => h3 (.inr ⟨hp.symm, k⟩)
    have h5 : ¬ (s.1 = x.1 ∧ s.2.1 ≤ x.2.2 ∧ x.2.1 ≤ s.2.2) := fun k => by rw [(tch_iff s x).2 k] at h1; cases h1
    by_cases h6 : s.2.2 < x.2.1
    · exact h6
    · exact absurd ⟨hp, by omega, by omega⟩ h5
  · by_cases hl : s.1 < x.1
    · exact .inl hl
    · have h3 : x.1 < s.1 := by
        have := List.not_lt.1 hl
        by_cases hq : x.1 < s.1
        · exact hq
        · exact absurd (List.le_antisymm (List.not_lt.1 hq) this) hp
      rw [(aft_iff s x).2 (.inl h3)] at h2
      cases h2
theorem addN_ok : ∀ (l : List Sq) (x : Sq), Canon l → x.2.1 < x.2.2 → Canon (addN x l) ∧ (∀ p n, Cov (addN x l) p n ↔ (x.1 = p ∧ x.2.1 ≤ n ∧ n < x.2.2) ∨ Cov l p n) ∧ ∀ y, Rs y x → (∀ s ∈ l, Rs y s) → ∀ z ∈ addN x l, Rs y z
  | [], x, _, hx => ⟨⟨by simp [addN], fun s hs => by simp [addN] at hs; rw [hs]; exact hx⟩, fun p n => by rw [addN, Cov.cons], fun y h _ z hz => by simp [addN] at hz; rw [hz]; exact h⟩
  | s :: r, x, hl, hx => by
    have hs := hl.ne s (by simp)
    have hsr := (List.pairwise_cons.1 hl.pw).1
    rw [addN]
    cases h1 : tch s x
    case true =>
      simp only [if_true]
      have ht := (tch_iff s x).1 h1
      obtain ⟨i1, i2, i3⟩ := addN_ok r (mrg s x) hl.tail (by unfold mrg; dsimp only; omega)
      refine ⟨i1, fun p n => ?_, fun y hy hall z hz => i3 y ?_ (fun t ht => hall t (by simp [ht])) z hz⟩
      · rw [i2, mrg_cov h1 hs hx, Cov.cons, or_assoc]
      · rcases hy with q | ⟨q1, q2⟩
        · exact .inl q
        · rcases hall s (by simp) with q | ⟨q3, q4⟩
          · refine .inl ?_
            show y.1 < x.1
            rw [← ht.1]; exact q
          · exact .inr ⟨q1, by unfold mrg; dsimp only; omega⟩
    case false =>
      cases h2 : aft s x
      case true =>
        simp only [Bool.false_eq_true, if_false, if_true]
        have hxs := (aft_iff s x).1 h2
        have hxr : ∀ t ∈ r, Rs x t := fun t ht => hxs.trans (hsr t ht) hs
        rw [addD_eq x r hxr]
        refine ⟨⟨List.pairwise_cons.2 ⟨fun t ht => ?_, hl.pw⟩, fun t ht => ?_⟩, fun p n => by rw [Cov.cons], fun y hy hall z hz => ?_⟩
        · rcases List.mem_cons.1 ht with rfl | ht
          · exact hxs
          · exact hxr t ht
        · rcases List.mem_cons.1 ht with rfl | ht
          · exact hx
          · exact hl.ne t ht
        · rcases List.mem_cons.1 hz with rfl | hz
          · exact hy
          · exact hall z hz
      case false =>
        simp only [Bool.false_eq_true, if_false]
        have hsx := lt_path h1 h2
        obtain ⟨i1, i2, i3⟩ := addN_ok r x hl.tail hx
        refine ⟨⟨List.pairwise_cons.2 ⟨fun z hz => i3 s hsx hsr z hz, i1.pw⟩, fun t ht => ?_⟩, fun p n => ?_, fun y hy hall z hz => ?_⟩
        · rcases List.mem_cons.1 ht with rfl | ht
          · exact hs
          · exact i1.ne t ht
        · rw [Cov.cons, i2, Cov.cons]
          exact or_left_comm
        · rcases List.mem_cons.1 hz with rfl | hz
          · exact hall _ (by simp)
          · exact i3 y hy (fun t ht => hall t (by simp [ht])) z hz
def full (s : Sq) : Bool := decide (s.2.1 < s.2.2)
def setG (l : List Sq) : List Sq := (l.filter full).foldl (fun a s => addN s a) []
theorem fold_ok : ∀ (l a : List Sq), (∀ s ∈ l, s.2.1 < s.2.2) → Canon a → Canon (l.foldl (fun a s => addN s a) a) ∧ ∀ p n, Cov (l.foldl (fun a s => addN s a) a) p n ↔ Cov a p n ∨ Cov l p n
  | [], a, _, ha => ⟨ha, fun p n => by simp [cov_nil]⟩
  | s :: l, a, h, ha => by
    obtain ⟨h1, h2, _⟩ := addN_ok a s ha (h s (by simp))
    obtain ⟨i1, i2⟩ := fold_ok l (addN s a) (fun t ht => h t (by simp [ht])) h1
    refine ⟨i1, fun p n => ?_⟩
    show Cov (l.foldl (fun a s => addN s a) (addN s a)) p n ↔ _
    rw [i2, h2, Cov.cons, or_assoc, or_left_comm]
theorem canon_nil : Canon [] := ⟨.nil, fun s hs => by cases hs⟩
theorem setG_ok (l : List Sq) : Canon (setG l) ∧ ∀ p n, Cov (setG l) p n ↔ Cov l p n := by
  obtain ⟨h1, h2⟩ := fold_ok (l.filter full) [] (fun s hs => by simpa [full] using (List.mem_filter.1 hs).2) canon_nil
  refine ⟨h1, fun p n => ?_⟩
  unfold setG
  rw [h2]
  constructor
  · rintro (h | ⟨s, hs, h⟩)
    · exact absurd h cov_nil
    · exact ⟨s, (List.mem_filter.1 hs).1, h⟩
  · rintro ⟨s, hs, h⟩
    exact .inr ⟨s, List.mem_filter.2 ⟨hs, by unfold full; exact decide_eq_true (by omega)⟩, h⟩
def Le (a b : Sq) : Prop := a.1 < b.1 ∨ (a.1 = b.1 ∧ a.2.1 ≤ b.2.1)
def mg : Sq → List Sq → List Sq
  | c, [] => [c]
  | c, s :: r => if c.1 == s.1 && decide (c.2.2 ≥ s.2.1) then mg (c.1, c.2.1, max c.2.2 s.2.2) r else c :: mg s r
def mgL : List Sq → List Sq
  | [] => []
  | s :: r => mg s r
theorem mg_mem : ∀ (r : List Sq) (c z : Sq), z ∈ mg c r → ∃ t ∈ c :: r, z.1 = t.1 ∧ z.2.1 = t.2.1
  | [], c, z, h => by
    simp only [mg, List.mem_singleton] at h
    exact ⟨c, by simp, by rw [h], by rw [h]⟩
  | s :: r, c, z, h => by
    rw [mg] at h
    split at h
    · obtain ⟨t, ht, h1, h2⟩ := mg_mem r _ z h
      rcases List.mem_cons.1 ht with rfl | ht
      · exact ⟨c, by simp, h1, h2⟩
      · exact ⟨t, by simp [ht], h1, h2⟩
    · rcases List.mem_cons.1 h with rfl | h
      · exact ⟨z, by simp, rfl, rfl⟩
      · obtain ⟨t, ht, h1, h2⟩ := mg_mem r s z h
        exact ⟨t, by simp only [List.mem_cons] at ht ⊢; exact .inr ht, h1, h2⟩
theorem mg_ok : ∀ (r : List Sq) (c : Sq), (∀ t ∈ r, Le c t) → r.Pairwise Le → c.2.1 < c.2.2 → (∀ t ∈ r, t.2.1 < t.2.2) → Canon (mg c r) ∧ ∀ p n, Cov (mg c r) p n ↔ Cov (c :: r) p n
  | [], c, _, _, hc, _ => ⟨⟨by simp [mg], fun s hs => by simp [mg] at hs; rw [hs]; exact hc⟩, fun p n => by rw [mg]⟩
  | s :: r, c, h, hp, hc, hr => by
    obtain ⟨p1, p2⟩ := List.pairwise_cons.1 hp
    have hcs := h s (by simp)
    have hs := hr s (by simp)
    rw [mg]
    cases h1 : (c.1 == s.1 && decide (c.2.2 ≥ s.2.1))
    case true =>
      simp only [Bool.and_eq_true, beq_iff_eq, decide_eq_true_eq] at h1
      obtain ⟨e1, e2⟩ := h1
      simp only [if_true]
      have hle : c.2.1 ≤ s.2.1 := by
        rcases hcs with k | ⟨_, k⟩
        · rw [e1] at k; exact absurd k (bs_irr _)
        · exact k
      obtain ⟨i1, i2⟩ := mg_ok r (c.1, c.2.1, max c.2.2 s.2.2) (fun t ht => h t (by simp [ht])) p2 (by dsimp only; omega) (fun t ht => hr t (by simp [ht]))
      refine ⟨i1, fun p n => ?_⟩
      rw [i2, Cov.cons, Cov.cons, Cov.cons, ← or_assoc]
      refine or_congr ?_ Iff.rfl
      dsimp only
      rw [← e1]
      constructor
      · rintro ⟨rfl, k1, k2⟩
        by_cases hn : n < c.2.2
        · exact .inl ⟨rfl, k1, hn⟩
        · exact .inr ⟨rfl, by omega, by omega⟩
      · rintro (⟨rfl, k1, k2⟩ | ⟨rfl, k1, k2⟩)
        · exact ⟨rfl, k1, by omega⟩
        · exact ⟨rfl, by omega, by omega⟩
    case false =>
      simp only [Bool.false_eq_true, if_false]
      obtain ⟨i1, i2⟩ := mg_ok r s p1 p2 hs (fun t ht => hr t (by simp [ht]))
      have hRs : Rs c s := by
        rcases hcs with k | ⟨k1, k2⟩
        · exact .inl k
        · refine .inr ⟨k1, ?_⟩
          by_cases hq : c.2.2 < s.2.1
          · exact hq
          · have : (c.1 == s.1 && decide (c.2.2 ≥ s.2.1)) = true := by
              simp only [Bool.and_eq_true, beq_iff_eq, decide_eq_true_eq]
              exact ⟨k1, by omega⟩
            rw [this] at h1; cases h1
      refine ⟨⟨List.pairwise_cons.2 ⟨fun z hz => ?_, i1.pw⟩, fun t ht => ?_⟩, fun p n => by rw [Cov.cons, i2, ← Cov.cons]⟩
      · obtain ⟨t, ht, k1, k2⟩ := mg_mem r s z hz
        have : Rs c t := by
          rcases List.mem_cons.1 ht with rfl | ht
          · exact hRs
          · rcases p1 t ht with q | ⟨q1, q2⟩ <;> rcases hRs with w | ⟨w1, w2⟩
            · exact .inl (List.lt_trans w q)
            · exact .inl (w1 ▸ q)
            · exact .inl (q1 ▸ w)
            · exact .inr ⟨w1.trans q1, by omega⟩
        unfold Rs at this ⊢
        rw [k1, k2]
        exact this
      · rcases List.mem_cons.1 ht with rfl | ht
        · exact hc
        · exact i1.ne t ht
theorem setG_eq {l m : List Sq} (hp : m.Perm (l.filter full)) (hs : m.Pairwise Le) : mgL m = setG l := by
  have hne : ∀ t ∈ m, t.2.1 < t.2.2 := fun t ht => by simpa [full] using (List.mem_filter.1 (hp.mem_iff.1 ht)).2
  obtain ⟨g1, g2⟩ := setG_ok l
  have hcov : ∀ p n, Cov m p n ↔ Cov l p n := fun p n => by
    constructor
    · rintro ⟨s, hs, h⟩
      exact ⟨s, (List.mem_filter.1 (hp.mem_iff.1 hs)).1, h⟩
    · rintro ⟨s, hs, h⟩
      exact ⟨s, hp.mem_iff.2 (List.mem_filter.2 ⟨hs, by unfold full; exact decide_eq_true (by omega)⟩), h⟩
  cases m with
  | nil =>
    refine canon_eq canon_nil g1 fun p n => ?_
    rw [g2, ← hcov]
    exact Iff.rfl
  | cons s r =>
    obtain ⟨p1, p2⟩ := List.pairwise_cons.1 hs
    obtain ⟨i1, i2⟩ := mg_ok r s p1 p2 (hne s (by simp)) (fun t ht => hne t (by simp [ht]))
    refine canon_eq i1 g1 fun p n => ?_
    rw [show mgL (s :: r) = mg s r from rfl, i2, hcov, g2]
end Go.Ab
