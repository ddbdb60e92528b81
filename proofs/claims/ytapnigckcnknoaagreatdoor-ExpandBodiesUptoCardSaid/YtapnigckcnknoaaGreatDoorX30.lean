/-
  One text of the proof (own work): contracts of functions of the program, by the abstract machine.
-/
import Derived.Test.YtapnigckcnknoaaGreatDoorX19
import Derived.Test.YtapnigckcnknoaaGreatDoorX29
import Derived.Test.YtapnigckcnknoaaGreatDoorX27
import Derived.Test.YtapnigckcnknoaaGreatDoorX24
set_option linter.unusedVariables false
set_option linter.unusedSimpArgs false
namespace Go.Ab
open Go Go.RowKit Go.Proofs Go.Shelf
set_option maxRecDepth 10000
set_option maxHeartbeats 16000000
theorem run_all {s : Bs} {nm : Bool} : runN s nm = s.length ↔ ∀ c ∈ s, runQ nm c.toNat = false := by
  have h1 := runI_all s nm
  have h2 := (runN_eq s nm).1
  rw [h2, Int.natCast_inj, List.any_eq_false] at h1
  rw [h1]
  exact forall_congr' fun c => forall_congr' fun _ => by simp
theorem take_beq {s : Bs} {n : Nat} (hn : n ≤ s.length) : (s.take n == s) = decide (n = s.length) := by
  rw [Bool.eq_iff_iff, beq_iff_eq, decide_eq_true_eq]
  constructor
  · intro h
    have := congrArg List.length h
    rw [List.length_take] at this
    omega
  · intro h
    rw [h, List.take_length]
theorem numE_bad {s : Bs} (h : ∃ c ∈ s, digI c.toNat = false) : (numE s).2 = 4 := by
  rw [← numR_eq]
  split
  · rfl
  · rw [numRGo_bad s 0 false h]
theorem syms_head : ∀ x ∈ symsL, x ≠ [] ∧ lettI (x.headD 0).toNat = false ∧ digI (x.headD 0).toNat = false ∧ symB x = x := by decide
theorem hasB_iff {l : List Bs} {s : Bs} : hasB l s = true ↔ s ∈ l := by
  unfold hasB
  rw [List.any_eq_true]
  constructor
  · rintro ⟨x, hx, h⟩
    have : x = s := by simpa using h
    rw [← this]; exact hx
  · intro h
    exact ⟨s, h, by simp⟩
theorem symB_has {s : Bs} (hs : s ≠ []) : (symB s != [] && symB s == s) = hasB symsL s := by
  rw [Bool.eq_iff_iff, hasB_iff]
  constructor
  · intro h
    simp only [Bool.and_eq_true, bne_iff_ne, ne_eq, beq_iff_eq] at h
    rw [sym_find] at h
    cases hf : symsL.find? (pfx s) with
    | none => rw [hf] at h; exact absurd rfl h.1
    | some x =>
      rw [hf] at h
      have hx := List.mem_of_find?_eq_some hf
      have : x = s := h.2
      rw [← this]; exact hx
  · intro h
    have := (syms_head s h).2.2.2
    rw [this]
    simp [hs]
def validR (k : Int) (s : Bs) : Bool := if k == 1 then idForm s else if k == 2 then (numE s).2 == 0 else if k == 3 then hasB symsL s else false
theorem validR_eq (k : Int) (s : Bs) : validR k s = validB k s := by
  unfold validR validB
  rcases hs : s with _ | ⟨c, r⟩
  · by_cases h1 : k = 1
    · simp [h1, idForm]
    · by_cases h2 : k = 2
      · simp [h2, numE]
      · by_cases h3 : k = 3
        · subst h3; rfl
        · simp [h1, h2, h3]
  rw [← hs]
  have hne : (s == []) = false := by rw [hs]; rfl
  have hne2 : s ≠ [] := by rw [hs]; simp
  have hhd : s.headD 0 = c := by rw [hs]; rfl
  have hcs : c ∈ s := by rw [hs]; simp
  have hid : idForm s = (!(decide ((s.length : Int) > 32)) && (lettI c.toNat && s.all ldB)) := by rw [hs]; rfl
  rw [hne]
  simp only [Bool.false_eq_true, if_false]
  unfold nextB
  rw [hhd]
  obtain ⟨_, l1⟩ := runN_eq s true
  obtain ⟨_, l2⟩ := runN_eq s false
  have hsy : hasB symsL s = true → lettI c.toNat = false ∧ digI c.toNat = false := fun h => by
    have := syms_head s (hasB_iff.1 h)
    rw [hhd] at this
    exact ⟨this.2.1, this.2.2.1⟩
  cases k1 : lettI (c.toNat : Int)
  case true =>
    have hsn : hasB symsL s = false := by
      cases h : hasB symsL s with
      | false => rfl
      | true => have := (hsy h).1; rw [k1] at this; cases this
    have hdg : digI c.toNat = false := by
      unfold lettI at k1
      unfold digI
      simp only [Bool.or_eq_true, Bool.and_eq_true, decide_eq_true_eq, beq_iff_eq] at k1
      simp only [Bool.and_eq_false_iff, decide_eq_false_iff_not]
      omega
    have hnb := numE_bad ⟨c, hcs, hdg⟩
    rw [hsn, hnb, hid, k1, Bool.true_and]
    simp only [if_true]
    have hall : s.all ldB = decide (runN s true = s.length) := by
      rw [Bool.eq_iff_iff, decide_eq_true_eq, run_all, List.all_eq_true]
      refine forall_congr' fun d => forall_congr' fun _ => ?_
      unfold ldB runQ
      cases lettI (d.toNat : Int) <;> cases digI (d.toNat : Int) <;> simp
    rw [hall]
    cases k2 : decide ((runN s true : Int) > 32)
    · simp only [Bool.false_eq_true, if_false]
      rw [take_beq l1]
      have h2 := of_decide_eq_false k2
      by_cases h3 : runN s true = s.length
      · have h4 : decide ((s.length : Int) > 32) = false := decide_eq_false (by omega)
        rw [decide_eq_true h3, h4]
        by_cases h1 : k = 1
        · simp [h1]
        · have : ((1 : Int) == k) = false := by simpa using fun e => h1 e.symm
          by_cases h5 : k = 2
          · simp [h5]
          · simp [h1, h5, this]
      · rw [decide_eq_false h3]
        by_cases h1 : k = 1
        · simp [h1]
        · by_cases h5 : k = 2
          · simp [h5]
          · simp [h1, h5]
    · simp only [if_true]
      have h2 := of_decide_eq_true k2
      have h4 : decide ((s.length : Int) > 32) = true := decide_eq_true (by omega)
      rw [h4]
      by_cases h1 : k = 1
      · simp [h1]
      · by_cases h5 : k = 2
        · simp [h5]
        · simp [h1, h5]
  case false =>
    simp only [Bool.false_eq_true, if_false]
    rw [hid, k1]
    cases k2 : digI (c.toNat : Int)
    case true =>
      have hsn : hasB symsL s = false := by
        cases h : hasB symsL s with
        | false => rfl
        | true => have := (hsy h).2; rw [k2] at this; cases this
      rw [hsn]
      simp only [if_true]
      by_cases h3 : runN s false = s.length
      · rw [h3, List.take_length, show decide (((s.length : Nat) : Int) < (s.length : Int)) = false from decide_eq_false (by omega)]
        simp only [Bool.false_and, Bool.false_eq_true, if_false]
        cases hq : ((numE s).2 == 0)
        · have hq2 : (numE s).2 ≠ 0 := by simpa using hq
          simp only [Bool.false_eq_true, if_false]
          rw [hq]
          by_cases h1 : k = 1
          · simp [h1]
          · by_cases h5 : k = 2
            · simp [h5]
            · simp [h1, h5]
        · simp only [if_true]
          by_cases h1 : k = 1
          · simp [h1]
          · by_cases h5 : k = 2
            · simp [h5]
            · have : ((2 : Int) == k) = false := by simpa using fun e => h5 e.symm
              simp [h1, h5, this]
      · have hb : ∃ d ∈ s, digI d.toNat = false := by
          have : ¬ ∀ d ∈ s, runQ false d.toNat = false := fun h => h3 (run_all.2 h)
          simp only [Classical.not_forall] at this
          obtain ⟨d, hd, hq⟩ := this
          refine ⟨d, hd, ?_⟩
          unfold runQ at hq
          simpa using hq
        have hnb := numE_bad hb
        rw [hnb]
        have ht : (s.take (runN s false) == s) = false := by rw [take_beq l2, decide_eq_false h3]
        have hL : (if k == 1 then (!decide ((s.length : Int) > 32) && (false && s.all ldB)) else if k == 2 then ((4 : Int) == 0) else if k == 3 then false else false) = false := by
          simp
        rw [hL]
        split
        · split
          · simp
          · simp [ht]
        · rename_i hq
          have hq2 : (numE (s.take (runN s false))).2 ≠ 0 := by simpa using hq
          simp [hq2]
    case false =>
      have hnb := numE_bad ⟨c, hcs, k2⟩
      have hsb := symB_has hne2
      simp only [Bool.false_eq_true, if_false]
      rw [hnb, ← hsb]
      cases hy : (symB s == [])
      · have hy2 : (symB s != []) = true := by simpa [bne] using hy
        rw [hy2]
        simp only [Bool.false_eq_true, if_false, Bool.true_and]
        by_cases h1 : k = 1
        · simp [h1]
        · by_cases h5 : k = 2
          · simp [h5]
          · by_cases h6 : k = 3
            · simp [h6]
            · have : ((3 : Int) == k) = false := by simpa using fun e => h6 e.symm
              simp [h1, h5, h6, this]
      · have hy2 : (symB s != []) = false := by simpa [bne] using hy
        rw [hy2]
        simp only [if_true, Bool.false_and]
        simp
noncomputable def g_validR5 : List D → Option D := encSpec (fun x : Int × Bs => [.agg [i64 x.1, .str x.2]]) (fun x : Int × Bs => x.2.length ≤ 1099511627776) (fun x : Int × Bs => .bool (validB x.1 x.2))
theorem g_validR5_eq {kd : Int} {s : Bs} (hd : s.length ≤ 1099511627776) : g_validR5 [.agg [.int .i64 kd, .str s]] = some (.bool (validB kd s)) := encSpec_eq (x := (kd, s)) hd fun y hy => by
    obtain ⟨y0, y1⟩ := y; simp only [List.cons.injEq, and_true, true_and, D.str.injEq, D.int.injEq, D.list.injEq, D.bool.injEq, D.agg.injEq, D.clo.injEq, Int.natCast_inj, inj_ie, D.ref.injEq, eTk_ie, eTk_e] at hy
    (try obtain ⟨rfl, rfl⟩ := hy)
    (try subst_vars)
    rfl
theorem f_validR5_ok : PureOK Tryz.prog 47 true g_validR5 := by
  have hΓ := Γp f_form05_ok (Γp f_numR5_ok (Γp f_symsR_ok (Γp f_has_ok (Γn))))
  refine pure_enc (n := 28) (rs := [.tmp 2]) Tryz.func47 (by kernel_rfl) rfl (by kernel_rfl) (by kernel_rfl) ?_
  rintro ⟨kd, s⟩ hd
  (try dsimp only at hd ⊢)
  refine ⟨fun _ => by (repeat (first | exact .int _ _ | exact .bool _ | exact .str _ | (refine .tup _ (fun d hd => ?_); simp only [List.mem_cons, List.not_mem_nil, or_false] at hd; rcases hd with rfl | hd))), fun k hz0 => ?_⟩
  rw [← validR_eq]
  unfold validR
  have e1 := g_form05_eq hd
  have e2 := g_numR5_eq hd
  have e3 := g_symsR_eq trivial
  have e4 := g_has_eq (l := symsL) (s := s) (by decide)
  generalize idForm s = b1 at *
  generalize hasB symsL s = b3 at *
  generalize symsL = L at *
  generalize numE s = q at *
  obtain ⟨q1, q2⟩ := q
  dsimp only at e2 ⊢
  rw [start_frame (by simp)]; simp only [enumV, go_sem, emptyH]
  cases k1 : (kd == 1)
  case true =>
    simp only [if_true]
    repeat (first
      | (apply axJ; (focus ((with_reducible constructor) <;> rfl)))
      | (apply awT mixedOK hΓ (by kernel_rfl); (simp (disch := omega) only [go_sem, ↓reduceIte, dk, ↓lk, Int.reduceBEq, Int.reduceBNe, Bool.true_bne, Bool.false_bne, Bool.not_true, Bool.not_false, k1, e1] <;> with_reducible rfl))
      | ((first | apply awR hΓ | apply awG | apply awH mixedOK hΓ rfl (by kernel_rfl) | apply ovE rfl); (simp (disch := omega) only [go_sem, ↓reduceIte, dk, ↓lk, Int.reduceBEq, Int.reduceBNe, Bool.true_bne, Bool.false_bne, Bool.not_true, Bool.not_false, k1, e1] <;> with_reducible rfl); exact trivial)
      | rfl)
    try rfl
  simp only [Bool.false_eq_true, if_false]
  cases k2 : (kd == 2)
  case true =>
    simp only [if_true]
    cases k4 : (q2 == 0)
    · repeat (first
      | (apply axJ; (focus ((with_reducible constructor) <;> rfl)))
      | (apply awT mixedOK hΓ (by kernel_rfl); (simp (disch := omega) only [go_sem, ↓reduceIte, dk, ↓lk, Int.reduceBEq, Int.reduceBNe, Bool.true_bne, Bool.false_bne, Bool.not_true, Bool.not_false, k1, k2, k4, e2] <;> with_reducible rfl))
      | ((first | apply awR hΓ | apply awG | apply awH mixedOK hΓ rfl (by kernel_rfl) | apply ovE rfl); (simp (disch := omega) only [go_sem, ↓reduceIte, dk, ↓lk, Int.reduceBEq, Int.reduceBNe, Bool.true_bne, Bool.false_bne, Bool.not_true, Bool.not_false, k1, k2, k4, e2] <;> with_reducible rfl); exact trivial)
      | rfl)
      try rfl
    · repeat (first
      | (apply axJ; (focus ((with_reducible constructor) <;> rfl)))
      | (apply awT mixedOK hΓ (by kernel_rfl); (simp (disch := omega) only [go_sem, ↓reduceIte, dk, ↓lk, Int.reduceBEq, Int.reduceBNe, Bool.true_bne, Bool.false_bne, Bool.not_true, Bool.not_false, k1, k2, k4, e2] <;> with_reducible rfl))
      | ((first | apply awR hΓ | apply awG | apply awH mixedOK hΓ rfl (by kernel_rfl) | apply ovE rfl); (simp (disch := omega) only [go_sem, ↓reduceIte, dk, ↓lk, Int.reduceBEq, Int.reduceBNe, Bool.true_bne, Bool.false_bne, Bool.not_true, Bool.not_false, k1, k2, k4, e2] <;> with_reducible rfl); exact trivial)
      | rfl)
      try rfl
  simp only [Bool.false_eq_true, if_false]
  cases k3 : (kd == 3)
  case true =>
    simp only [if_true]
    repeat (first
      | (apply axJ; (focus ((with_reducible constructor) <;> rfl)))
      | (apply awT mixedOK hΓ (by kernel_rfl); (simp (disch := omega) only [go_sem, ↓reduceIte, dk, ↓lk, Int.reduceBEq, Int.reduceBNe, Bool.true_bne, Bool.false_bne, Bool.not_true, Bool.not_false, k1, k2, k3, e3, e4] <;> with_reducible rfl))
      | ((first | apply awR hΓ | apply awG | apply awH mixedOK hΓ rfl (by kernel_rfl) | apply ovE rfl); (simp (disch := omega) only [go_sem, ↓reduceIte, dk, ↓lk, Int.reduceBEq, Int.reduceBNe, Bool.true_bne, Bool.false_bne, Bool.not_true, Bool.not_false, k1, k2, k3, e3, e4] <;> with_reducible rfl); exact trivial)
      | rfl)
    try rfl
  simp only [Bool.false_eq_true, if_false]
  repeat (first
    | (apply axJ; (focus ((with_reducible constructor) <;> rfl)))
    | (apply awT mixedOK hΓ (by kernel_rfl); (simp (disch := omega) only [go_sem, ↓reduceIte, dk, ↓lk, Int.reduceBEq, Int.reduceBNe, Bool.true_bne, Bool.false_bne, Bool.not_true, Bool.not_false, k1, k2, k3] <;> with_reducible rfl))
    | ((first | apply awR hΓ | apply awG | apply awH mixedOK hΓ rfl (by kernel_rfl) | apply ovE rfl); (simp (disch := omega) only [go_sem, ↓reduceIte, dk, ↓lk, Int.reduceBEq, Int.reduceBNe, Bool.true_bne, Bool.false_bne, Bool.not_true, Bool.not_false, k1, k2, k3] <;> with_reducible rfl); exact trivial)
    | rfl)
  try rfl
def allV (l : List Tk) : Bool := l.all (fun t => validB t.1 t.2) && decide ((l.length : Int) ≤ 256)
noncomputable def g_allVR : List D → Option D := encSpec (fun x : (List Tk) => [.list (x.map eTk)]) (fun x : (List Tk) => x.length ≤ 1099511627776 ∧ ∀ t ∈ x, t.2.length ≤ 1099511627776) (fun x : (List Tk) => .bool (allV x))
theorem g_allVR_eq {l : List Tk} (hd : l.length ≤ 1099511627776 ∧ ∀ t ∈ l, t.2.length ≤ 1099511627776) : g_allVR [.list (l.map eTk)] = some (.bool (allV l)) := encSpec_eq (x := l) hd fun y hy => by
    simp only [List.cons.injEq, and_true, true_and, D.str.injEq, D.int.injEq, D.list.injEq, D.bool.injEq, D.agg.injEq, D.clo.injEq, Int.natCast_inj, inj_ie, D.ref.injEq, eTk_ie, eTk_e] at hy
    rw [hy]
theorem f_allVR_ok : PureOK Tryz.prog 20 true g_allVR := by
  have hΓ := Γp f_validR5_ok (Γn)
  refine pure_enc (n := 18) (rs := [.tmp 2]) Tryz.func20 (by kernel_rfl) rfl (by kernel_rfl) (by kernel_rfl) ?_
  rintro l hd
  (try dsimp only at hd ⊢)
  refine ⟨fun _ => by (repeat (first | exact .int _ _ | exact .bool _ | exact .str _ | (refine .tup _ (fun d hd => ?_); simp only [List.mem_cons, List.not_mem_nil, or_false] at hd; rcases hd with rfl | hd))), fun k hz0 => ?_⟩
  obtain ⟨d1, d2⟩ := hd
  unfold allV
  rw [start_frame (by simp)]; simp only [enumV, go_sem, emptyH]
  repeat (first
    | (apply axJ; (focus ((with_reducible constructor) <;> rfl)))
    | (apply awT mixedOK hΓ (by kernel_rfl); (simp (disch := omega) only [go_sem, ↓reduceIte, dk, ↓lk, Int.reduceBEq, Int.reduceBNe, Bool.true_bne, Bool.false_bne, Bool.not_true, Bool.not_false] <;> with_reducible rfl))
    | ((first | apply awR hΓ | apply awG | apply awH mixedOK hΓ rfl (by kernel_rfl) | apply ovE rfl); (simp (disch := omega) only [go_sem, ↓reduceIte, dk, ↓lk, Int.reduceBEq, Int.reduceBNe, Bool.true_bne, Bool.false_bne, Bool.not_true, Bool.not_false] <;> with_reducible rfl); exact trivial)
    | rfl)
  refine awp_loop_at (X := Nat) (fun i => (frame 18 [(0, .data (.list (l.map eTk))), (5, .data (.list (l.map eTk))), (6, .data (i64 l.length)), (7, .data (i64 i))])) (fun _ => []) 8
    (fun i => i ≤ l.length ∧ (l.take i).all (fun t => validB t.1 t.2) = true) (fun i => l.length - i) 0 ⟨Nat.zero_le _, rfl⟩ (Weak.w) ?_
  rintro i ⟨hi, hpre⟩
  (try dsimp only at hi hpre ⊢)
  by_cases hi2 : i < l.length
  · have hat := @all_at _ (fun t : Tk => validB t.1 t.2) l i hi2
    have htk := @all_take _ (fun t : Tk => validB t.1 t.2) l i hi2 hpre
    have e1 := g_validR5_eq (kd := l[i].1) (s := l[i].2) (d2 _ (List.getElem_mem hi2))
    generalize hy : l[i] = y at *
    obtain ⟨y1, y2⟩ := y
    dsimp only at hat htk e1
    generalize validB y1 y2 = b at *
    cases b
    · rw [hat rfl, Bool.false_and]
      repeat (first
        | (apply axJ; (focus ((with_reducible constructor) <;> rfl)))
        | (apply awT mixedOK hΓ (by kernel_rfl); (simp (disch := omega) only [go_sem, ↓reduceIte, dk, ↓lk, Int.reduceBEq, Int.reduceBNe, Bool.true_bne, Bool.false_bne, Bool.not_true, Bool.not_false, hy, e1] <;> with_reducible rfl))
        | ((first | apply awR hΓ | apply awG | apply awH mixedOK hΓ rfl (by kernel_rfl) | apply ovE rfl); (simp (disch := omega) only [go_sem, ↓reduceIte, dk, ↓lk, Int.reduceBEq, Int.reduceBNe, Bool.true_bne, Bool.false_bne, Bool.not_true, Bool.not_false, hy, e1] <;> with_reducible rfl); exact trivial)
        | rfl)
      try rfl
    · repeat (first
      | (apply axJ; (focus ((with_reducible constructor) <;> rfl)))
      | (apply awT mixedOK hΓ (by kernel_rfl); (simp (disch := omega) only [go_sem, ↓reduceIte, dk, ↓lk, Int.reduceBEq, Int.reduceBNe, Bool.true_bne, Bool.false_bne, Bool.not_true, Bool.not_false, hy, e1] <;> with_reducible rfl))
      | ((first | apply awR hΓ | apply awG | apply awH mixedOK hΓ rfl (by kernel_rfl) | apply ovE rfl); (simp (disch := omega) only [go_sem, ↓reduceIte, dk, ↓lk, Int.reduceBEq, Int.reduceBNe, Bool.true_bne, Bool.false_bne, Bool.not_true, Bool.not_false, hy, e1] <;> with_reducible rfl); exact trivial)
      | rfl)
      exact ⟨i + 1, ⟨by omega, htk rfl⟩, by omega, Weak.w⟩
  have hi3 : i = l.length := by omega
  subst hi3
  rw [List.take_length] at hpre
  rw [hpre, Bool.true_and]
  generalize hc : decide ((l.length : Int) ≤ 256) = c
  repeat (first
    | (apply axJ; (focus ((with_reducible constructor) <;> rfl)))
    | (apply awT mixedOK hΓ (by kernel_rfl); (simp (disch := omega) only [go_sem, ↓reduceIte, dk, ↓lk, Int.reduceBEq, Int.reduceBNe, Bool.true_bne, Bool.false_bne, Bool.not_true, Bool.not_false, hc] <;> with_reducible rfl))
    | ((first | apply awR hΓ | apply awG | apply awH mixedOK hΓ rfl (by kernel_rfl) | apply ovE rfl); (simp (disch := omega) only [go_sem, ↓reduceIte, dk, ↓lk, Int.reduceBEq, Int.reduceBNe, Bool.true_bne, Bool.false_bne, Bool.not_true, Bool.not_false, hc] <;> with_reducible rfl); exact trivial)
    | rfl)
  try rfl
end Go.Ab
namespace Go.Ab
open Go Go.RowKit Go.Proofs
set_option maxRecDepth 10000
set_option maxHeartbeats 16000000
def few5 (l : List Tk) : Bool := l.all (fun t => !decide ((t.2.length : Int) > 50)) && decide ((l.length : Int) ≤ 300)
noncomputable def g_few5R : List D → Option D := encSpec (fun x : (List Tk) => [.list (x.map eTk)]) (fun x : (List Tk) => x.length ≤ 1099511627776) (fun x : (List Tk) => .bool (few5 x))
theorem g_few5R_eq {l : List Tk} (hd : l.length ≤ 1099511627776) : g_few5R [.list (l.map eTk)] = some (.bool (few5 l)) := encSpec_eq (x := l) hd fun y hy => by
    simp only [List.cons.injEq, and_true, true_and, D.str.injEq, D.int.injEq, D.list.injEq, D.bool.injEq, D.agg.injEq, D.clo.injEq, Int.natCast_inj, inj_ie, D.ref.injEq, eTk_ie, eTk_e, eFl_ie, eSp_ie] at hy
    rw [hy]
theorem f_few5R_ok : PureOK Tryz.prog 38 true g_few5R := by
  have hΓ := Γ0_ok
  refine pure_enc (n := 19) (rs := [.tmp 2]) Tryz.func38 (by kernel_rfl) rfl (by kernel_rfl) (by kernel_rfl) ?_
  rintro l hd
  (try dsimp only at hd ⊢)
  refine ⟨fun _ => by (repeat (first | exact .int _ _ | exact .bool _ | exact .str _ | (refine .tup _ (fun d hd => ?_); simp only [List.mem_cons, List.not_mem_nil, or_false] at hd; rcases hd with rfl | hd))), fun k hz0 => ?_⟩
  unfold few5
  rw [start_frame (by simp)]; simp only [enumV, go_sem, emptyH]
  repeat (first
    | (apply axJ; (focus ((with_reducible constructor) <;> rfl)))
    | (apply awT mixedOK hΓ (by kernel_rfl); (simp (disch := omega) only [go_sem, ↓reduceIte, dk, ↓lk, Int.reduceBEq, Int.reduceBNe, Bool.true_bne, Bool.false_bne, Bool.not_true, Bool.not_false] <;> with_reducible rfl))
    | ((first | apply awR hΓ | apply awG | apply awH mixedOK hΓ rfl (by kernel_rfl) | apply ovE rfl); (simp (disch := omega) only [go_sem, ↓reduceIte, dk, ↓lk, Int.reduceBEq, Int.reduceBNe, Bool.true_bne, Bool.false_bne, Bool.not_true, Bool.not_false] <;> with_reducible rfl); exact trivial)
    | rfl)
  refine awp_loop_at (X := Nat) (fun i => (frame 19 [(0, .data (.list (l.map eTk))), (5, .data (.list (l.map eTk))), (6, .data (i64 l.length)), (7, .data (i64 i))])) (fun _ => []) 8
    (fun i => i ≤ l.length ∧ (l.take i).all (fun t => !decide ((t.2.length : Int) > 50)) = true) (fun i => l.length - i) 0 ⟨Nat.zero_le _, rfl⟩ (Weak.w) ?_
  rintro i ⟨hi, hpre⟩
  (try dsimp only at hi hpre ⊢)
  by_cases hi2 : i < l.length
  · have hat := @all_at _ (fun t : Tk => !decide ((t.2.length : Int) > 50)) l i hi2
    have htk := @all_take _ (fun t : Tk => !decide ((t.2.length : Int) > 50)) l i hi2 hpre
    generalize hy : l[i] = y at *
    obtain ⟨y1, y2⟩ := y
    dsimp only at hat htk
    cases hq : decide ((y2.length : Int) > 50)
    · rw [hq] at htk
      repeat (first
        | (apply axJ; (focus ((with_reducible constructor) <;> rfl)))
        | (apply awT mixedOK hΓ (by kernel_rfl); (simp (disch := omega) only [go_sem, ↓reduceIte, dk, ↓lk, Int.reduceBEq, Int.reduceBNe, Bool.true_bne, Bool.false_bne, Bool.not_true, Bool.not_false, hy, hq] <;> with_reducible rfl))
        | ((first | apply awR hΓ | apply awG | apply awH mixedOK hΓ rfl (by kernel_rfl) | apply ovE rfl); (simp (disch := omega) only [go_sem, ↓reduceIte, dk, ↓lk, Int.reduceBEq, Int.reduceBNe, Bool.true_bne, Bool.false_bne, Bool.not_true, Bool.not_false, hy, hq] <;> with_reducible rfl); exact trivial)
        | rfl)
      exact ⟨i + 1, ⟨by omega, htk rfl⟩, by omega, Weak.w⟩
    · rw [hq] at hat
      rw [hat rfl, Bool.false_and]
      repeat (first
        | (apply axJ; (focus ((with_reducible constructor) <;> rfl)))
        | (apply awT mixedOK hΓ (by kernel_rfl); (simp (disch := omega) only [go_sem, ↓reduceIte, dk, ↓lk, Int.reduceBEq, Int.reduceBNe, Bool.true_bne, Bool.false_bne, Bool.not_true, Bool.not_false, hy, hq] <;> with_reducible rfl))
        | ((first | apply awR hΓ | apply awG | apply awH mixedOK hΓ rfl (by kernel_rfl) | apply ovE rfl); (simp (disch := omega) only [go_sem, ↓reduceIte, dk, ↓lk, Int.reduceBEq, Int.reduceBNe, Bool.true_bne, Bool.false_bne, Bool.not_true, Bool.not_false, hy, hq] <;> with_reducible rfl); exact trivial)
        | rfl)
      try rfl
  have hi3 : i = l.length := by omega
  subst hi3
  rw [List.take_length] at hpre
  rw [hpre, Bool.true_and]
  generalize hc : decide ((l.length : Int) ≤ 300) = c
  repeat (first
    | (apply axJ; (focus ((with_reducible constructor) <;> rfl)))
    | (apply awT mixedOK hΓ (by kernel_rfl); (simp (disch := omega) only [go_sem, ↓reduceIte, dk, ↓lk, Int.reduceBEq, Int.reduceBNe, Bool.true_bne, Bool.false_bne, Bool.not_true, Bool.not_false, hc] <;> with_reducible rfl))
    | ((first | apply awR hΓ | apply awG | apply awH mixedOK hΓ rfl (by kernel_rfl) | apply ovE rfl); (simp (disch := omega) only [go_sem, ↓reduceIte, dk, ↓lk, Int.reduceBEq, Int.reduceBNe, Bool.true_bne, Bool.false_bne, Bool.not_true, Bool.not_false, hc] <;> with_reducible rfl); exact trivial)
    | rfl)
  try rfl
def few3Go (z : Int) : Int → List Fl → Bool
  | _, [] => true
  | n, f :: r => if decide ((f.1.length : Int) > 300) || decide (n + (f.2.length : Int) > z) then false else few3Go z (n + (f.2.length : Int)) r
def few3 (l : List Fl) (m z : Int) : Bool := if decide ((l.length : Int) > m) then false else few3Go z 0 l
end Go.Ab
namespace Go.Ab
open Go Go.RowKit Go.Proofs
set_option maxRecDepth 10000
set_option maxHeartbeats 16000000
def tokRow : List Bs → List Tk → List Tk × Int
  | [], acc => (acc, 0)
  | s :: r, acc => if (toksB s).2 == 0 then tokRow r (acc ++ (toksB s).1) else ([], (toksB s).2)
def bodyT (R : List Bs) : List Tk × Int :=
  if (tokRow R []).2 == 0 then (if decide (((tokRow R []).1.length : Int) > 256) then ([], 10) else ((tokRow R []).1, 0)) else ([], (tokRow R []).2)
def bodyR (l : List Bs) (b : Sp) : List Tk × Int :=
  if decide (b.2.1 < 0) || (decide (b.2.2 < b.2.1) || decide (b.2.2 > (l.length : Int))) then ([], 3) else bodyT ((l.drop b.2.1.toNat).take (b.2.2.toNat - b.2.1.toNat))
def bodyB (fs : List Fl) (b : Sp) : List Tk × Int :=
  if (findF fs b.1).2 then (if (linesE (findF fs b.1).1).2 == 0 then bodyR (linesE (findF fs b.1).1).1 b else ([], (linesE (findF fs b.1).1).2)) else ([], 7)
theorem toksF_len : ∀ (f : Nat) (acc : List Tk) (s : Bs), acc.length ≤ 256 → (toksF f acc s).1.length ≤ 256
  | 0, _, _, h => h
  | _ + 1, _, [], h => h
  | f + 1, acc, c :: r, h => by
    rw [toksF]
    split
    · exact toksF_len f acc r h
    · split
      · simp
      · rename_i h2
        have h3 : acc.length ≠ 256 := by simpa using h2
        split
        · exact toksF_len f _ _ (by rw [List.length_append]; simp only [List.length_cons, List.length_nil]; omega)
        · simp
theorem toks_len (s : Bs) : (toksB s).1.length ≤ 256 := by
  unfold toksB
  split
  · simp
  · exact toksF_len _ _ _ (by simp)
theorem find_le {l : List Fl} {m : Nat} (h : ∀ f ∈ l, f.2.length ≤ m) (q : Bs) : (findF l q).1.length ≤ m := by
  unfold findF
  cases hf : l.find? (fun f => f.1 == q) with
  | none => exact Nat.zero_le _
  | some f => exact h f (List.mem_of_find?_eq_some hf)
noncomputable def g_bodyP : List D → Option D := encSpec (fun x : (List Fl) × Mc => [.list (x.1.map eFl), eMc x.2]) (fun x : (List Fl) × Mc => x.1.length ≤ 1099511627776 ∧ ∀ f ∈ x.1, f.2.length ≤ 1000000000) (fun x : (List Fl) × Mc => eTks (bodyB x.1 x.2.body))
theorem g_bodyP_eq {fs : List Fl} {m : Mc} (hd : fs.length ≤ 1099511627776 ∧ ∀ f ∈ fs, f.2.length ≤ 1000000000) : g_bodyP [.list (fs.map eFl), eMc m] = some (eTks (bodyB fs m.body)) := encSpec_eq (x := (fs, m)) hd fun y hy => by
    obtain ⟨y0, y1⟩ := y; simp only [List.cons.injEq, and_true, true_and, D.str.injEq, D.int.injEq, D.list.injEq, D.bool.injEq, D.agg.injEq, D.clo.injEq, Int.natCast_inj, inj_ie, D.ref.injEq, eTk_ie, eTk_e, eFl_ie, eSp_ie, eMc_e] at hy
    (try obtain ⟨rfl, rfl⟩ := hy)
    (try subst_vars)
    rfl
theorem f_bodyP_ok : PureOK Tryz.prog 12 false g_bodyP := by
  have hΓ := Γp f_tfind_ok (Γp f_linesP_ok (Γp f_toksP_ok (Γn)))
  refine pure_enc (n := 83) (rs := [.tmp 4, .tmp 5]) Tryz.func12 (by kernel_rfl) rfl (by kernel_rfl) (by kernel_rfl) ?_
  rintro ⟨fs, m⟩ hd
  (try dsimp only at hd ⊢)
  refine ⟨fun h => (by cases h), fun k hz0 => ?_⟩
  obtain ⟨d1, d2⟩ := hd
  obtain ⟨mn, mp, b1, b2, b3⟩ := m
  have hfl := find_le d2 b1
  have e1 := g_tfind_eq (l := fs) (q := b1) d1
  have e2 := g_linesP_eq (s := (findF fs b1).1) (by omega)
  unfold bodyB
  dsimp only
  rw [eMc_eq]
  dsimp only
  generalize findF fs b1 = F at *
  obtain ⟨F1, F2⟩ := F
  dsimp only at *
  rw [start_frame (by simp)]; simp only [enumV, go_sem, emptyH]
  cases F2
  · simp only [Bool.false_eq_true, if_false]
    repeat (first
      | (apply axJ; (focus ((with_reducible constructor) <;> rfl)))
      | (apply awT mixedOK hΓ (by kernel_rfl); (simp (disch := omega) only [go_sem, ↓reduceIte, dk, ↓lk, Int.reduceBEq, Int.reduceBNe, Bool.true_bne, Bool.false_bne, Bool.not_true, Bool.not_false, e1] <;> with_reducible rfl))
      | ((first | apply awR hΓ | apply awG | apply awH mixedOK hΓ rfl (by kernel_rfl) | apply ovE rfl); (simp (disch := omega) only [go_sem, ↓reduceIte, dk, ↓lk, Int.reduceBEq, Int.reduceBNe, Bool.true_bne, Bool.false_bne, Bool.not_true, Bool.not_false, e1] <;> with_reducible rfl); exact trivial)
      | rfl)
    try rfl
  simp only [if_true]
  have hLb := lines_bd F1
  generalize linesE F1 = G at *
  obtain ⟨G1, G2⟩ := G
  replace e2 : g_linesP [.str F1] = some (.tup [.list (G1.map .str), .int .i64 G2]) := e2
  dsimp only
  cases hG : (G2 == 0)
  · have hG2 : (G2 != 0) = true := by simpa [bne] using hG
    simp only [Bool.false_eq_true, if_false]
    repeat (first
      | (apply axJ; (focus ((with_reducible constructor) <;> rfl)))
      | (apply awT mixedOK hΓ (by kernel_rfl); (simp (disch := omega) only [go_sem, ↓reduceIte, dk, ↓lk, Int.reduceBEq, Int.reduceBNe, Bool.true_bne, Bool.false_bne, Bool.not_true, Bool.not_false, e1, e2, hG2] <;> with_reducible rfl))
      | ((first | apply awR hΓ | apply awG | apply awH mixedOK hΓ rfl (by kernel_rfl) | apply ovE rfl); (simp (disch := omega) only [go_sem, ↓reduceIte, dk, ↓lk, Int.reduceBEq, Int.reduceBNe, Bool.true_bne, Bool.false_bne, Bool.not_true, Bool.not_false, e1, e2, hG2] <;> with_reducible rfl); exact trivial)
      | rfl)
    try rfl
  have hG2 : (G2 != 0) = false := by simpa [bne] using hG
  simp only [if_true]
  unfold bodyR
  dsimp only
  cases hr1 : decide (b2 < 0)
  case true =>
    simp only [Bool.true_or, if_true]
    repeat (first
      | (apply axJ; (focus ((with_reducible constructor) <;> rfl)))
      | (apply awT mixedOK hΓ (by kernel_rfl); (simp (disch := omega) only [go_sem, ↓reduceIte, dk, ↓lk, Int.reduceBEq, Int.reduceBNe, Bool.true_bne, Bool.false_bne, Bool.not_true, Bool.not_false, e1, e2, hG2, hr1] <;> with_reducible rfl))
      | ((first | apply awR hΓ | apply awG | apply awH mixedOK hΓ rfl (by kernel_rfl) | apply ovE rfl); (simp (disch := omega) only [go_sem, ↓reduceIte, dk, ↓lk, Int.reduceBEq, Int.reduceBNe, Bool.true_bne, Bool.false_bne, Bool.not_true, Bool.not_false, e1, e2, hG2, hr1] <;> with_reducible rfl); exact trivial)
      | rfl)
    try rfl
  cases hr2 : decide (b3 < b2)
  case true =>
    simp only [Bool.true_or, Bool.or_true, if_true]
    repeat (first
      | (apply axJ; (focus ((with_reducible constructor) <;> rfl)))
      | (apply awT mixedOK hΓ (by kernel_rfl); (simp (disch := omega) only [go_sem, ↓reduceIte, dk, ↓lk, Int.reduceBEq, Int.reduceBNe, Bool.true_bne, Bool.false_bne, Bool.not_true, Bool.not_false, e1, e2, hG2, hr1, hr2] <;> with_reducible rfl))
      | ((first | apply awR hΓ | apply awG | apply awH mixedOK hΓ rfl (by kernel_rfl) | apply ovE rfl); (simp (disch := omega) only [go_sem, ↓reduceIte, dk, ↓lk, Int.reduceBEq, Int.reduceBNe, Bool.true_bne, Bool.false_bne, Bool.not_true, Bool.not_false, e1, e2, hG2, hr1, hr2] <;> with_reducible rfl); exact trivial)
      | rfl)
    try rfl
  cases hr3 : decide (b3 > (G1.length : Int))
  case true =>
    simp only [Bool.or_true, if_true]
    repeat (first
      | (apply axJ; (focus ((with_reducible constructor) <;> rfl)))
      | (apply awT mixedOK hΓ (by kernel_rfl); (simp (disch := omega) only [go_sem, ↓reduceIte, dk, ↓lk, Int.reduceBEq, Int.reduceBNe, Bool.true_bne, Bool.false_bne, Bool.not_true, Bool.not_false, e1, e2, hG2, hr1, hr2, hr3] <;> with_reducible rfl))
      | ((first | apply awR hΓ | apply awG | apply awH mixedOK hΓ rfl (by kernel_rfl) | apply ovE rfl); (simp (disch := omega) only [go_sem, ↓reduceIte, dk, ↓lk, Int.reduceBEq, Int.reduceBNe, Bool.true_bne, Bool.false_bne, Bool.not_true, Bool.not_false, e1, e2, hG2, hr1, hr2, hr3] <;> with_reducible rfl); exact trivial)
      | rfl)
    try rfl
  simp only [Bool.or_self, Bool.false_eq_true, if_false]
  have k1 := of_decide_eq_false hr1
  have k2 := of_decide_eq_false hr2
  have k3 := of_decide_eq_false hr3
  obtain ⟨f, rfl⟩ : ∃ f : Nat, b2 = (f : Int) := ⟨b2.toNat, by omega⟩
  obtain ⟨t, rfl⟩ : ∃ t : Nat, b3 = (t : Int) := ⟨b3.toNat, by omega⟩
  rw [Int.toNat_natCast, Int.toNat_natCast]
  have hsl : List.take (t - f) (List.drop f (List.map D.str G1)) = ((G1.drop f).take (t - f)).map D.str := by rw [List.map_take, List.map_drop]
  have hRl : ((G1.drop f).take (t - f)).length = t - f := by rw [List.length_take, List.length_drop]; omega
  have hRm : ∀ s ∈ (G1.drop f).take (t - f), s ∈ G1 := fun s hs => List.mem_of_mem_drop (List.mem_of_mem_take hs)
  generalize hR : (G1.drop f).take (t - f) = R at hsl hRl hRm ⊢
  clear hR
  repeat (first
    | (apply axJ; (focus ((with_reducible constructor) <;> rfl)))
    | (apply awT mixedOK hΓ (by kernel_rfl); (simp (disch := omega) only [go_sem, ↓reduceIte, dk, ↓lk, Int.reduceBEq, Int.reduceBNe, Bool.true_bne, Bool.false_bne, Bool.not_true, Bool.not_false, e1, e2, hG2, hr1, hr2, hr3, Int.toNat_natCast, hsl] <;> with_reducible rfl))
    | ((first | apply awR hΓ | apply awG | apply awH mixedOK hΓ rfl (by kernel_rfl) | apply ovE rfl); (simp (disch := omega) only [go_sem, ↓reduceIte, dk, ↓lk, Int.reduceBEq, Int.reduceBNe, Bool.true_bne, Bool.false_bne, Bool.not_true, Bool.not_false, e1, e2, hG2, hr1, hr2, hr3, Int.toNat_natCast, hsl] <;> with_reducible rfl); exact trivial)
    | rfl)
  obtain ⟨hL1, hL2⟩ := hLb
  dsimp only at hL1 hL2
  unfold bodyT
  refine awp_weak (Weak.nilrowF (i := 10) 55 (sz := 2) (by omega) (by omega) rfl) ?_
  refine awp_loop_at (X := Nat × List Tk) (fun y => (frame 83 [(10, .row 56 y.2.length), (61, .data (.list (R.map .str))), (62, .data (i64 R.length)), (63, .data (i64 y.1))])) (fun y => [(56, .row 55 2 (y.2.map eTk))]) 57
    (fun y => y.1 ≤ R.length ∧ tokRow R [] = tokRow (R.drop y.1) y.2 ∧ y.2.length ≤ y.1 * 256) (fun y => R.length - y.1) (0, []) ⟨Nat.zero_le _, rfl, Nat.zero_le _⟩ (Weak.v (by (simp [ConvF, lookV, Conv, ints, upd]; done)) (by (simp (disch := omega) only [TabSub, look, if_pos, if_neg, Obj.refsOK, refsOKs, AV.refsOK, decide_eq_true_eq, Bool.and_true, Bool.and_self, upd] ) <;> ((repeat' apply And.intro) <;> first | exact True.intro | omega | (simp; done) | rfl))) ?_
  rintro ⟨i, acc⟩ ⟨hi, hpre, hac⟩
  (try dsimp only at hi hpre hac ⊢)
  rw [hpre]
  by_cases hi2 : i < R.length
  · have hdr := List.drop_eq_getElem_cons hi2
    have hw := hL2 _ (hRm _ (List.getElem_mem hi2))
    have e3 := g_toksP_eq (s := R[i]) (by omega)
    have htl := toks_len R[i]
    rw [hdr] at hpre ⊢
    rw [tokRow] at hpre ⊢
    generalize hy : R[i] = y at *
    generalize toksB y = q at *
    obtain ⟨q1, q2⟩ := q
    replace e3 : g_toksP [.str y] = some (.tup [.list (q1.map eTk), .int .i64 q2]) := e3
    dsimp only at hpre htl ⊢
    cases hq : (q2 == 0)
    · have hq2 : (q2 != 0) = true := by simpa [bne] using hq
      simp only [Bool.false_eq_true, if_false, hq]
      repeat (first
        | (apply axJ; (focus ((with_reducible constructor) <;> rfl)))
        | (apply awT mixedOK hΓ (by kernel_rfl); (simp (disch := omega) only [go_sem, ↓reduceIte, dk, ↓lk, Int.reduceBEq, Int.reduceBNe, Bool.true_bne, Bool.false_bne, Bool.not_true, Bool.not_false, hy, e3, hq2] <;> with_reducible rfl))
        | ((first | apply awR hΓ | apply awG | apply awH mixedOK hΓ rfl (by kernel_rfl) | apply ovE rfl); (simp (disch := omega) only [go_sem, ↓reduceIte, dk, ↓lk, Int.reduceBEq, Int.reduceBNe, Bool.true_bne, Bool.false_bne, Bool.not_true, Bool.not_false, hy, e3, hq2] <;> with_reducible rfl); exact trivial)
        | rfl)
      try rfl
    · have hq2 : (q2 != 0) = false := by simpa [bne] using hq
      rw [hq] at hpre
      simp only [if_true] at hpre ⊢
      rw [← hpre]
      repeat (first
        | (apply axJ; (focus ((with_reducible constructor) <;> rfl)))
        | (apply awT mixedOK hΓ (by kernel_rfl); (simp (disch := omega) only [go_sem, ↓reduceIte, dk, ↓lk, Int.reduceBEq, Int.reduceBNe, Bool.true_bne, Bool.false_bne, Bool.not_true, Bool.not_false, hy, e3, hq2] <;> with_reducible rfl))
        | ((first | apply awR hΓ | apply awG | apply awH mixedOK hΓ rfl (by kernel_rfl) | apply ovE rfl); (simp (disch := omega) only [go_sem, ↓reduceIte, dk, ↓lk, Int.reduceBEq, Int.reduceBNe, Bool.true_bne, Bool.false_bne, Bool.not_true, Bool.not_false, hy, e3, hq2] <;> with_reducible rfl); exact trivial)
        | rfl)
      refine ⟨(i + 1, acc ++ q1), ⟨by dsimp only; omega, hpre, by dsimp only; rw [List.length_append]; omega⟩, by dsimp only; omega, ?_⟩
      exact Weak.v (by (simp [ConvF, lookV, Conv, ints, List.map_append, List.length_append]; done)) (by (simp (disch := omega) only [TabSub, look, if_pos, if_neg, Obj.refsOK, refsOKs, AV.refsOK, decide_eq_true_eq, Bool.and_true, Bool.and_self, List.map_append, List.length_append] ) <;> ((repeat' apply And.intro) <;> first | exact True.intro | omega | (simp; done) | rfl))
  have hi3 : i = R.length := by omega
  subst hi3
  rw [List.drop_length, tokRow]
  dsimp only
  rw [show ((0 : Int) == 0) = true from rfl]
  simp only [if_true]
  cases h5 : decide ((acc.length : Int) > 256)
  · simp only [Bool.false_eq_true, if_false]
    repeat (first
      | (apply axJ; (focus ((with_reducible constructor) <;> rfl)))
      | (apply awT mixedOK hΓ (by kernel_rfl); (simp (disch := omega) only [go_sem, ↓reduceIte, dk, ↓lk, Int.reduceBEq, Int.reduceBNe, Bool.true_bne, Bool.false_bne, Bool.not_true, Bool.not_false, h5] <;> with_reducible rfl))
      | ((first | apply awR hΓ | apply awG | apply awH mixedOK hΓ rfl (by kernel_rfl) | apply ovE rfl); (simp (disch := omega) only [go_sem, ↓reduceIte, dk, ↓lk, Int.reduceBEq, Int.reduceBNe, Bool.true_bne, Bool.false_bne, Bool.not_true, Bool.not_false, h5] <;> with_reducible rfl); exact trivial)
      | rfl)
    try rfl
  · simp only [if_true]
    repeat (first
      | (apply axJ; (focus ((with_reducible constructor) <;> rfl)))
      | (apply awT mixedOK hΓ (by kernel_rfl); (simp (disch := omega) only [go_sem, ↓reduceIte, dk, ↓lk, Int.reduceBEq, Int.reduceBNe, Bool.true_bne, Bool.false_bne, Bool.not_true, Bool.not_false, h5] <;> with_reducible rfl))
      | ((first | apply awR hΓ | apply awG | apply awH mixedOK hΓ rfl (by kernel_rfl) | apply ovE rfl); (simp (disch := omega) only [go_sem, ↓reduceIte, dk, ↓lk, Int.reduceBEq, Int.reduceBNe, Bool.true_bne, Bool.false_bne, Bool.not_true, Bool.not_false, h5] <;> with_reducible rfl); exact trivial)
      | rfl)
    try rfl
end Go.Ab
