/-
  One text of the proof (own work): contracts of functions of the program, by the abstract machine.
-/
import Derived.Test.YtmcgfohokniepaaX25
import Derived.Test.YtmcgfohokniepaaX39
set_option linter.unusedVariables false
set_option linter.unusedSimpArgs false
namespace Go.Ab
open Go Go.RowKit Go.Proofs
set_option maxRecDepth 100000
set_option maxHeartbeats 40000000
noncomputable def Γ35 : FuncId → Option CSpec := fun f => if f = 13 then some (.pure true (g12)) else if f = 23 then some (.pure true (g22)) else if f = 43 then some (.pure true (g43)) else none
theorem Γ35_ok : ∀ f s, Γ35 f = some s → SpecOK Try.prog f s := by
  intro f s h
  unfold Γ35 at h
  split at h
  · rename_i hf; cases h; subst hf; exact f13_ok
  split at h
  · rename_i hf; cases h; subst hf; exact f23_ok
  split at h
  · rename_i hf; cases h; subst hf; exact f43_ok
  · cases h
def outN (nm : List UInt8) (l own : List Now) (i : Nat) : List Now := rpl nm (l.take i) own
theorem outN_skip {nm : List UInt8} {l own : List Now} {i : Nat} (hi : i < l.length) (h : pkq nm l[i] = true) : outN nm l own (i + 1) = outN nm l own i := by
  unfold outN rpl
  rw [List.take_add_one, List.filter_append, List.getElem?_eq_getElem hi]
  simp [h]
theorem outN_put {nm : List UInt8} {l own : List Now} {i : Nat} (hi : i < l.length) (h : pkq nm l[i] = false) : outN nm l own (i + 1) = insN l[i] (outN nm l own i) := by
  unfold outN rpl
  rw [List.take_add_one, List.filter_append, List.getElem?_eq_getElem hi, List.foldl_append]
  simp [h]
theorem outN_len {nm : List UInt8} {l own : List Now} {i : Nat} : (outN nm l own i).length ≤ own.length + l.length := by
  unfold outN rpl
  rw [(fold_perm _ _).length_eq, List.length_append]
  have h1 := List.length_filter_le (fun x => !pkq nm x) (l.take i)
  have h2 : (l.take i).length ≤ l.length := by rw [List.length_take]; omega
  omega
theorem f35_ok : PureOK Try.prog 35 false g34 := by
  refine pure_enc (n := 87) (rs := [.tmp 6, .tmp 7]) Try.func35 (by kernel_rfl) rfl (by kernel_rfl) (by kernel_rfl) ?_
  rintro ⟨l, nm, own⟩ ⟨hl, ho, hnm, kl, ko⟩
  refine ⟨fun h => (by cases h), fun c hz0 => ?_⟩
  dsimp only at hl ho hnm kl ko
  have hΓ := Γ35_ok
  have e22 := g22_eq (l := l) (by omega)
  have e22o := g22_eq (l := own) (by omega)
  unfold rpR rpA
  dsimp only
  by_cases h1 : vld l = 0
  · by_cases h2 : vld own = 0
    · rw [if_pos ⟨h1, h2⟩]
      rw [h1] at e22
      rw [h2] at e22o
      rw [start_frame (by simp)]; simp only [enumV, go_sem, emptyH]
      repeat (first
        | (apply axJ; (focus ((with_reducible constructor) <;> rfl)))
        | (apply awT mixedOK hΓ (by kernel_rfl); (simp (disch := omega) only [go_sem, ↓reduceIte, dk, Int.reduceBEq, Int.reduceBNe, Bool.true_bne, Bool.false_bne, Bool.not_true, Bool.not_false, Γ35, e22, e22o] <;> with_reducible rfl))
        | ((first | apply awR hΓ | apply awG | apply awH mixedOK hΓ rfl (by kernel_rfl) | apply ovE rfl); (simp (disch := omega) only [go_sem, ↓reduceIte, dk, Int.reduceBEq, Int.reduceBNe, Bool.true_bne, Bool.false_bne, Bool.not_true, Bool.not_false, Γ35, e22, e22o] <;> with_reducible rfl); exact trivial)
        | rfl)
      refine awp_loop_at (X := Nat) (fun i => (frame 87 [(0, .data (.list (l.map eN))), (1, .data (.str nm)), (2, .data (.list (own.map eN))), (8, .data (i64 i))])) (fun _ => []) 0
        (fun i => i ≤ own.length ∧ ∀ y ∈ own.take i, pkq nm y = true) (fun i => own.length - i) 0 ⟨Nat.zero_le _, by simp⟩ (Weak.w) ?_
      rintro i ⟨hi, hpre⟩
      by_cases hi2 : i < own.length
      · have e12 := g12_eq (s := own[i].q) (ko _ (List.getElem_mem hi2)).qsz
        generalize hy : own[i] = y at *
        cases hb : pkq nm y with
        | true =>
          have hb2 : (pkg y.q == nm) = true := hb
          have hb3 : (pkg y.q != nm) = false := by rw [bne, hb2]; rfl
          repeat (first
            | (apply axJ; (focus ((with_reducible constructor) <;> rfl)))
            | (apply awT mixedOK hΓ (by kernel_rfl); (simp (disch := omega) only [go_sem, ↓reduceIte, dk, Int.reduceBEq, Int.reduceBNe, Bool.true_bne, Bool.false_bne, Bool.not_true, Bool.not_false, Γ35, hy, eN, e12, hb2, hb3] <;> with_reducible rfl))
            | ((first | apply awR hΓ | apply awG | apply awH mixedOK hΓ rfl (by kernel_rfl) | apply ovE rfl); (simp (disch := omega) only [go_sem, ↓reduceIte, dk, Int.reduceBEq, Int.reduceBNe, Bool.true_bne, Bool.false_bne, Bool.not_true, Bool.not_false, Γ35, hy, eN, e12, hb2, hb3] <;> with_reducible rfl); exact trivial)
            | rfl)
          refine ⟨i + 1, ⟨hi2, fun z hz => ?_⟩, by omega, Weak.w⟩
          rw [List.take_add_one, List.getElem?_eq_getElem hi2, hy] at hz
          rcases List.mem_append.1 hz with hz | hz
          · exact hpre z hz
          · simp only [Option.toList_some, List.mem_singleton] at hz
            rw [hz]; exact hb
        | false =>
          have hb2 : (pkg y.q == nm) = false := hb
          have hb3 : (pkg y.q != nm) = true := by rw [bne, hb2]; rfl
          have hany : (own.any fun y => !pkq nm y) = true := List.any_eq_true.2 ⟨y, hy ▸ List.getElem_mem hi2, by simp [hb]⟩
          rw [hany]
          repeat (first
            | (apply axJ; (focus ((with_reducible constructor) <;> rfl)))
            | (apply awT mixedOK hΓ (by kernel_rfl); (simp (disch := omega) only [go_sem, ↓reduceIte, dk, Int.reduceBEq, Int.reduceBNe, Bool.true_bne, Bool.false_bne, Bool.not_true, Bool.not_false, Γ35, hy, eN, e12, hb2, hb3] <;> with_reducible rfl))
            | ((first | apply awR hΓ | apply awG | apply awH mixedOK hΓ rfl (by kernel_rfl) | apply ovE rfl); (simp (disch := omega) only [go_sem, ↓reduceIte, dk, Int.reduceBEq, Int.reduceBNe, Bool.true_bne, Bool.false_bne, Bool.not_true, Bool.not_false, Γ35, hy, eN, e12, hb2, hb3] <;> with_reducible rfl); exact trivial)
            | rfl)
      · have hany : (own.any fun y => !pkq nm y) = false := by
          rw [List.take_of_length_le (by omega)] at hpre
          exact List.any_eq_false.2 fun y hy => by simp [hpre y hy]
        rw [hany, if_neg (by simp)]
        have hem : elemsOK 3 (own.map eN) = true := elemsOK_map (f := eN) (sz := 3) (fun _ => ⟨rfl, rfl⟩) own
        repeat (first
          | (apply axJ; (focus ((with_reducible constructor) <;> rfl)))
          | (apply awT mixedOK hΓ (by kernel_rfl); (simp (disch := omega) only [go_sem, ↓reduceIte, ↓lk, dk, Int.reduceBEq, Int.reduceBNe, Bool.true_bne, Bool.false_bne, Bool.not_true, Bool.not_false, hem, List.length_map] <;> with_reducible rfl))
          | ((first | apply awR hΓ | apply awG | apply awH mixedOK hΓ rfl (by kernel_rfl) | apply ovE rfl); (simp (disch := omega) only [go_sem, ↓reduceIte, ↓lk, dk, Int.reduceBEq, Int.reduceBNe, Bool.true_bne, Bool.false_bne, Bool.not_true, Bool.not_false, hem, List.length_map] <;> with_reducible rfl); exact trivial)
          | rfl)
        have h0 : outN nm l own 0 = own := by simp [outN, rpl]
        refine awp_weak (Weak.freeze (o := 4) rfl) ?_
        refine awp_loop_at (X := Nat) (fun i => (frame 87 [(0, .data (.list (l.map eN))), (1, .data (.str nm)), (9, .data (.list ((outN nm l own i).map eN))), (10, .data (i64 i))])) (fun _ => []) 0
          (fun i => i ≤ l.length) (fun i => l.length - i) 0 (Nat.zero_le _) (by rw [h0]; exact Weak.v (by (repeat' (first | exact True.intro | apply And.intro | exact rfl | exact Or.inl rfl | exact Or.inr (Or.inl ⟨rfl, rfl⟩) | exact Or.inr (Or.inr ⟨_, _, rfl, rfl, by (first | (simp; done) | (simp; omega))⟩))); done) (by (simp (disch := omega) only [TabSub, look, if_pos, if_neg, Obj.refsOK, refsOKs, AV.refsOK, decide_eq_true_eq, Bool.and_true, Bool.and_self] ) <;> ((repeat' apply And.intro) <;> first | exact True.intro | omega | (simp; done) | rfl))) ?_
        clear hi hi2 hpre i h0
        intro i hi
        have hlen := outN_len (nm := nm) (l := l) (own := own) (i := i)
        by_cases hi2 : i < l.length
        · have e12 := g12_eq (s := l[i].q) (kl _ (List.getElem_mem hi2)).qsz
          have hskip := outN_skip (nm := nm) (own := own) hi2
          have hput := outN_put (nm := nm) (own := own) hi2
          generalize hy : l[i] = y at *
          cases hb : pkq nm y with
          | true =>
            have hb2 : (pkg y.q == nm) = true := hb
            have hb3 : (pkg y.q != nm) = false := by rw [bne, hb2]; rfl
            repeat (first
              | (apply axJ; (focus ((with_reducible constructor) <;> rfl)))
              | (apply awT mixedOK hΓ (by kernel_rfl); (simp (disch := omega) only [go_sem, ↓reduceIte, dk, Int.reduceBEq, Int.reduceBNe, Bool.true_bne, Bool.false_bne, Bool.not_true, Bool.not_false, Γ35, hy, eN, e12, hb2, hb3] <;> with_reducible rfl))
              | ((first | apply awR hΓ | apply awG | apply awH mixedOK hΓ rfl (by kernel_rfl) | apply ovE rfl); (simp (disch := omega) only [go_sem, ↓reduceIte, dk, Int.reduceBEq, Int.reduceBNe, Bool.true_bne, Bool.false_bne, Bool.not_true, Bool.not_false, Γ35, hy, eN, e12, hb2, hb3] <;> with_reducible rfl); exact trivial)
              | rfl)
            exact ⟨i + 1, hi2, by omega, by rw [hskip hb]; exact Weak.w⟩
          | false =>
            have hb2 : (pkg y.q == nm) = false := hb
            have hb3 : (pkg y.q != nm) = true := by rw [bne, hb2]; rfl
            have hput := hput hb
            generalize outN nm l own i = out at *
            repeat (first
              | (apply axJ; (focus ((with_reducible constructor) <;> rfl)))
              | (apply awT mixedOK hΓ (by kernel_rfl); (simp (disch := omega) only [go_sem, ↓reduceIte, dk, Int.reduceBEq, Int.reduceBNe, Bool.true_bne, Bool.false_bne, Bool.not_true, Bool.not_false, Γ35, hy, eN, e12, hb2, hb3] <;> with_reducible rfl))
              | ((first | apply awR hΓ | apply awG | apply awH mixedOK hΓ rfl (by kernel_rfl) | apply ovE rfl); (simp (disch := omega) only [go_sem, ↓reduceIte, dk, Int.reduceBEq, Int.reduceBNe, Bool.true_bne, Bool.false_bne, Bool.not_true, Bool.not_false, Γ35, hy, eN, e12, hb2, hb3] <;> with_reducible rfl); exact trivial)
              | rfl)
            refine awp_loop_at (X := Nat) (fun j => (frame 87 [(0, .data (.list (l.map eN))), (1, .data (.str nm)), (9, .data (.list (out.map eN))), (10, .data (i64 i)), (11, .data (i64 j))])) (fun _ => []) 0
              (fun j => j ≤ out.length ∧ ∀ z ∈ out.take j, nLt z y = true) (fun j => out.length - j) 0 ⟨Nat.zero_le _, by simp⟩ (Weak.w) ?_
            rintro j ⟨hj, hpre⟩
            by_cases hj2 : j < out.length
            · generalize hz : out[j] = z
              have e43 := g43_eq z y
              cases hc : nLt z y with
              | true =>
                rw [hc] at e43
                refine awA ?_
                refine awA ?_
                (apply awp_regf mixedOK hΓ (by kernel_rfl); (simp (disch := omega) only [go_sem, ↓reduceIte, dk, Γ35, hy, hz, eN, e43] <;> with_reducible rfl); (simp only [go_sem] <;> with_reducible rfl))
                repeat (first
                  | (apply axJ; (focus ((with_reducible constructor) <;> rfl)))
                  | (apply awT mixedOK hΓ (by kernel_rfl); (simp (disch := omega) only [go_sem, ↓reduceIte, dk] <;> with_reducible rfl))
                  | ((first | apply awR hΓ | apply awG | apply awH mixedOK hΓ rfl (by kernel_rfl) | apply ovE rfl); (simp (disch := omega) only [go_sem, ↓reduceIte, dk] <;> with_reducible rfl); exact trivial)
                  | rfl)
                refine ⟨j + 1, ⟨hj2, fun w hw => ?_⟩, by omega, Weak.w⟩
                rw [List.take_add_one, List.getElem?_eq_getElem hj2, hz] at hw
                rcases List.mem_append.1 hw with hw | hw
                · exact hpre w hw
                · simp only [Option.toList_some, List.mem_singleton] at hw
                  rw [hw]; exact hc
              | false =>
                rw [hc] at e43
                refine awA ?_
                refine awA ?_
                (apply awp_regf mixedOK hΓ (by kernel_rfl); (simp (disch := omega) only [go_sem, ↓reduceIte, dk, Γ35, hy, hz, eN, e43] <;> with_reducible rfl); (simp only [go_sem] <;> with_reducible rfl))
                repeat (first
                  | (apply axJ; (focus ((with_reducible constructor) <;> rfl)))
                  | (apply awT mixedOK hΓ (by kernel_rfl); (simp (disch := omega) only [go_sem, ↓reduceIte, dk] <;> with_reducible rfl))
                  | ((first | apply awR hΓ | apply awG | apply awH mixedOK hΓ rfl (by kernel_rfl) | apply ovE rfl); (simp (disch := omega) only [go_sem, ↓reduceIte, dk] <;> with_reducible rfl); exact trivial)
                  | rfl)
                have hel := elemsOK_map (f := eN) (sz := 3) (fun _ => ⟨rfl, rfl⟩) out
                have hml : (out.map eN).length = out.length := List.length_map eN
                have hres : (out.take j).map eN ++ [.agg [.str y.q, .str y.s, .str y.d]] ++ (out.drop j).map eN = (insN y out).map eN := by
                  rw [insN_at y out j hpre (fun h => by rw [hz]; exact hc), List.map_append, List.map_cons, List.append_assoc]
                  rfl
                rw [List.map_take, List.map_drop] at hres
                generalize out.map eN = m at *
                have e2 : List.take (m.length - j) (List.drop j m) = List.drop j m := List.take_of_length_le (by simp)
                have k1 : elemsOK 3 (List.take j m) = true := elemsOK_sub' hel fun x hx => List.mem_of_mem_take hx
                have k2 : elemsOK 3 (List.drop j m) = true := elemsOK_sub' hel fun x hx => List.mem_of_mem_drop hx
                have l1 : (List.take j m).length = j := by rw [List.length_take]; omega
                have l2 : (List.drop j m).length = m.length - j := List.length_drop
                (apply awp_lane3 (nst := false) (nst' := false) [true, false, false, false, true, false, false, false, false, false, true, false, false, false, true] mixedOK hΓ (n1 := 15) (by kernel_rfl) (by kernel_rfl); (focus (dsimp only [List.take_succ_cons, List.take_zero, Array.toList]; (repeat (first | (apply lane3_loud; (focus rfl); (focus rfl); (simp (disch := omega) only [go_sem, ↓reduceIte, ↓lk, dk, hy, Nat.sub_zero, Nat.zero_add, e2, k1, k2, l1, l2, look_upd] <;> with_reducible rfl); (focus (first | (simp (disch := omega) only [go_sem, ↓reduceIte, ↓lk, dk, hy, Nat.sub_zero, Nat.zero_add, e2, k1, k2, l1, l2, look_upd]; done) | (simp (disch := omega) only [go_sem, ↓reduceIte, ↓lk, dk, hy, Nat.sub_zero, Nat.zero_add, e2, k1, k2, l1, l2, look_upd]; omega)))) | (apply lane3_quiet; (simp (disch := omega) only [go_sem, ↓reduceIte, ↓lk, dk, hy, Nat.sub_zero, Nat.zero_add, e2, k1, k2, l1, l2, look_upd] <;> with_reducible rfl)))); exact lane3_nil)); (focus ((repeat' (first | exact True.intro | refine And.intro ?_ ?_)); all_goals (first | (left; decide) | (left; rfl) | (right; simp (disch := omega) only [go_sem, ↓reduceIte, ↓lk, dk, hy, Nat.sub_zero, Nat.zero_add, e2, k1, k2, l1, l2, look_upd]; try with_reducible rfl)))); (simp (disch := omega) only [go_sem, ↓reduceIte, ↓lk, dk, hy, Nat.sub_zero, Nat.zero_add, e2, k1, k2, l1, l2, look_upd] <;> with_reducible rfl))
                repeat (first
                  | (apply axJ; (focus ((with_reducible constructor) <;> rfl)))
                  | (apply awT mixedOK hΓ (by kernel_rfl); (simp (disch := omega) only [go_sem, ↓reduceIte, dk] <;> with_reducible rfl))
                  | ((first | apply awR hΓ | apply awG | apply awH mixedOK hΓ rfl (by kernel_rfl) | apply ovE rfl); (simp (disch := omega) only [go_sem, ↓reduceIte, dk] <;> with_reducible rfl); exact trivial)
                  | rfl)
                refine ⟨i + 1, hi2, by omega, ?_⟩
                rw [hput, ← hres]
                refine Weak.trans (Weak.freeze (o := 15) rfl) ?_
                exact Weak.v (by (repeat' (first | exact True.intro | apply And.intro | exact rfl | exact Or.inl rfl | exact Or.inr (Or.inl ⟨rfl, rfl⟩) | exact Or.inr (Or.inr ⟨_, _, rfl, rfl, by (first | (simp; done) | (simp; omega))⟩))); done) (by (simp (disch := omega) only [TabSub, look, if_pos, if_neg, Obj.refsOK, refsOKs, AV.refsOK, decide_eq_true_eq, Bool.and_true, Bool.and_self] ) <;> ((repeat' apply And.intro) <;> first | exact True.intro | omega | (simp; done) | rfl))
            · refine awA ?_
              refine awA ?_
              (apply awp_regf mixedOK hΓ (by kernel_rfl); (simp (disch := omega) only [go_sem, ↓reduceIte, dk, Γ35, hy, eN] <;> with_reducible rfl); (simp only [go_sem] <;> with_reducible rfl))
              repeat (first
                | (apply axJ; (focus ((with_reducible constructor) <;> rfl)))
                | (apply awT mixedOK hΓ (by kernel_rfl); (simp (disch := omega) only [go_sem, ↓reduceIte, dk] <;> with_reducible rfl))
                | ((first | apply awR hΓ | apply awG | apply awH mixedOK hΓ rfl (by kernel_rfl) | apply ovE rfl); (simp (disch := omega) only [go_sem, ↓reduceIte, dk] <;> with_reducible rfl); exact trivial)
                | rfl)
              have hel := elemsOK_map (f := eN) (sz := 3) (fun _ => ⟨rfl, rfl⟩) out
              have hml : (out.map eN).length = out.length := List.length_map eN
              have hres : (out.take j).map eN ++ [.agg [.str y.q, .str y.s, .str y.d]] ++ (out.drop j).map eN = (insN y out).map eN := by
                rw [insN_at y out j hpre (fun h => absurd h hj2), List.map_append, List.map_cons, List.append_assoc]
                rfl
              rw [List.map_take, List.map_drop] at hres
              generalize out.map eN = m at *
              have e2 : List.take (m.length - j) (List.drop j m) = List.drop j m := List.take_of_length_le (by simp)
              have k1 : elemsOK 3 (List.take j m) = true := elemsOK_sub' hel fun x hx => List.mem_of_mem_take hx
              have k2 : elemsOK 3 (List.drop j m) = true := elemsOK_sub' hel fun x hx => List.mem_of_mem_drop hx
              have l1 : (List.take j m).length = j := by rw [List.length_take]; omega
              have l2 : (List.drop j m).length = m.length - j := List.length_drop
              (apply awp_lane3 (nst := false) (nst' := false) [true, false, false, false, true, false, false, false, false, false, true, false, false, false, true] mixedOK hΓ (n1 := 15) (by kernel_rfl) (by kernel_rfl); (focus (dsimp only [List.take_succ_cons, List.take_zero, Array.toList]; (repeat (first | (apply lane3_loud; (focus rfl); (focus rfl); (simp (disch := omega) only [go_sem, ↓reduceIte, ↓lk, dk, hy, Nat.sub_zero, Nat.zero_add, e2, k1, k2, l1, l2, look_upd] <;> with_reducible rfl); (focus (first | (simp (disch := omega) only [go_sem, ↓reduceIte, ↓lk, dk, hy, Nat.sub_zero, Nat.zero_add, e2, k1, k2, l1, l2, look_upd]; done) | (simp (disch := omega) only [go_sem, ↓reduceIte, ↓lk, dk, hy, Nat.sub_zero, Nat.zero_add, e2, k1, k2, l1, l2, look_upd]; omega)))) | (apply lane3_quiet; (simp (disch := omega) only [go_sem, ↓reduceIte, ↓lk, dk, hy, Nat.sub_zero, Nat.zero_add, e2, k1, k2, l1, l2, look_upd] <;> with_reducible rfl)))); exact lane3_nil)); (focus ((repeat' (first | exact True.intro | refine And.intro ?_ ?_)); all_goals (first | (left; decide) | (left; rfl) | (right; simp (disch := omega) only [go_sem, ↓reduceIte, ↓lk, dk, hy, Nat.sub_zero, Nat.zero_add, e2, k1, k2, l1, l2, look_upd]; try with_reducible rfl)))); (simp (disch := omega) only [go_sem, ↓reduceIte, ↓lk, dk, hy, Nat.sub_zero, Nat.zero_add, e2, k1, k2, l1, l2, look_upd] <;> with_reducible rfl))
              repeat (first
                | (apply axJ; (focus ((with_reducible constructor) <;> rfl)))
                | (apply awT mixedOK hΓ (by kernel_rfl); (simp (disch := omega) only [go_sem, ↓reduceIte, dk] <;> with_reducible rfl))
                | ((first | apply awR hΓ | apply awG | apply awH mixedOK hΓ rfl (by kernel_rfl) | apply ovE rfl); (simp (disch := omega) only [go_sem, ↓reduceIte, dk] <;> with_reducible rfl); exact trivial)
                | rfl)
              refine ⟨i + 1, hi2, by omega, ?_⟩
              rw [hput, ← hres]
              refine Weak.trans (Weak.freeze (o := 15) rfl) ?_
              exact Weak.v (by (repeat' (first | exact True.intro | apply And.intro | exact rfl | exact Or.inl rfl | exact Or.inr (Or.inl ⟨rfl, rfl⟩) | exact Or.inr (Or.inr ⟨_, _, rfl, rfl, by (first | (simp; done) | (simp; omega))⟩))); done) (by (simp (disch := omega) only [TabSub, look, if_pos, if_neg, Obj.refsOK, refsOKs, AV.refsOK, decide_eq_true_eq, Bool.and_true, Bool.and_self] ) <;> ((repeat' apply And.intro) <;> first | exact True.intro | omega | (simp; done) | rfl))
        · obtain rfl : i = l.length := by omega
          have hall : outN nm l own l.length = rpl nm l own := by rw [outN, List.take_length]
          rw [hall] at hlen ⊢
          repeat (first
            | (apply axJ; (focus ((with_reducible constructor) <;> rfl)))
            | (apply awT mixedOK hΓ (by kernel_rfl); (simp (disch := omega) only [go_sem, ↓reduceIte, dk, Int.reduceBEq, Int.reduceBNe, Bool.true_bne, Bool.false_bne, Bool.not_true, Bool.not_false, List.length_map] <;> with_reducible rfl))
            | ((first | apply awR hΓ | apply awG | apply awH mixedOK hΓ rfl (by kernel_rfl) | apply ovE rfl); (simp (disch := omega) only [go_sem, ↓reduceIte, dk, Int.reduceBEq, Int.reduceBNe, Bool.true_bne, Bool.false_bne, Bool.not_true, Bool.not_false, List.length_map] <;> with_reducible rfl); exact trivial)
            | rfl)
    · rw [if_neg (fun h => h2 h.2)]
      rw [h1] at e22
      rw [vld_ne h2] at e22o
      rw [start_frame (by simp)]; simp only [enumV, go_sem, emptyH]
      repeat (first
        | (apply axJ; (focus ((with_reducible constructor) <;> rfl)))
        | (apply awT mixedOK hΓ (by kernel_rfl); (simp (disch := omega) only [go_sem, ↓reduceIte, dk, Int.reduceBEq, Int.reduceBNe, Bool.true_bne, Bool.false_bne, Bool.not_true, Bool.not_false, Γ35, e22, e22o] <;> with_reducible rfl))
        | ((first | apply awR hΓ | apply awG | apply awH mixedOK hΓ rfl (by kernel_rfl) | apply ovE rfl); (simp (disch := omega) only [go_sem, ↓reduceIte, dk, Int.reduceBEq, Int.reduceBNe, Bool.true_bne, Bool.false_bne, Bool.not_true, Bool.not_false, Γ35, e22, e22o] <;> with_reducible rfl); exact trivial)
        | rfl)
  · rw [if_neg (fun h => h1 h.1)]
    rw [vld_ne h1] at e22
    rw [start_frame (by simp)]; simp only [enumV, go_sem, emptyH]
    repeat (first
      | (apply axJ; (focus ((with_reducible constructor) <;> rfl)))
      | (apply awT mixedOK hΓ (by kernel_rfl); (simp (disch := omega) only [go_sem, ↓reduceIte, dk, Int.reduceBEq, Int.reduceBNe, Bool.true_bne, Bool.false_bne, Bool.not_true, Bool.not_false, Γ35, e22] <;> with_reducible rfl))
      | ((first | apply awR hΓ | apply awG | apply awH mixedOK hΓ rfl (by kernel_rfl) | apply ovE rfl); (simp (disch := omega) only [go_sem, ↓reduceIte, dk, Int.reduceBEq, Int.reduceBNe, Bool.true_bne, Bool.false_bne, Bool.not_true, Bool.not_false, Γ35, e22] <;> with_reducible rfl); exact trivial)
      | rfl)
end Go.Ab
