/-
  One text of the proof (own work): contracts of functions of the program, by the abstract machine.
-/
import Derived.Test.YtmcgfohokniepaaX21
import Derived.Test.YtmcgfohokniepaaX29
import Derived.Test.YtmcgfohokniepaaX19
set_option linter.unusedVariables false
set_option linter.unusedSimpArgs false
namespace Go.Ab
open Go Go.RowKit Go.Proofs
set_option maxRecDepth 4000
set_option maxHeartbeats 40000000
def InG (x : List Now × Now) (d : List D) : Prop := ∃ l' : List Now, d = l'.map eN ∧ l'.length ≤ x.1.length + 1 ∧ ∀ y ∈ l', y ∈ x.1 ∨ y = x.2
theorem in_good (l : List Now) (x : Now) (i : Nat) : InG (l, x) ((l.map eN).take i ++ [.agg [.str x.q, .str x.s, .str x.d]] ++ (l.map eN).drop i) := by
  refine ⟨l.take i ++ [x] ++ l.drop i, by simp [eN], ?_, fun y hy => ?_⟩
  · simp only [List.length_append, List.length_take, List.length_drop, List.length_cons, List.length_nil]
    omega
  · simp only [List.mem_append, List.mem_singleton] at hy
    rcases hy with (h | h) | h
    · exact .inl (List.mem_of_mem_take h)
    · exact .inr h
    · exact .inl (List.mem_of_mem_drop h)
theorem in_set (l : List Now) (x : Now) (i : Nat) : InG (l, x) ((l.map eN).set i (.agg [.str x.q, .str x.s, .str x.d])) := by
  refine ⟨l.set i x, by rw [List.map_set]; rfl, by simp, fun y hy => (List.mem_or_eq_of_mem_set hy)⟩
theorem f47_r {l : List Now} {x : Now} (hn : l.length ≤ 64) {i : Nat} (hi : i ≤ l.length) (hΓ : ∀ f s, Γ23 f = some s → SpecOK Try.prog f s) : axp Try.prog 0 (navF Try.f47 [1, 1, 1, 1]) (RetOX Try.prog [.tmp 4] 39 3 (InG (l, x))) ((frame 54 [(0, .data (.list (l.map eN))), (3, .ptr 0 0), (5, .data (i64 i))])) ⟨[(0, .box [.data (.str x.q), .data (.str x.s), .data (.str x.d)])], 2⟩ := by
  conv => arg 3; whnf
  have hg := in_good l x i
  have hel := elemsOK_map (f := eN) (sz := 3) (fun _ => ⟨rfl, rfl⟩) l
  have hml : (l.map eN).length = l.length := by simp
  generalize l.map eN = m at *
  have e2 : List.take (m.length - i) (List.drop i m) = List.drop i m := List.take_of_length_le (by simp)
  have h1 : elemsOK 3 (List.take i m) = true := elemsOK_sub' hel fun x hx => List.mem_of_mem_take hx
  have h2 : elemsOK 3 (List.drop i m) = true := elemsOK_sub' hel fun x hx => List.mem_of_mem_drop hx
  have l1 : (List.take i m).length = i := by rw [List.length_take]; omega
  have l2 : (List.drop i m).length = m.length - i := List.length_drop
  refine axA ?_
  (apply axp_lane3 (nst := false) (nst' := false) [true, false, false, false, true, false, false, true, false, false, false, true] mixedOK hΓ (n1 := 12) (by kernel_rfl) (by kernel_rfl); (focus (dsimp only [List.take_succ_cons, List.take_zero, Array.toList]; (repeat (first | (apply lane3_loud; (focus rfl); (focus rfl); (simp (disch := omega) only [go_sem, ↓reduceIte, ↓lk, dk, Nat.sub_zero, Nat.zero_add, e2, h1, h2, l1, l2, look_upd] <;> with_reducible rfl); (focus (first | (simp (disch := omega) only [go_sem, ↓reduceIte, ↓lk, dk, Nat.sub_zero, Nat.zero_add, e2, h1, h2, l1, l2, look_upd]; done) | (simp (disch := omega) only [go_sem, ↓reduceIte, ↓lk, dk, Nat.sub_zero, Nat.zero_add, e2, h1, h2, l1, l2, look_upd]; omega)))) | (apply lane3_quiet; (simp (disch := omega) only [go_sem, ↓reduceIte, ↓lk, dk, Nat.sub_zero, Nat.zero_add, e2, h1, h2, l1, l2, look_upd] <;> with_reducible rfl)))); exact lane3_nil)); (focus ((repeat' (first | exact True.intro | refine And.intro ?_ ?_)); all_goals (first | (left; decide) | (left; rfl) | (right; simp (disch := omega) only [go_sem, ↓reduceIte, ↓lk, dk, Nat.sub_zero, Nat.zero_add, e2, h1, h2, l1, l2, look_upd]; try with_reducible rfl)))); (simp (disch := omega) only [go_sem, ↓reduceIte, ↓lk, dk, Nat.sub_zero, Nat.zero_add, e2, h1, h2, l1, l2, look_upd] <;> with_reducible rfl))
  have hlen : (List.take i m ++ [D.agg [.str x.q, .str x.s, .str x.d]] ++ List.drop i m).length = i + 1 + (m.length - i) := by simp only [List.length_append, List.length_cons, List.length_nil, l1, l2]
  generalize (List.take i m ++ [D.agg [.str x.q, .str x.s, .str x.d]] ++ List.drop i m) = r at *
  (repeat (first | refine axB ?_ | (apply axK; (focus ((with_reducible constructor) <;> rfl))) | ((first | apply axR hΓ | apply axG | apply ovX rfl | apply ovE rfl); (simp (disch := omega) only [go_sem, ↓reduceIte, dk, hlen] <;> with_reducible rfl); exact trivial) | rfl))
  rw [← hlen]
  exact reto_x (o := 2) (l := r) rfl rfl rfl hg
theorem f47_ex : ∃ g, OwnOK Try.prog 47 g ∧ ∀ x : List Now × Now, x.1.length ≤ 64 → ∃ l, InG x l ∧ g [.list (x.1.map eN), eN x.2] = some (39, 3, l) := by
  have hΓ := Γ23_ok
  refine own_ex (enc := fun x : List Now × Now => [.list (x.1.map eN), eN x.2]) (dom := fun x => x.1.length ≤ 64) (good := InG) (t := 39) (sz := 3) (n := 54) (rs := [.tmp 4]) (by omega) Try.func47 (by kernel_rfl) rfl (by kernel_rfl) (by kernel_rfl) (fun a b h => by
    simp only [List.cons.injEq, and_true, D.list.injEq] at h
    exact Prod.ext (map_inj eN_inj h.1) (eN_inj _ _ h.2)) ?_
  rintro ⟨l, x⟩ hn
  dsimp only at hn ⊢
  refine ⟨fun l' ⟨m, hm, _⟩ => hm ▸ elemsOK_map (f := eN) (sz := 3) (fun _ => ⟨rfl, rfl⟩) m, ?_⟩
  rw [show eN x = .agg [.str x.q, .str x.s, .str x.d] from rfl]
  rw [start_frame (by simp)]; simp only [enumV, go_sem, emptyH]
  (repeat (first | (apply axJ; (focus ((with_reducible constructor) <;> rfl))) | ((first | apply axR hΓ | apply axG | apply ovX rfl | apply ovE rfl); (simp (disch := omega) only [go_sem, ↓reduceIte, dk] <;> with_reducible rfl); exact trivial) | rfl))
  refine axp_loop_at (X := Nat) (fun i => (frame 54 [(0, .data (.list (l.map eN))), (3, .ptr 0 0), (5, .data (i64 i))])) (fun _ => [(0, .box [.data (.str x.q), .data (.str x.s), .data (.str x.d)])]) 2
    (fun i => i ≤ l.length) (fun i => l.length - i) 0 (Nat.zero_le _) (Weak.w) ?_
  intro i hi
  have hpost : ∀ (k : Nat), k ≤ l.length → axp Try.prog 0 (navF Try.f47 [1, 1, 1]) (RetOX Try.prog [.tmp 4] 39 3 (InG (l, x))) ((frame 54 [(0, .data (.list (l.map eN))), (3, .ptr 0 0), (5, .data (i64 k))])) ⟨[(0, .box [.data (.str x.q), .data (.str x.s), .data (.str x.d)])], 2⟩ := fun i hi => by
    conv => arg 3; whnf
    by_cases hi2 : i < l.length
    · generalize hy : l[i] = y
      have e43 := g43_eq x y
      generalize hc : nLt x y = c at e43
      cases c with
      | true =>
        (repeat (first | (refine axA ?_; first | (apply axR hΓ; (simp (disch := omega) only [go_sem, ↓reduceIte, dk] <;> with_reducible rfl); exact trivial) | refine axA ?_ | refine axB ?_) | refine axB ?_ | (apply axK; (focus ((with_reducible constructor) <;> rfl))) | ((first | apply axR hΓ | apply axG | apply ovX rfl | apply ovE rfl); (simp (disch := omega) only [go_sem, ↓reduceIte, dk] <;> with_reducible rfl); exact trivial) | rfl))
        (apply axp_regf mixedOK hΓ (by kernel_rfl); (simp (disch := omega) only [go_sem, ↓reduceIte, dk, eN, hy, Γ23, e43] <;> with_reducible rfl); (simp only [go_sem] <;> with_reducible rfl))
        (repeat (first | refine axB ?_ | (apply axK; (focus ((with_reducible constructor) <;> rfl))) | ((first | apply axR hΓ | apply axG | apply ovX rfl | apply ovE rfl); (simp (disch := omega) only [go_sem, ↓reduceIte, dk] <;> with_reducible rfl); exact trivial) | rfl))
        exact axp_weak (Weak.w) (f47_r hn hi hΓ)
      | false =>
        (repeat (first | (refine axA ?_; first | (apply axR hΓ; (simp (disch := omega) only [go_sem, ↓reduceIte, dk] <;> with_reducible rfl); exact trivial) | refine axA ?_ | refine axB ?_) | refine axB ?_ | (apply axK; (focus ((with_reducible constructor) <;> rfl))) | ((first | apply axR hΓ | apply axG | apply ovX rfl | apply ovE rfl); (simp (disch := omega) only [go_sem, ↓reduceIte, dk] <;> with_reducible rfl); exact trivial) | rfl))
        (apply axp_regf mixedOK hΓ (by kernel_rfl); (simp (disch := omega) only [go_sem, ↓reduceIte, dk, eN, hy, Γ23, e43] <;> with_reducible rfl); (simp only [go_sem] <;> with_reducible rfl))
        have hel := elemsOK_map (f := eN) (sz := 3) (fun _ => ⟨rfl, rfl⟩) l
        have hs := in_set l x i
        have hml : (l.map eN).length = l.length := by simp
        have hmi : ∀ h, (l.map eN)[i]'h = .agg [.str y.q, .str y.s, .str y.d] := fun h => by rw [List.getElem_map, hy]; rfl
        generalize l.map eN = m at *
        (repeat (first | (apply axJ; (focus ((with_reducible constructor) <;> rfl))) | ((first | apply axR hΓ | apply axG | apply ovX rfl | apply ovE rfl); (simp (disch := omega) only [go_sem, ↓reduceIte, ↓lk, dk, hel, hml, Nat.zero_add, hmi] <;> with_reducible rfl); exact trivial) | rfl))
        have hml2 : (m.set i (.agg [.str x.q, .str x.s, .str x.d])).length = l.length := by simp [hml]
        exact reto_x (o := 15) rfl (by rw [hml2]; rfl) rfl hs
    · (repeat (first | (refine axA ?_; first | (apply axR hΓ; (simp (disch := omega) only [go_sem, ↓reduceIte, dk] <;> with_reducible rfl); exact trivial) | refine axA ?_ | refine axB ?_) | refine axB ?_ | (apply axK; (focus ((with_reducible constructor) <;> rfl))) | ((first | apply axR hΓ | apply axG | apply ovX rfl | apply ovE rfl); (simp (disch := omega) only [go_sem, ↓reduceIte, dk] <;> with_reducible rfl); exact trivial) | rfl))
      (apply axp_regf mixedOK hΓ (by kernel_rfl); (simp (disch := omega) only [go_sem, ↓reduceIte, dk] <;> with_reducible rfl); (simp only [go_sem] <;> with_reducible rfl))
      (repeat (first | refine axB ?_ | (apply axK; (focus ((with_reducible constructor) <;> rfl))) | ((first | apply axR hΓ | apply axG | apply ovX rfl | apply ovE rfl); (simp (disch := omega) only [go_sem, ↓reduceIte, dk] <;> with_reducible rfl); exact trivial) | rfl))
      exact axp_weak (Weak.w) (f47_r hn hi hΓ)
  by_cases hi2 : i < l.length
  · generalize hy : l[i] = y
    have e43 := g43_eq y x
    generalize hc : nLt y x = c at e43
    refine axA ?_
    refine axA ?_
    cases c with
    | true =>
      (apply axp_regf mixedOK hΓ (by kernel_rfl); (simp (disch := omega) only [go_sem, ↓reduceIte, dk, eN, hy, Γ23, e43] <;> with_reducible rfl); (simp only [go_sem] <;> with_reducible rfl))
      (repeat (first | (apply axJ; (focus ((with_reducible constructor) <;> rfl))) | ((first | apply axR hΓ | apply axG | apply ovX rfl | apply ovE rfl); (simp (disch := omega) only [go_sem, ↓reduceIte, dk] <;> with_reducible rfl); exact trivial) | rfl))
      exact ⟨i + 1, by omega, by omega, Weak.w⟩
    | false =>
      (apply axp_regf mixedOK hΓ (by kernel_rfl); (simp (disch := omega) only [go_sem, ↓reduceIte, dk, eN, hy, Γ23, e43] <;> with_reducible rfl); (simp only [go_sem] <;> with_reducible rfl))
      (repeat (first | refine axB ?_ | (apply axK; (focus ((with_reducible constructor) <;> rfl))) | ((first | apply axR hΓ | apply axG | apply ovX rfl | apply ovE rfl); (simp (disch := omega) only [go_sem, ↓reduceIte, dk] <;> with_reducible rfl); exact trivial) | rfl))
      exact axp_weak (Weak.w) (hpost i hi)
  · refine axA ?_
    refine axA ?_
    (apply axp_regf mixedOK hΓ (by kernel_rfl); (simp (disch := omega) only [go_sem, ↓reduceIte, dk] <;> with_reducible rfl); (simp only [go_sem] <;> with_reducible rfl))
    (repeat (first | refine axB ?_ | (apply axK; (focus ((with_reducible constructor) <;> rfl))) | ((first | apply axR hΓ | apply axG | apply ovX rfl | apply ovE rfl); (simp (disch := omega) only [go_sem, ↓reduceIte, dk] <;> with_reducible rfl); exact trivial) | rfl))
    exact axp_weak (Weak.w) (hpost i hi)
noncomputable def g47 := f47_ex.choose
theorem f47_ok : OwnOK Try.prog 47 g47 := f47_ex.choose_spec.1
theorem g47_eq {l : List Now} {x : Now} (h : l.length ≤ 64) : ∃ l' : List Now, g47 [.list (l.map eN), .agg [.str x.q, .str x.s, .str x.d]] = some (39, 3, l'.map eN) ∧ l'.length ≤ l.length + 1 ∧ ∀ y ∈ l', y ∈ l ∨ y = x := by
  obtain ⟨d, ⟨l', rfl, h1, h2⟩, h3⟩ := f47_ex.choose_spec.2 (l, x) h
  exact ⟨l', h3, h1, h2⟩
end Go.Ab
