/-
  One text of the proof (own work): contracts of functions of the program, by the abstract machine.
-/
import Derived.Test.YtmcgfohokniepaaX21
import Derived.Test.YtmcgfohokniepaaX32
set_option linter.unusedVariables false
set_option linter.unusedSimpArgs false
namespace Go.Ab
open Go Go.RowKit Go.Proofs
set_option maxRecDepth 4000
set_option maxHeartbeats 4000000
noncomputable def Γ95 : FuncId → Option CSpec := fun f => if f = 94 then some (.pure true (g94)) else if f = 96 then some (.pure true (g96)) else none
theorem Γ95_ok : ∀ f s, Γ95 f = some s → SpecOK Try.prog f s := by
  intro f s h
  unfold Γ95 at h
  split at h
  · rename_i hf; cases h; subst hf; exact f94_ok
  split at h
  · rename_i hf; cases h; subst hf; exact f96_ok
  · cases h
theorem f95_ex : ∃ g, PureOK Try.prog 95 true g ∧ ∀ x : SetR × Int × Ev, (SetOK x.1 ∧ 0 ≤ x.2.1 ∧ x.2.1 < x.1.l.length) ∧ x.2.2.tg.length = 2 → ∃ d, (∃ n : Int, d = i64 n) ∧ g [eSet x.1, i64 x.2.1, eE x.2.2] = some d := by
  have hΓ := Γ95_ok
  refine pure_ex (enc := fun x : SetR × Int × Ev => [eSet x.1, i64 x.2.1, eE x.2.2]) (dom := fun x => (SetOK x.1 ∧ 0 ≤ x.2.1 ∧ x.2.1 < x.1.l.length) ∧ x.2.2.tg.length = 2) (good := fun x d => ∃ n : Int, d = i64 n) (n := 54) (rs := [.tmp 6]) Try.func95 (by kernel_rfl) rfl (by kernel_rfl) (by kernel_rfl) (fun a b h => by
    simp only [List.cons.injEq, and_true, D.int.injEq, true_and] at h
    exact Prod.ext (eSet_inj _ _ h.1) (Prod.ext h.2.1 (eE_inj _ _ h.2.2))) ?_
  rintro ⟨s, i, e⟩ ⟨⟨hz, h1, h2⟩, ht⟩
  refine ⟨fun _ d ⟨n, hd⟩ => hd ▸ .int _ _, ?_⟩
  dsimp only at hz h1 h2 ht ⊢
  obtain ⟨x, y, hxy⟩ : ∃ x y, e.tg = [x, y] := len2 ht
  obtain ⟨a, e94a, ha⟩ := g94_eq (id := x) hz h1 h2
  obtain ⟨b, e94b, hb⟩ := g94_eq (id := y) hz h1 h2
  obtain ⟨z1, z2, z3, z4, z5, z6, z7, z8⟩ := hz
  unfold eSet at e94a e94b ⊢
  rw [eE_eq e, hxy]
  rw [start_frame (by simp)]; simp only [enumV, go_sem, emptyH]
  (repeat (first | (apply axJ; (focus ((with_reducible constructor) <;> rfl))) | ((first | apply axR hΓ | apply axG | apply ovX rfl | apply ovE rfl); (simp (disch := omega) only [go_sem, ↓reduceIte, dk] <;> with_reducible rfl); exact trivial) | rfl))
  (apply axp_regf mixedOK hΓ (by kernel_rfl); (simp (disch := omega) only [go_sem, ↓reduceIte, dk, Int.reduceToNat, List.getElem?_cons_zero, List.getElem?_cons_succ, Γ95, e94a, e94b] <;> with_reducible rfl); (simp only [go_sem] <;> with_reducible rfl))
  by_cases ha0 : a < 0
  · (repeat (first | (apply axJ; (focus ((with_reducible constructor) <;> rfl))) | ((first | apply axR hΓ | apply axG | apply ovX rfl | apply ovE rfl); (simp (disch := omega) only [go_sem, ↓reduceIte, dk] <;> with_reducible rfl); exact trivial) | rfl))
    ((repeat (first | (apply axJ; (focus ((with_reducible constructor) <;> rfl))) | (apply axT mixedOK hΓ (by kernel_rfl); (simp (disch := omega) only [go_sem, ↓reduceIte, dk] <;> with_reducible rfl)) | ((first | apply axR hΓ | apply axG | apply axH mixedOK hΓ rfl (by kernel_rfl) | apply ovX rfl | apply ovE rfl); (simp (disch := omega) only [go_sem, ↓reduceIte, dk] <;> with_reducible rfl); exact trivial) | rfl)); (exact ⟨_, rfl⟩))
  by_cases hb0 : b < 0
  · (repeat (first | (apply axJ; (focus ((with_reducible constructor) <;> rfl))) | ((first | apply axR hΓ | apply axG | apply ovX rfl | apply ovE rfl); (simp (disch := omega) only [go_sem, ↓reduceIte, dk] <;> with_reducible rfl); exact trivial) | rfl))
    ((repeat (first | (apply axJ; (focus ((with_reducible constructor) <;> rfl))) | (apply axT mixedOK hΓ (by kernel_rfl); (simp (disch := omega) only [go_sem, ↓reduceIte, dk] <;> with_reducible rfl)) | ((first | apply axR hΓ | apply axG | apply axH mixedOK hΓ rfl (by kernel_rfl) | apply ovX rfl | apply ovE rfl); (simp (disch := omega) only [go_sem, ↓reduceIte, dk] <;> with_reducible rfl); exact trivial) | rfl)); (exact ⟨_, rfl⟩))
  obtain ⟨a, rfl⟩ := Int.eq_ofNat_of_zero_le (show 0 ≤ a by omega)
  obtain ⟨b, rfl⟩ := Int.eq_ofNat_of_zero_le (show 0 ≤ b by omega)
  clear e94a e94b
  have ha2 : a < s.l.length := by omega
  have hb2 : b < s.l.length := by omega
  generalize hya : s.l[a] = p
  generalize hyb : s.l[b] = q
  obtain ⟨r, e96⟩ := g96_eq p q
  unfold eE at e96
  (repeat (first | (apply axJ; (focus ((with_reducible constructor) <;> rfl))) | ((first | apply axR hΓ | apply axG | apply ovX rfl | apply ovE rfl); (simp (disch := omega) only [go_sem, ↓reduceIte, dk] <;> with_reducible rfl); exact trivial) | rfl))
  (apply axp_regf mixedOK hΓ (by kernel_rfl); (simp (disch := omega) only [go_sem, ↓reduceIte, dk, hya, hyb, eE, Γ95, e96] <;> with_reducible rfl); (simp only [go_sem] <;> with_reducible rfl))
  refine axp_cond (by simp (disch := omega) only [go_sem, ↓reduceIte]; rfl) (fun hc => ?_) (fun hc => ?_)
  · ((repeat (first | (apply axJ; (focus ((with_reducible constructor) <;> rfl))) | (apply axT mixedOK hΓ (by kernel_rfl); (simp (disch := omega) only [go_sem, ↓reduceIte, dk] <;> with_reducible rfl)) | ((first | apply axR hΓ | apply axG | apply axH mixedOK hΓ rfl (by kernel_rfl) | apply ovX rfl | apply ovE rfl); (simp (disch := omega) only [go_sem, ↓reduceIte, dk] <;> with_reducible rfl); exact trivial) | rfl)); (exact ⟨_, rfl⟩))
  (repeat (first | (apply axJ; (focus ((with_reducible constructor) <;> rfl))) | ((first | apply axR hΓ | apply axG | apply ovX rfl | apply ovE rfl); (simp (disch := omega) only [go_sem, ↓reduceIte, dk] <;> with_reducible rfl); exact trivial) | rfl))
  (apply axp_regf mixedOK hΓ (by kernel_rfl); (simp (disch := omega) only [go_sem, ↓reduceIte, dk, hya, hyb, eE] <;> with_reducible rfl); (simp only [go_sem] <;> with_reducible rfl))
  (repeat (first | (apply axJ; (focus ((with_reducible constructor) <;> rfl))) | ((first | apply axR hΓ | apply axG | apply ovX rfl | apply ovE rfl); (simp (disch := omega) only [go_sem, ↓reduceIte, dk] <;> with_reducible rfl); exact trivial) | (exact ⟨_, rfl⟩) | (apply axp_regf mixedOK hΓ (by kernel_rfl); (simp (disch := omega) only [go_sem, ↓reduceIte, dk] <;> with_reducible rfl); (simp only [go_sem] <;> with_reducible rfl)) | (apply axp_regt mixedOK hΓ rfl; (focus kernel_rfl); (simp (disch := omega) only [go_sem, ↓reduceIte, dk] <;> with_reducible rfl); (simp only [go_sem] <;> with_reducible rfl); (simp (disch := omega) only [go_sem, ↓reduceIte, dk] <;> with_reducible rfl)) | (refine axp_cond (by simp (disch := omega) only [go_sem, ↓reduceIte, dk]; rfl) (fun hc => ?_) (fun hc => ?_)) | rfl))
noncomputable def g95 := f95_ex.choose
theorem f95_ok : PureOK Try.prog 95 true g95 := f95_ex.choose_spec.1
theorem g95_eq {s : SetR} {i : Int} {e : Ev} (h : SetOK s) (h0 : 0 ≤ i) (h1 : i < s.l.length) (ht : e.tg.length = 2) : ∃ n : Int, g95 [eSet s, i64 i, eE e] = some (i64 n) := by
  obtain ⟨d, ⟨n, rfl⟩, h2⟩ := f95_ex.choose_spec.2 (s, i, e) ⟨⟨h, h0, h1⟩, ht⟩
  exact ⟨n, h2⟩
noncomputable def Γ71 : FuncId → Option CSpec := fun f => if f = 93 then some (.pure true (g93)) else if f = 94 then some (.pure true (g94)) else if f = 95 then some (.pure true (g95)) else none
theorem Γ71_ok : ∀ f s, Γ71 f = some s → SpecOK Try.prog f s := by
  intro f s h
  unfold Γ71 at h
  split at h
  · rename_i hf; cases h; subst hf; exact f93_ok
  split at h
  · rename_i hf; cases h; subst hf; exact f94_ok
  split at h
  · rename_i hf; cases h; subst hf; exact f95_ok
  · cases h
structure WrD (x : SetR × Int × List Int) : Prop where
  s : SetOK x.1
  i0 : 0 ≤ x.2.1
  i1 : x.2.1 < x.1.l.length
  b : x.2.2.length ≤ 64
  bs : ∀ o ∈ x.2.2, 0 ≤ o ∧ o < x.1.l.length
theorem f71_ex : ∃ g, PureOK Try.prog 71 true g ∧ ∀ x : SetR × Int × List Int, WrD x → ∃ d, (∃ n : Int, d = i64 n) ∧ g [eSet x.1, i64 x.2.1, .list (x.2.2.map i64)] = some d := by
  have hΓ := Γ71_ok
  refine pure_ex (enc := fun x : SetR × Int × List Int => [eSet x.1, i64 x.2.1, .list (x.2.2.map i64)]) (dom := WrD) (good := fun x d => ∃ n : Int, d = i64 n) (n := 147) (rs := [.tmp 6]) Try.func71 (by kernel_rfl) rfl (by kernel_rfl) (by kernel_rfl) (fun a b h => by
    simp only [List.cons.injEq, and_true, D.int.injEq, D.list.injEq, true_and] at h
    exact Prod.ext (eSet_inj _ _ h.1) (Prod.ext h.2.1 (ints_inj h.2.2))) ?_
  rintro ⟨s, i, bf⟩ ⟨hz, h1, h2, h3, h4⟩
  refine ⟨fun _ d ⟨n, hd⟩ => hd ▸ .int _ _, ?_⟩
  dsimp only at hz h1 h2 h3 h4 ⊢
  have e94 := fun id => g94_eq (id := id) hz h1 h2
  have e95 := fun e he => g95_eq (e := e) hz h1 h2 he
  obtain ⟨z1, z2, z3, z4, z5, z6, z7, z8⟩ := hz
  obtain ⟨i, rfl⟩ := Int.eq_ofNat_of_zero_le h1
  have hi : i < s.l.length := by omega
  have hip : i < s.ps.length := by omega
  have hp := z5 _ (List.getElem_mem hip)
  have hev := z6 _ (List.getElem_mem hi)
  generalize hpy : s.ps[i] = p at hp
  generalize hye : s.l[i] = e at hev
  unfold eSet at e94 e95 ⊢
  rw [start_frame (by simp)]; simp only [enumV, go_sem, emptyH]
  (repeat (first | (apply axJ; (focus ((with_reducible constructor) <;> rfl))) | ((first | apply axR hΓ | apply axG | apply ovX rfl | apply ovE rfl); (simp (disch := omega) only [go_sem, ↓reduceIte, dk, hye, eE] <;> with_reducible rfl); exact trivial) | rfl))
  refine axp_loop_at (X := Nat × Bool) (fun x => (frame 147 [(1, .data (i64 i)), (2, .data (.list (bf.map i64))), (3, .ptr 0 0), (7, .ptr 7 0), (8, .data (.bool x.2)), (9, .data (i64 (-1))), (10, .data (.bool false)), (11, .data (i64 x.1))])) (fun _ => [(0, .box [.data (.list (s.l.map eE)), .data (.list (s.ids.map .str)), .data (.list (s.rk.map i64)), .data (.list (s.ps.map eB)), .data (.list (s.od.map i64))]), (7, .box [.data (i64 e.k), .data (.str e.au), .data (i64 e.n), .data (.list (e.ns.map .str)), .data (.str e.ro), .data (i64 e.kb), .data (i64 e.kh), .data (.str e.pk), .data (.str e.dg), .data (.str e.q), .data (.str e.sc), .data (.str e.an), .data (i64 e.u), .data (.list (e.tg.map .str)), .data (i64 0), .data (.list []), .data (.list []), .data (.list [])])]) 8
    (fun x => x.1 ≤ bf.length) (fun x => bf.length - x.1) (0, false) (Nat.zero_le _) (Weak.w) ?_
  rintro ⟨k, tw⟩ hk
  dsimp only at hk ⊢
  by_cases hk2 : k < bf.length
  · have ho := h4 _ (List.getElem_mem hk2)
    generalize hob : bf[k] = o at ho
    obtain ⟨o, rfl⟩ := Int.eq_ofNat_of_zero_le ho.1
    have ho2 : o < s.l.length := by omega
    generalize hy : s.l[o] = y
    generalize hc1 : (y.au == e.au) = c1
    generalize hc2 : (y.n == e.n) = c2
    (repeat (first | (apply axJ; (focus ((with_reducible constructor) <;> rfl))) | ((first | apply axR hΓ | apply axG | apply ovX rfl | apply ovE rfl); (simp (disch := omega) only [go_sem, ↓reduceIte, dk] <;> with_reducible rfl); exact trivial) | rfl))
    ((first | apply axp_regB hΓ | (apply axp_regfB mixedOK hΓ (by kernel_rfl); (simp only [go_sem] <;> with_reducible rfl)) | (apply axp_regtB mixedOK hΓ rfl (by kernel_rfl); (simp only [go_sem] <;> with_reducible rfl))); (try simp (disch := omega) only [go_sem, ↓reduceIte, dk, eE, hob, hy, hc1, hc2]); (repeat' (first | (first | refine runs_some ?_ | (refine runsQ_some ?_; (try simp (disch := omega) only [go_sem, ↓reduceIte, dk, eE, hob, hy, hc1, hc2]); refine runs_some ?_) | refine runsQ_some ?_) | ((first | show Runs _ _ | show RunsQ _ _); (first | cases tw | cases c1 | cases c2) <;> (try simp (disch := omega) only [go_sem, ↓reduceIte, dk, eE, hob, hy, hc1, hc2])))))
    all_goals (repeat (first | (apply axJ; (focus ((with_reducible constructor) <;> rfl))) | ((first | apply axR hΓ | apply axG | apply ovX rfl | apply ovE rfl); (simp (disch := omega) only [go_sem, ↓reduceIte, dk] <;> with_reducible rfl); exact trivial) | rfl))
    · exact ⟨(k + 1, false), by dsimp only; omega, by dsimp only; omega, Weak.w⟩
    · exact ⟨(k + 1, c2), by dsimp only; omega, by dsimp only; omega, Weak.w⟩
    · exact ⟨(k + 1, true), by dsimp only; omega, by dsimp only; omega, Weak.w⟩
  (repeat (first | (apply axJ; (focus ((with_reducible constructor) <;> rfl))) | ((first | apply axR hΓ | apply axG | apply ovX rfl | apply ovE rfl); (simp (disch := omega) only [go_sem, ↓reduceIte, dk] <;> with_reducible rfl); exact trivial) | rfl))
  refine axp_loop_at (X := Nat × Int × Bool) (fun x => (frame 147 [(1, .data (i64 i)), (3, .ptr 0 0), (7, .ptr 7 0), (8, .data (.bool tw)), (9, .data (i64 x.2.1)), (10, .data (.bool x.2.2)), (12, .data (i64 x.1))])) (fun _ => [(0, .box [.data (.list (s.l.map eE)), .data (.list (s.ids.map .str)), .data (.list (s.rk.map i64)), .data (.list (s.ps.map eB)), .data (.list (s.od.map i64))]), (7, .box [.data (i64 e.k), .data (.str e.au), .data (i64 e.n), .data (.list (e.ns.map .str)), .data (.str e.ro), .data (i64 e.kb), .data (i64 e.kh), .data (.str e.pk), .data (.str e.dg), .data (.str e.q), .data (.str e.sc), .data (.str e.an), .data (i64 e.u), .data (.list (e.tg.map .str)), .data (i64 0), .data (.list []), .data (.list []), .data (.list [])])]) 8
    (fun x => x.1 ≤ s.l.length ∧ x.2.1 < s.l.length) (fun x => s.l.length - x.1) (0, -1, false) ⟨Nat.zero_le _, by dsimp only; omega⟩ (Weak.w) ?_
  rintro ⟨k, j, la⟩ ⟨hk, hj⟩
  dsimp only at hk hj ⊢
  by_cases hk2 : k < s.l.length
  · have hkp : k < p.length := by omega
    generalize hb : p[k] = b
    generalize hy : s.l[k] = y
    generalize hc1 : (y.au == e.au) = c1
    generalize hc2 : (y.n == IntKind.wrap .i64 (e.n - 1)) = c2
    (repeat (first | (apply axJ; (focus ((with_reducible constructor) <;> rfl))) | ((first | apply axR hΓ | apply axG | apply ovX rfl | apply ovE rfl); (simp (disch := omega) only [go_sem, ↓reduceIte, dk] <;> with_reducible rfl); exact trivial) | rfl))
    cases b with
    | false =>
      (apply axp_regf mixedOK hΓ (by kernel_rfl); (simp (disch := omega) only [go_sem, ↓reduceIte, dk, eE, eB, hpy, hb, hy, hc1] <;> with_reducible rfl); (simp only [go_sem] <;> with_reducible rfl))
      (repeat (first | (apply axJ; (focus ((with_reducible constructor) <;> rfl))) | ((first | apply axR hΓ | apply axG | apply ovX rfl | apply ovE rfl); (simp (disch := omega) only [go_sem, ↓reduceIte, dk] <;> with_reducible rfl); exact trivial) | rfl))
      exact ⟨(k + 1, j, la), ⟨by dsimp only; omega, by dsimp only; omega⟩, by dsimp only; omega, Weak.w⟩
    | true =>
    cases c1 with
    | false =>
      (apply axp_regf mixedOK hΓ (by kernel_rfl); (simp (disch := omega) only [go_sem, ↓reduceIte, dk, eE, eB, hpy, hb, hy, hc1] <;> with_reducible rfl); (simp only [go_sem] <;> with_reducible rfl))
      (repeat (first | (apply axJ; (focus ((with_reducible constructor) <;> rfl))) | ((first | apply axR hΓ | apply axG | apply ovX rfl | apply ovE rfl); (simp (disch := omega) only [go_sem, ↓reduceIte, dk] <;> with_reducible rfl); exact trivial) | rfl))
      exact ⟨(k + 1, j, la), ⟨by dsimp only; omega, by dsimp only; omega⟩, by dsimp only; omega, Weak.w⟩
    | true =>
      (apply axp_regf mixedOK hΓ (by kernel_rfl); (simp (disch := omega) only [go_sem, ↓reduceIte, dk, eE, eB, hpy, hb, hy, hc1] <;> with_reducible rfl); (simp only [go_sem] <;> with_reducible rfl))
      (repeat (first | (apply axJ; (focus ((with_reducible constructor) <;> rfl))) | ((first | apply axR hΓ | apply axG | apply ovX rfl | apply ovE rfl); (simp (disch := omega) only [go_sem, ↓reduceIte, dk, eE, hy] <;> with_reducible rfl); exact trivial) | rfl))
      refine axp_cond (by simp (disch := omega) only [go_sem, ↓reduceIte]; rfl) (fun hc => ?_) (fun hc => ?_)
      · (repeat (first | (apply axJ; (focus ((with_reducible constructor) <;> rfl))) | ((first | apply axR hΓ | apply axG | apply ovX rfl | apply ovE rfl); (simp (disch := omega) only [go_sem, ↓reduceIte, dk] <;> with_reducible rfl); exact trivial) | rfl))
        ((first | apply axp_regB hΓ | (apply axp_regfB mixedOK hΓ (by kernel_rfl); (simp only [go_sem] <;> with_reducible rfl)) | (apply axp_regtB mixedOK hΓ rfl (by kernel_rfl); (simp only [go_sem] <;> with_reducible rfl))); (try simp (disch := omega) only [go_sem, ↓reduceIte, dk, eE, hy, hc2]); (repeat' (first | (first | refine runs_some ?_ | (refine runsQ_some ?_; (try simp (disch := omega) only [go_sem, ↓reduceIte, dk, eE, hy, hc2]); refine runs_some ?_) | refine runsQ_some ?_) | ((first | show Runs _ _ | show RunsQ _ _); (first | cases la | cases c2) <;> (try simp (disch := omega) only [go_sem, ↓reduceIte, dk, eE, hy, hc2])))))
        all_goals (repeat (first | (apply axJ; (focus ((with_reducible constructor) <;> rfl))) | ((first | apply axR hΓ | apply axG | apply ovX rfl | apply ovE rfl); (simp (disch := omega) only [go_sem, ↓reduceIte, dk] <;> with_reducible rfl); exact trivial) | rfl))
        · exact ⟨(k + 1, (k : Int), c2), ⟨by dsimp only; omega, by dsimp only; omega⟩, by dsimp only; omega, Weak.w⟩
        · exact ⟨(k + 1, (k : Int), true), ⟨by dsimp only; omega, by dsimp only; omega⟩, by dsimp only; omega, Weak.w⟩
      · (repeat (first | (apply axJ; (focus ((with_reducible constructor) <;> rfl))) | ((first | apply axR hΓ | apply axG | apply ovX rfl | apply ovE rfl); (simp (disch := omega) only [go_sem, ↓reduceIte, dk] <;> with_reducible rfl); exact trivial) | rfl))
        ((first | apply axp_regB hΓ | (apply axp_regfB mixedOK hΓ (by kernel_rfl); (simp only [go_sem] <;> with_reducible rfl)) | (apply axp_regtB mixedOK hΓ rfl (by kernel_rfl); (simp only [go_sem] <;> with_reducible rfl))); (try simp (disch := omega) only [go_sem, ↓reduceIte, dk, eE, hy, hc2]); (repeat' (first | (first | refine runs_some ?_ | (refine runsQ_some ?_; (try simp (disch := omega) only [go_sem, ↓reduceIte, dk, eE, hy, hc2]); refine runs_some ?_) | refine runsQ_some ?_) | ((first | show Runs _ _ | show RunsQ _ _); (first | cases la | cases c2) <;> (try simp (disch := omega) only [go_sem, ↓reduceIte, dk, eE, hy, hc2])))))
        all_goals (repeat (first | (apply axJ; (focus ((with_reducible constructor) <;> rfl))) | ((first | apply axR hΓ | apply axG | apply ovX rfl | apply ovE rfl); (simp (disch := omega) only [go_sem, ↓reduceIte, dk] <;> with_reducible rfl); exact trivial) | rfl))
        · exact ⟨(k + 1, j, c2), ⟨by dsimp only; omega, by dsimp only; omega⟩, by dsimp only; omega, Weak.w⟩
        · exact ⟨(k + 1, j, true), ⟨by dsimp only; omega, by dsimp only; omega⟩, by dsimp only; omega, Weak.w⟩
  (repeat (first | (apply axJ; (focus ((with_reducible constructor) <;> rfl))) | ((first | apply axR hΓ | apply axG | apply ovX rfl | apply ovE rfl); (simp (disch := omega) only [go_sem, ↓reduceIte, dk] <;> with_reducible rfl); exact trivial) | rfl))
  refine axp_cond (by simp (disch := omega) only [go_sem, ↓reduceIte]; rfl) (fun hc => ?_) (fun hc => ?_)
  · by_cases hj0 : j < 0
    · (repeat (first | (apply axJ; (focus ((with_reducible constructor) <;> rfl))) | ((first | apply axR hΓ | apply axG | apply ovX rfl | apply ovE rfl); (simp (disch := omega) only [go_sem, ↓reduceIte, dk] <;> with_reducible rfl); exact trivial) | rfl))
      ((repeat (first | (apply axJ; (focus ((with_reducible constructor) <;> rfl))) | (apply axT mixedOK hΓ (by kernel_rfl); (simp (disch := omega) only [go_sem, ↓reduceIte, dk] <;> with_reducible rfl)) | ((first | apply axR hΓ | apply axG | apply axH mixedOK hΓ rfl (by kernel_rfl) | apply ovX rfl | apply ovE rfl); (simp (disch := omega) only [go_sem, ↓reduceIte, dk] <;> with_reducible rfl); exact trivial) | rfl)); (exact ⟨_, rfl⟩))
    obtain ⟨j, rfl⟩ := Int.eq_ofNat_of_zero_le (show 0 ≤ j by omega)
    have hj2 : j < s.l.length := by omega
    generalize hy : s.l[j] = y
    have e93 := g93_eq y.kb y.kh
    (repeat (first | (apply axJ; (focus ((with_reducible constructor) <;> rfl))) | ((first | apply axR hΓ | apply axG | apply ovX rfl | apply ovE rfl); (simp (disch := omega) only [go_sem, ↓reduceIte, dk] <;> with_reducible rfl); exact trivial) | rfl))
    (apply axp_regf mixedOK hΓ (by kernel_rfl); (simp (disch := omega) only [go_sem, ↓reduceIte, dk, eE, hy, Γ71, e93] <;> with_reducible rfl); (simp only [go_sem] <;> with_reducible rfl))
    refine axp_cond (by simp (disch := omega) only [go_sem, ↓reduceIte]; rfl) (fun hc => ?_) (fun hc => ?_)
    · ((repeat (first | (apply axJ; (focus ((with_reducible constructor) <;> rfl))) | (apply axT mixedOK hΓ (by kernel_rfl); (simp (disch := omega) only [go_sem, ↓reduceIte, dk] <;> with_reducible rfl)) | ((first | apply axR hΓ | apply axG | apply axH mixedOK hΓ rfl (by kernel_rfl) | apply ovX rfl | apply ovE rfl); (simp (disch := omega) only [go_sem, ↓reduceIte, dk] <;> with_reducible rfl); exact trivial) | rfl)); (exact ⟨_, rfl⟩))
    (repeat (first | (apply axJ; (focus ((with_reducible constructor) <;> rfl))) | ((first | apply axR hΓ | apply axG | apply ovX rfl | apply ovE rfl); (simp (disch := omega) only [go_sem, ↓reduceIte, dk] <;> with_reducible rfl); exact trivial) | rfl))
    refine axp_cond (by simp (disch := omega) only [go_sem, ↓reduceIte]; rfl) (fun hc => ?_) (fun hc => ?_)
    · ((repeat (first | (apply axJ; (focus ((with_reducible constructor) <;> rfl))) | (apply axT mixedOK hΓ (by kernel_rfl); (simp (disch := omega) only [go_sem, ↓reduceIte, dk] <;> with_reducible rfl)) | ((first | apply axR hΓ | apply axG | apply axH mixedOK hΓ rfl (by kernel_rfl) | apply ovX rfl | apply ovE rfl); (simp (disch := omega) only [go_sem, ↓reduceIte, dk] <;> with_reducible rfl); exact trivial) | rfl)); (exact ⟨_, rfl⟩))
    (repeat (first | (apply axJ; (focus ((with_reducible constructor) <;> rfl))) | ((first | apply axR hΓ | apply axG | apply ovX rfl | apply ovE rfl); (simp (disch := omega) only [go_sem, ↓reduceIte, dk] <;> with_reducible rfl); exact trivial) | rfl))
    refine axp_cond (by simp (disch := omega) only [go_sem, ↓reduceIte]; rfl) (fun hc => ?_) (fun hc => ?_)
    · ((repeat (first | (apply axJ; (focus ((with_reducible constructor) <;> rfl))) | (apply axT mixedOK hΓ (by kernel_rfl); (simp (disch := omega) only [go_sem, ↓reduceIte, dk] <;> with_reducible rfl)) | ((first | apply axR hΓ | apply axG | apply axH mixedOK hΓ rfl (by kernel_rfl) | apply ovX rfl | apply ovE rfl); (simp (disch := omega) only [go_sem, ↓reduceIte, dk] <;> with_reducible rfl); exact trivial) | rfl)); (exact ⟨_, rfl⟩))
    (repeat (first | (apply axJ; (focus ((with_reducible constructor) <;> rfl))) | ((first | apply axR hΓ | apply axG | apply ovX rfl | apply ovE rfl); (simp (disch := omega) only [go_sem, ↓reduceIte, dk] <;> with_reducible rfl); exact trivial) | rfl))
    by_cases hk4 : e.k = 4
    · have hk4' : (e.k == 4) = true := by rw [hk4]; rfl
      have hk5' : (e.k == 5) = false := by rw [hk4]; rfl
      obtain ⟨x, hx⟩ := len1 (hev.t4 hk4)
      rw [hx]
      obtain ⟨n, e94, hn⟩ := e94 x
      (repeat (first | (apply axJ; (focus ((with_reducible constructor) <;> rfl))) | ((first | apply axR hΓ | apply axG | apply ovX rfl | apply ovE rfl); (simp (disch := omega) only [go_sem, ↓reduceIte, dk, hk4'] <;> with_reducible rfl); exact trivial) | rfl))
      (apply axp_regt mixedOK hΓ rfl; (focus kernel_rfl); (simp (disch := omega) only [go_sem, ↓reduceIte, dk, Int.reduceToNat, List.getElem?_cons_zero, List.getElem?_cons_succ, Γ71, e94] <;> with_reducible rfl); (simp only [go_sem] <;> with_reducible rfl); (simp (disch := omega) only [go_sem, ↓reduceIte, dk, Int.reduceToNat, List.getElem?_cons_zero, List.getElem?_cons_succ, Γ71, e94] <;> with_reducible rfl))
      by_cases hn0 : n < 0
      · (repeat (first | (apply axJ; (focus ((with_reducible constructor) <;> rfl))) | ((first | apply axR hΓ | apply axG | apply ovX rfl | apply ovE rfl); (simp (disch := omega) only [go_sem, ↓reduceIte, dk] <;> with_reducible rfl); exact trivial) | rfl))
        ((repeat (first | (apply axJ; (focus ((with_reducible constructor) <;> rfl))) | (apply axT mixedOK hΓ (by kernel_rfl); (simp (disch := omega) only [go_sem, ↓reduceIte, dk] <;> with_reducible rfl)) | ((first | apply axR hΓ | apply axG | apply axH mixedOK hΓ rfl (by kernel_rfl) | apply ovX rfl | apply ovE rfl); (simp (disch := omega) only [go_sem, ↓reduceIte, dk] <;> with_reducible rfl); exact trivial) | rfl)); (exact ⟨_, rfl⟩))
      obtain ⟨n, rfl⟩ := Int.eq_ofNat_of_zero_le (show 0 ≤ n by omega)
      have hn2 : n < s.l.length := by omega
      generalize hy : s.l[n] = y
      (repeat (first | (apply axJ; (focus ((with_reducible constructor) <;> rfl))) | ((first | apply axR hΓ | apply axG | apply ovX rfl | apply ovE rfl); (simp (disch := omega) only [go_sem, ↓reduceIte, dk] <;> with_reducible rfl); exact trivial) | rfl))
      (apply axp_regf mixedOK hΓ (by kernel_rfl); (simp (disch := omega) only [go_sem, ↓reduceIte, dk, eE, hy] <;> with_reducible rfl); (simp only [go_sem] <;> with_reducible rfl))
      refine axp_cond (by simp (disch := omega) only [go_sem, ↓reduceIte]; rfl) (fun hc => ?_) (fun hc => ?_)
      · ((repeat (first | (apply axJ; (focus ((with_reducible constructor) <;> rfl))) | (apply axT mixedOK hΓ (by kernel_rfl); (simp (disch := omega) only [go_sem, ↓reduceIte, dk] <;> with_reducible rfl)) | ((first | apply axR hΓ | apply axG | apply axH mixedOK hΓ rfl (by kernel_rfl) | apply ovX rfl | apply ovE rfl); (simp (disch := omega) only [go_sem, ↓reduceIte, dk] <;> with_reducible rfl); exact trivial) | rfl)); (exact ⟨_, rfl⟩))
      (repeat (first | (apply axJ; (focus ((with_reducible constructor) <;> rfl))) | ((first | apply axR hΓ | apply axG | apply ovX rfl | apply ovE rfl); (simp (disch := omega) only [go_sem, ↓reduceIte, dk, hk5'] <;> with_reducible rfl); exact trivial) | rfl))
      exact ⟨_, rfl⟩
    have hk4' : (e.k == 4) = false := by simpa using hk4
    (repeat (first | (apply axJ; (focus ((with_reducible constructor) <;> rfl))) | ((first | apply axR hΓ | apply axG | apply ovX rfl | apply ovE rfl); (simp (disch := omega) only [go_sem, ↓reduceIte, dk, hk4'] <;> with_reducible rfl); exact trivial) | rfl))
    by_cases hk5 : e.k = 5
    · have hk5' : (e.k == 5) = true := by rw [hk5]; rfl
      obtain ⟨n, e95⟩ := e95 e (hev.t5 hk5)
      rw [eE_eq] at e95
      (repeat (first | (apply axJ; (focus ((with_reducible constructor) <;> rfl))) | ((first | apply axR hΓ | apply axG | apply ovX rfl | apply ovE rfl); (simp (disch := omega) only [go_sem, ↓reduceIte, dk, hk5', Γ71, e95] <;> with_reducible rfl); exact trivial) | rfl))
      exact ⟨_, rfl⟩
    have hk5' : (e.k == 5) = false := by simpa using hk5
    (repeat (first | (apply axJ; (focus ((with_reducible constructor) <;> rfl))) | ((first | apply axR hΓ | apply axG | apply ovX rfl | apply ovE rfl); (simp (disch := omega) only [go_sem, ↓reduceIte, dk, hk5'] <;> with_reducible rfl); exact trivial) | rfl))
    exact ⟨_, rfl⟩
  (repeat (first | (apply axJ; (focus ((with_reducible constructor) <;> rfl))) | ((first | apply axR hΓ | apply axG | apply ovX rfl | apply ovE rfl); (simp (disch := omega) only [go_sem, ↓reduceIte, dk] <;> with_reducible rfl); exact trivial) | rfl))
  refine axp_cond (by simp (disch := omega) only [go_sem, ↓reduceIte]; rfl) (fun hc => ?_) (fun hc => ?_)
  · ((repeat (first | (apply axJ; (focus ((with_reducible constructor) <;> rfl))) | (apply axT mixedOK hΓ (by kernel_rfl); (simp (disch := omega) only [go_sem, ↓reduceIte, dk] <;> with_reducible rfl)) | ((first | apply axR hΓ | apply axG | apply axH mixedOK hΓ rfl (by kernel_rfl) | apply ovX rfl | apply ovE rfl); (simp (disch := omega) only [go_sem, ↓reduceIte, dk] <;> with_reducible rfl); exact trivial) | rfl)); (exact ⟨_, rfl⟩))
  (repeat (first | (apply axJ; (focus ((with_reducible constructor) <;> rfl))) | ((first | apply axR hΓ | apply axG | apply ovX rfl | apply ovE rfl); (simp (disch := omega) only [go_sem, ↓reduceIte, dk] <;> with_reducible rfl); exact trivial) | rfl))
  by_cases hk4 : e.k = 4
  · have hk4' : (e.k == 4) = true := by rw [hk4]; rfl
    have hk5' : (e.k == 5) = false := by rw [hk4]; rfl
    obtain ⟨x, hx⟩ := len1 (hev.t4 hk4)
    rw [hx]
    obtain ⟨n, e94, hn⟩ := e94 x
    (repeat (first | (apply axJ; (focus ((with_reducible constructor) <;> rfl))) | ((first | apply axR hΓ | apply axG | apply ovX rfl | apply ovE rfl); (simp (disch := omega) only [go_sem, ↓reduceIte, dk, hk4'] <;> with_reducible rfl); exact trivial) | rfl))
    (apply axp_regt mixedOK hΓ rfl; (focus kernel_rfl); (simp (disch := omega) only [go_sem, ↓reduceIte, dk, Int.reduceToNat, List.getElem?_cons_zero, List.getElem?_cons_succ, Γ71, e94] <;> with_reducible rfl); (simp only [go_sem] <;> with_reducible rfl); (simp (disch := omega) only [go_sem, ↓reduceIte, dk, Int.reduceToNat, List.getElem?_cons_zero, List.getElem?_cons_succ, Γ71, e94] <;> with_reducible rfl))
    by_cases hn0 : n < 0
    · (repeat (first | (apply axJ; (focus ((with_reducible constructor) <;> rfl))) | ((first | apply axR hΓ | apply axG | apply ovX rfl | apply ovE rfl); (simp (disch := omega) only [go_sem, ↓reduceIte, dk] <;> with_reducible rfl); exact trivial) | rfl))
      ((repeat (first | (apply axJ; (focus ((with_reducible constructor) <;> rfl))) | (apply axT mixedOK hΓ (by kernel_rfl); (simp (disch := omega) only [go_sem, ↓reduceIte, dk] <;> with_reducible rfl)) | ((first | apply axR hΓ | apply axG | apply axH mixedOK hΓ rfl (by kernel_rfl) | apply ovX rfl | apply ovE rfl); (simp (disch := omega) only [go_sem, ↓reduceIte, dk] <;> with_reducible rfl); exact trivial) | rfl)); (exact ⟨_, rfl⟩))
    obtain ⟨n, rfl⟩ := Int.eq_ofNat_of_zero_le (show 0 ≤ n by omega)
    have hn2 : n < s.l.length := by omega
    generalize hy : s.l[n] = y
    (repeat (first | (apply axJ; (focus ((with_reducible constructor) <;> rfl))) | ((first | apply axR hΓ | apply axG | apply ovX rfl | apply ovE rfl); (simp (disch := omega) only [go_sem, ↓reduceIte, dk] <;> with_reducible rfl); exact trivial) | rfl))
    (apply axp_regf mixedOK hΓ (by kernel_rfl); (simp (disch := omega) only [go_sem, ↓reduceIte, dk, eE, hy] <;> with_reducible rfl); (simp only [go_sem] <;> with_reducible rfl))
    refine axp_cond (by simp (disch := omega) only [go_sem, ↓reduceIte]; rfl) (fun hc => ?_) (fun hc => ?_)
    · ((repeat (first | (apply axJ; (focus ((with_reducible constructor) <;> rfl))) | (apply axT mixedOK hΓ (by kernel_rfl); (simp (disch := omega) only [go_sem, ↓reduceIte, dk] <;> with_reducible rfl)) | ((first | apply axR hΓ | apply axG | apply axH mixedOK hΓ rfl (by kernel_rfl) | apply ovX rfl | apply ovE rfl); (simp (disch := omega) only [go_sem, ↓reduceIte, dk] <;> with_reducible rfl); exact trivial) | rfl)); (exact ⟨_, rfl⟩))
    (repeat (first | (apply axJ; (focus ((with_reducible constructor) <;> rfl))) | ((first | apply axR hΓ | apply axG | apply ovX rfl | apply ovE rfl); (simp (disch := omega) only [go_sem, ↓reduceIte, dk, hk5'] <;> with_reducible rfl); exact trivial) | rfl))
    exact ⟨_, rfl⟩
  have hk4' : (e.k == 4) = false := by simpa using hk4
  (repeat (first | (apply axJ; (focus ((with_reducible constructor) <;> rfl))) | ((first | apply axR hΓ | apply axG | apply ovX rfl | apply ovE rfl); (simp (disch := omega) only [go_sem, ↓reduceIte, dk, hk4'] <;> with_reducible rfl); exact trivial) | rfl))
  by_cases hk5 : e.k = 5
  · have hk5' : (e.k == 5) = true := by rw [hk5]; rfl
    obtain ⟨n, e95⟩ := e95 e (hev.t5 hk5)
    rw [eE_eq] at e95
    (repeat (first | (apply axJ; (focus ((with_reducible constructor) <;> rfl))) | ((first | apply axR hΓ | apply axG | apply ovX rfl | apply ovE rfl); (simp (disch := omega) only [go_sem, ↓reduceIte, dk, hk5', Γ71, e95] <;> with_reducible rfl); exact trivial) | rfl))
    exact ⟨_, rfl⟩
  have hk5' : (e.k == 5) = false := by simpa using hk5
  (repeat (first | (apply axJ; (focus ((with_reducible constructor) <;> rfl))) | ((first | apply axR hΓ | apply axG | apply ovX rfl | apply ovE rfl); (simp (disch := omega) only [go_sem, ↓reduceIte, dk, hk5'] <;> with_reducible rfl); exact trivial) | rfl))
  exact ⟨_, rfl⟩
noncomputable def g71 := f71_ex.choose
theorem f71_ok : PureOK Try.prog 71 true g71 := f71_ex.choose_spec.1
theorem g71_eq {s : SetR} {i : Int} {b : List Int} (h : SetOK s) (h0 : 0 ≤ i) (h1 : i < s.l.length) (hb : b.length ≤ 64) (hbs : ∀ o ∈ b, 0 ≤ o ∧ o < s.l.length) : ∃ n : Int, g71 [eSet s, i64 i, .list (b.map i64)] = some (i64 n) := by
  obtain ⟨d, ⟨n, rfl⟩, h2⟩ := f71_ex.choose_spec.2 (s, i, b) ⟨h, h0, h1, hb, hbs⟩
  exact ⟨n, h2⟩
end Go.Ab
