/-
  One text of the proof (own work): contracts of functions of the program, by the abstract machine.
-/
import Derived.Test.YtmcgfohokniepaaX21
import Derived.Test.YtmcgfohokniepaaX40
import Derived.Test.YtmcgfohokniepaaX26
import Derived.Test.YtmcgfohokniepaaX18
set_option linter.unusedVariables false
set_option linter.unusedSimpArgs false
namespace Go.Ab
open Go Go.RowKit Go.Proofs
set_option maxRecDepth 4000
set_option maxHeartbeats 40000000
theorem f45_c {l : List Ev} {s : SetR} (hs : SetOK s) (hnd : s.ids.Nodup) (hl : s.l.length = l.length) : axp Try.prog 0 (navF Try.f45 [1, 1, 1]) (RetX Try.prog [.cell 2 30, .tmp 3, .tmp 4] (FoG l)) ((frame 136 [(2, .ptr 0 0), (5, .ptr 9 0)])) ⟨[(0, .box [.nils, .nils, .nils, .nils]), (9, .box [.data (.list (s.l.map eE)), .data (.list (s.ids.map .str)), .data (.list (s.rk.map i64)), .data (.list (s.ps.map eB)), .data (.list (s.od.map i64))])], 13⟩ := by
  have hΓ := Γ45_ok
  conv => arg 3; whnf
  have herr : ∀ (j n : Int), j < l.length → n ≠ 0 → FoG l (.tup [.agg [.list [], .list [], .list [], .list []], i64 j, i64 n]) := fun j n h1 h2 => ⟨⟨[], [], [], []⟩, j, n, rfl, h1, fun h => absurd h h2⟩
  have hod := hs.od
  have hsn := hs.n
  (repeat (first | (refine axA ?_; first | (apply axR hΓ; (simp (disch := omega) only [go_sem, ↓reduceIte, dk] <;> with_reducible rfl); exact trivial) | refine axA ?_ | refine axB ?_) | refine axB ?_ | (apply axK; (focus ((with_reducible constructor) <;> rfl))) | ((first | apply axR hΓ | apply axG | apply ovX rfl | apply ovE rfl); (simp (disch := omega) only [go_sem, ↓reduceIte, dk] <;> with_reducible rfl); exact trivial) | rfl))
  refine axp_loop_at (X := Nat) (fun k => (frame 136 [(2, .ptr 0 0), (5, .ptr 9 0), (8, .data (i64 k))])) (fun _ => [(0, .box [.nils, .nils, .nils, .nils]), (9, .box [.data (.list (s.l.map eE)), .data (.list (s.ids.map .str)), .data (.list (s.rk.map i64)), .data (.list (s.ps.map eB)), .data (.list (s.od.map i64))])]) 13
    (fun k => k ≤ s.od.length) (fun k => s.od.length - k) 0 (Nat.zero_le _) (Weak.w) ?_
  intro k hk
  by_cases hk2 : k < s.od.length
  · have ho := hs.ods _ (List.getElem_mem hk2)
    generalize hob : s.od[k] = o at ho
    obtain ⟨o, rfl⟩ := Int.eq_ofNat_of_zero_le ho.1
    obtain ⟨n, e71⟩ := g71_eq (b := s.od.take k) hs ho.1 ho.2 (by rw [List.length_take]; omega) (fun o ho => hs.ods o (List.mem_of_mem_take ho))
    rw [List.map_take] at e71
    unfold eSet at e71
    generalize hc : (n != 0) = c
    have hel := elemsOK_map (f := i64) (sz := 1) (fun _ => ⟨rfl, rfl⟩) s.od
    (repeat (first | (refine axA ?_; first | (apply axR hΓ; (simp (disch := omega) only [go_sem, ↓reduceIte, dk] <;> with_reducible rfl); exact trivial) | refine axA ?_ | refine axB ?_) | refine axB ?_ | (apply axK; (focus ((with_reducible constructor) <;> rfl))) | ((first | apply axR hΓ | apply axG | apply ovX rfl | apply ovE rfl); (simp (disch := omega) only [go_sem, ↓reduceIte, dk] <;> with_reducible rfl); exact trivial) | rfl))
    refine axA ?_
    (apply axp_regt mixedOK hΓ rfl; (focus kernel_rfl); (simp (disch := omega) only [go_sem, ↓reduceIte, dk, hob, Γ45, Γ45p, hel, Nat.sub_zero, e71] <;> with_reducible rfl); (simp only [go_sem] <;> with_reducible rfl); (simp (disch := omega) only [go_sem, ↓reduceIte, dk, hob, Γ45, Γ45p, hel, Nat.sub_zero, e71] <;> with_reducible rfl))
    cases c with
    | true =>
      have hn : n ≠ 0 := by simpa using hc
      (repeat (first | (refine axA ?_; first | (apply axR hΓ; (simp (disch := omega) only [go_sem, ↓reduceIte, dk, hc] <;> with_reducible rfl); exact trivial) | refine axA ?_ | refine axB ?_) | refine axB ?_ | (apply axK; (focus ((with_reducible constructor) <;> rfl))) | ((first | apply axR hΓ | apply axG | apply ovX rfl | apply ovE rfl); (simp (disch := omega) only [go_sem, ↓reduceIte, dk, hc] <;> with_reducible rfl); exact trivial) | rfl))
      refine axA ?_
      (apply axp_lane3 (nst := false) (nst' := false) [false, false, false, false, false, false, false, true, false] mixedOK hΓ (n1 := 9) (by kernel_rfl) (by kernel_rfl); (focus (dsimp only [List.take_succ_cons, List.take_zero, Array.toList]; (repeat (first | (apply lane3_loud; (focus rfl); (focus rfl); (simp (disch := omega) only [go_sem, ↓reduceIte, ↓lk, ↓ty_build30, dk, hob, look_upd] <;> with_reducible rfl); (focus (first | (simp (disch := omega) only [go_sem, ↓reduceIte, ↓lk, ↓ty_build30, dk, hob, look_upd]; done) | (simp (disch := omega) only [go_sem, ↓reduceIte, ↓lk, ↓ty_build30, dk, hob, look_upd]; omega)))) | (apply lane3_quiet; (simp (disch := omega) only [go_sem, ↓reduceIte, ↓lk, ↓ty_build30, dk, hob, look_upd] <;> with_reducible rfl)))); exact lane3_nil)); (focus ((repeat' (first | exact True.intro | refine And.intro ?_ ?_)); all_goals (first | (left; decide) | (left; rfl) | (right; simp (disch := omega) only [go_sem, ↓reduceIte, ↓lk, ↓ty_build30, dk, hob, look_upd]; try with_reducible rfl)))); (simp (disch := omega) only [go_sem, ↓reduceIte, ↓lk, ↓ty_build30, dk, hob, look_upd] <;> with_reducible rfl))
      (repeat (first | (apply axJ; (focus ((with_reducible constructor) <;> rfl))) | ((first | apply axR hΓ | apply axG | apply ovX rfl | apply ovE rfl); (simp (disch := omega) only [go_sem, ↓reduceIte, dk] <;> with_reducible rfl); exact trivial) | rfl))
      exact herr _ _ (by omega) hn
    | false =>
      (repeat (first | (apply axJ; (focus ((with_reducible constructor) <;> rfl))) | ((first | apply axR hΓ | apply axG | apply ovX rfl | apply ovE rfl); (simp (disch := omega) only [go_sem, ↓reduceIte, dk, hc] <;> with_reducible rfl); exact trivial) | rfl))
      exact ⟨k + 1, by omega, by omega, Weak.w⟩
  · refine axA ?_
    refine axA ?_
    (repeat (first | refine axB ?_ | (apply axK; (focus ((with_reducible constructor) <;> rfl))) | ((first | apply axR hΓ | apply axG | apply ovX rfl | apply ovE rfl); (simp (disch := omega) only [go_sem, ↓reduceIte, dk] <;> with_reducible rfl); exact trivial) | rfl))
    refine axA ?_
    (repeat (first | refine axB ?_ | (apply axK; (focus ((with_reducible constructor) <;> rfl))) | ((first | apply axR hΓ | apply axG | apply ovX rfl | apply ovE rfl); (simp (disch := omega) only [go_sem, ↓reduceIte, dk] <;> with_reducible rfl); exact trivial) | rfl))
    refine axp_weak ((Weak.boxnil (o := 18) (i := 0) 147 (sz := 5) (by omega) rfl rfl).trans ((Weak.boxnil (o := 18) (i := 1) 68 (sz := 3) (by omega) rfl rfl).trans (Weak.boxnil (o := 18) (i := 2) 60 (sz := 10) (by omega) rfl rfl))) ?_
    exact axp_weak (Weak.trans (s2 := (frame 136 [(2, .ptr 0 0), (5, .ptr 9 0), (10, .ptr 18 0)])) (H2 := ⟨[(0, .box [.nils, .nils, .nils, .nils]), (9, .box [.data (.list (s.l.map eE)), .data (.list (s.ids.map .str)), .data (.list (s.rk.map i64)), .data (.list (s.ps.map eB)), .data (.list (s.od.map i64))]), (18, .box [.row 19 0, .row 20 0, .row 21 0, .nils]), (19, .row 147 5 []), (20, .row 68 3 []), (21, .row 60 10 [])], 22⟩) (Weak.v (by (simp [ConvF, lookV, Conv, ints, upd]; done)) (by (simp (disch := omega) only [TabSub, look, if_pos, if_neg, Obj.refsOK, refsOKs, AV.refsOK, decide_eq_true_eq, Bool.and_true, Bool.and_self, upd] ) <;> ((repeat' apply And.intro) <;> first | exact True.intro | omega | (simp; done) | rfl))) (Weak.packed (os := [.box [.nils, .nils, .nils, .nils], .box [.data (.list (s.l.map eE)), .data (.list (s.ids.map .str)), .data (.list (s.rk.map i64)), .data (.list (s.ps.map eB)), .data (.list (s.od.map i64))], .box [.row 3 0, .row 4 0, .row 5 0, .nils], .row 147 5 (([] : List Rw).map eRw), .row 68 3 (([] : List Pk).map ePk), .row 60 10 (([] : List Dc).map eDc)]) (fp := [0, 9, 18, 19, 20, 21]) rfl rfl (by simp) rfl rfl)) (f45_l hs hnd)
theorem f45_ex : ∃ g, PureOK Try.prog 45 false g ∧ ∀ l : List Ev, l.length ≤ 64 ∧ (∀ e ∈ l, EvOK e) → ∃ d, FoG l d ∧ g [.list (l.map eE)] = some d := by
  have hΓ := Γ45_ok
  refine pure_ex (enc := fun l : List Ev => [.list (l.map eE)]) (dom := fun l => l.length ≤ 64 ∧ ∀ e ∈ l, EvOK e) (good := FoG) (n := 136) (rs := [.cell 2 30, .tmp 3, .tmp 4]) Try.func45 (by kernel_rfl) rfl (by kernel_rfl) (by kernel_rfl) (fun a b h => by
    simp only [List.cons.injEq, and_true, D.list.injEq] at h
    exact dmap_inj eE_inj h) ?_
  rintro l ⟨hn, hev⟩
  refine ⟨fun h => (by cases h), ?_⟩
  have herr : ∀ (j n : Int), j < l.length → n ≠ 0 → FoG l (.tup [.agg [.list [], .list [], .list [], .list []], i64 j, i64 n]) := fun j n h1 h2 => ⟨⟨[], [], [], []⟩, j, n, rfl, h1, fun h => absurd h h2⟩
  obtain ⟨s, j, n, e70, h3, h4⟩ := g70_eq hn hev
  unfold eSet at e70
  generalize hc : (n != 0) = c
  rw [start_frame (by simp)]; simp only [enumV, go_sem, emptyH]
  cases c with
  | true =>
    have hn : n ≠ 0 := by simpa using hc
    (repeat (first | (apply axJ; (focus ((with_reducible constructor) <;> rfl))) | ((first | apply axR hΓ | apply axG | apply ovX rfl | apply ovE rfl); (simp (disch := omega) only [go_sem, ↓reduceIte, ↓lk, ↓ty_build30, dk, Γ45, Γ45p, e70, hc] <;> with_reducible rfl); exact trivial) | rfl))
    exact herr _ _ h3 hn
  | false =>
    have hn : n = 0 := by simpa using hc
    obtain ⟨hs, hl, hnd, -⟩ := h4 hn
    refine axA ?_
    (repeat (first | refine axB ?_ | (apply axK; (focus ((with_reducible constructor) <;> rfl))) | ((first | apply axR hΓ | apply axG | apply ovX rfl | apply ovE rfl); (simp (disch := omega) only [go_sem, ↓reduceIte, dk] <;> with_reducible rfl); exact trivial) | rfl))
    refine axA ?_
    (repeat (first | refine axB ?_ | (apply axK; (focus ((with_reducible constructor) <;> rfl))) | ((first | apply axR hΓ | apply axG | apply ovX rfl | apply ovE rfl); (simp (disch := omega) only [go_sem, ↓reduceIte, dk, Γ45, Γ45p, e70] <;> with_reducible rfl); exact trivial) | rfl))
    refine axA ?_
    refine axA ?_
    (repeat (first | refine axB ?_ | (apply axK; (focus ((with_reducible constructor) <;> rfl))) | ((first | apply axR hΓ | apply axG | apply ovX rfl | apply ovE rfl); (simp (disch := omega) only [go_sem, ↓reduceIte, dk, hc] <;> with_reducible rfl); exact trivial) | rfl))
    exact axp_weak (Weak.w) (f45_c hs hnd (by rw [hl]))
noncomputable def g45 := f45_ex.choose
theorem f45_ok : PureOK Try.prog 45 false g45 := f45_ex.choose_spec.1
theorem g45_eq {l : List Ev} (h : l.length ≤ 64) (h2 : ∀ e ∈ l, EvOK e) : ∃ (r : Rev) (i n : Int), g45 [.list (l.map eE)] = some (.tup [eR r, i64 i, i64 n]) ∧ i < l.length ∧ (n = 0 → RvOK r) := by
  obtain ⟨d, ⟨r, i, n, rfl, h3, h4⟩, h5⟩ := f45_ex.choose_spec.2 l ⟨h, h2⟩
  exact ⟨r, i, n, h5, h3, h4⟩
end Go.Ab
namespace Go.Ab
open Go Go.RowKit Go.Proofs
set_option maxRecDepth 4000
set_option maxHeartbeats 40000000
def InsG (x : List (List UInt8) × List UInt8) (d : D) : Prop := ∃ l' : List (List UInt8), d = .list (l'.map .str) ∧ l'.length ≤ x.1.length + 1 ∧ ∀ y ∈ l', y ∈ x.1 ∨ y = x.2
theorem ins_good (l : List (List UInt8)) (s : List UInt8) (i : Nat) : InsG (l, s) (.list (((l.map D.str).take i ++ [.str s]) ++ (l.map D.str).drop i)) := by
  refine ⟨l.take i ++ [s] ++ l.drop i, by simp, ?_, fun y hy => ?_⟩
  · simp only [List.length_append, List.length_take, List.length_drop, List.length_cons, List.length_nil]
    omega
  · simp only [List.mem_append, List.mem_singleton] at hy
    rcases hy with (h | h) | h
    · exact .inl (List.mem_of_mem_take h)
    · exact .inr h
    · exact .inl (List.mem_of_mem_drop h)
theorem elemsOK_sub {sz : Nat} {l m : List D} (h : elemsOK sz l = true) (hs : ∀ x ∈ m, x ∈ l) : elemsOK sz m = true := by
  unfold elemsOK at *
  rw [List.all_eq_true] at *
  exact fun x hx => h x (hs x hx)
theorem f66_r {l : List (List UInt8)} {s : List UInt8} (hn : l.length ≤ 64) {i : Nat} (hi : i ≤ l.length) (hΓ : ∀ f s, Γ0 f = some s → SpecOK Try.prog f s) : axp Try.prog 0 (navF Try.f66 [1, 1, 1, 1]) (RetX Try.prog [.tmp 4] (InsG (l, s))) ((frame 45 [(0, .data (.list (l.map .str))), (1, .data (.str s)), (5, .data (i64 i))])) ⟨[], 2⟩ := by
  conv => arg 3; whnf
  have hg := ins_good l s i
  have hel := elemsOK_map (f := D.str) (sz := 1) (fun _ => ⟨rfl, rfl⟩) l
  have hml : (l.map D.str).length = l.length := by simp
  generalize l.map D.str = m at *
  have e2 : List.take (m.length - i) (List.drop i m) = List.drop i m := List.take_of_length_le (by simp)
  have h1 : elemsOK 1 (List.take i m) = true := elemsOK_sub hel fun x hx => List.mem_of_mem_take hx
  have h2 : elemsOK 1 (List.drop i m) = true := elemsOK_sub hel fun x hx => List.mem_of_mem_drop hx
  have l1 : (List.take i m).length = i := by rw [List.length_take]; omega
  have l2 : (List.drop i m).length = m.length - i := List.length_drop
  refine axA ?_
  (apply axp_lane3 (nst := false) (nst' := false) [true, false, false, false, true, false, false, true, false, false, false, true] mixedOK hΓ (n1 := 12) (by kernel_rfl) (by kernel_rfl); (focus (dsimp only [List.take_succ_cons, List.take_zero, Array.toList]; (repeat (first | (apply lane3_loud; (focus rfl); (focus rfl); (simp (disch := omega) only [go_sem, ↓reduceIte, ↓lk, dk, Nat.sub_zero, Nat.zero_add, e2, h1, h2, l1, l2, look_upd] <;> with_reducible rfl); (focus (first | (simp (disch := omega) only [go_sem, ↓reduceIte, ↓lk, dk, Nat.sub_zero, Nat.zero_add, e2, h1, h2, l1, l2, look_upd]; done) | (simp (disch := omega) only [go_sem, ↓reduceIte, ↓lk, dk, Nat.sub_zero, Nat.zero_add, e2, h1, h2, l1, l2, look_upd]; omega)))) | (apply lane3_quiet; (simp (disch := omega) only [go_sem, ↓reduceIte, ↓lk, dk, Nat.sub_zero, Nat.zero_add, e2, h1, h2, l1, l2, look_upd] <;> with_reducible rfl)))); exact lane3_nil)); (focus ((repeat' (first | exact True.intro | refine And.intro ?_ ?_)); all_goals (first | (left; decide) | (left; rfl) | (right; simp (disch := omega) only [go_sem, ↓reduceIte, ↓lk, dk, Nat.sub_zero, Nat.zero_add, e2, h1, h2, l1, l2, look_upd]; try with_reducible rfl)))); (simp (disch := omega) only [go_sem, ↓reduceIte, ↓lk, dk, Nat.sub_zero, Nat.zero_add, e2, h1, h2, l1, l2, look_upd] <;> with_reducible rfl))
  have hlen : (List.take i m ++ [D.str s] ++ List.drop i m).length = i + 1 + (m.length - i) := by simp only [List.length_append, List.length_cons, List.length_nil, l1, l2]
  generalize (List.take i m ++ [D.str s] ++ List.drop i m) = r at *
  (repeat (first | (apply axJ; (focus ((with_reducible constructor) <;> rfl))) | ((first | apply axR hΓ | apply axG | apply ovX rfl | apply ovE rfl); (simp (disch := omega) only [go_sem, ↓reduceIte, dk, hlen] <;> with_reducible rfl); exact trivial) | rfl))
  exact hg
theorem f66_ex : ∃ g, PureOK Try.prog 66 false g ∧ ∀ x : List (List UInt8) × List UInt8, x.1.length ≤ 64 → ∃ d, InsG x d ∧ g [.list (x.1.map .str), .str x.2] = some d := by
  have hΓ := Γ0_ok
  refine pure_ex (enc := fun x : List (List UInt8) × List UInt8 => [.list (x.1.map .str), .str x.2]) (dom := fun x => x.1.length ≤ 64) (good := InsG) (n := 45) (rs := [.tmp 4]) Try.func66 (by kernel_rfl) rfl (by kernel_rfl) (by kernel_rfl) (fun a b h => by
    simp only [List.cons.injEq, and_true, D.str.injEq, D.list.injEq] at h
    exact Prod.ext (strs_inj h.1) h.2) ?_
  rintro ⟨l, s⟩ hn
  dsimp only at hn ⊢
  refine ⟨fun h => (by cases h), ?_⟩
  rw [start_frame (by simp)]; simp only [enumV, go_sem, emptyH]
  (repeat (first | (apply axJ; (focus ((with_reducible constructor) <;> rfl))) | ((first | apply axR hΓ | apply axG | apply ovX rfl | apply ovE rfl); (simp (disch := omega) only [go_sem, ↓reduceIte, dk] <;> with_reducible rfl); exact trivial) | rfl))
  refine axp_loop_at (X := Nat) (fun i => (frame 45 [(0, .data (.list (l.map .str))), (1, .data (.str s)), (5, .data (i64 i))])) (fun _ => []) 2
    (fun i => i ≤ l.length) (fun i => l.length - i) 0 (Nat.zero_le _) (Weak.w) ?_
  intro i hi
  by_cases hi2 : i < l.length
  · generalize hy : l[i] = y
    generalize hc1 : Op.bytesLess y s = c1
    generalize hc2 : (y == s) = c2
    cases c1 with
    | true =>
      (repeat (first | (apply axJ; (focus ((with_reducible constructor) <;> rfl))) | ((first | apply axR hΓ | apply axG | apply ovX rfl | apply ovE rfl); (simp (disch := omega) only [go_sem, ↓reduceIte, dk, hy, hc1] <;> with_reducible rfl); exact trivial) | rfl))
      exact ⟨i + 1, by omega, by omega, Weak.w⟩
    | false =>
      cases c2 with
      | true =>
        (repeat (first | (apply axJ; (focus ((with_reducible constructor) <;> rfl))) | ((first | apply axR hΓ | apply axG | apply ovX rfl | apply ovE rfl); (simp (disch := omega) only [go_sem, ↓reduceIte, dk, hy, hc1, hc2] <;> with_reducible rfl); exact trivial) | rfl))
        exact ⟨l, rfl, by dsimp only; omega, fun y hy => .inl hy⟩
      | false =>
        (repeat (first | (refine axA ?_; first | (apply axR hΓ; (simp (disch := omega) only [go_sem, ↓reduceIte, dk, hy, hc1, hc2] <;> with_reducible rfl); exact trivial) | refine axA ?_ | refine axB ?_) | refine axB ?_ | (apply axK; (focus ((with_reducible constructor) <;> rfl))) | ((first | apply axR hΓ | apply axG | apply ovX rfl | apply ovE rfl); (simp (disch := omega) only [go_sem, ↓reduceIte, dk, hy, hc1, hc2] <;> with_reducible rfl); exact trivial) | rfl))
        exact axp_weak (Weak.w) (f66_r hn hi hΓ)
  · (repeat (first | (refine axA ?_; first | (apply axR hΓ; (simp (disch := omega) only [go_sem, ↓reduceIte, dk] <;> with_reducible rfl); exact trivial) | refine axA ?_ | refine axB ?_) | refine axB ?_ | (apply axK; (focus ((with_reducible constructor) <;> rfl))) | ((first | apply axR hΓ | apply axG | apply ovX rfl | apply ovE rfl); (simp (disch := omega) only [go_sem, ↓reduceIte, dk] <;> with_reducible rfl); exact trivial) | rfl))
    exact axp_weak (Weak.w) (f66_r hn hi hΓ)
noncomputable def g66 := f66_ex.choose
theorem f66_ok : PureOK Try.prog 66 false g66 := f66_ex.choose_spec.1
theorem g66_eq {l : List (List UInt8)} {s : List UInt8} (h : l.length ≤ 64) : ∃ l' : List (List UInt8), g66 [.list (l.map .str), .str s] = some (.list (l'.map .str)) ∧ l'.length ≤ l.length + 1 ∧ ∀ y ∈ l', y ∈ l ∨ y = s := by
  obtain ⟨d, ⟨l', rfl, h1, h2⟩, h3⟩ := f66_ex.choose_spec.2 (l, s) h
  exact ⟨l', h3, h1, h2⟩
end Go.Ab
