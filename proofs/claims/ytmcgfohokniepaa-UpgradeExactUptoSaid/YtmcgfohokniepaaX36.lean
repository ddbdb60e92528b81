/-
  One text of the proof (own work): contracts of functions of the program, by the abstract machine.
-/
import Derived.Test.YtmcgfohokniepaaX21
import Derived.Test.YtmcgfohokniepaaX33
import Derived.Test.YtmcgfohokniepaaX35
set_option linter.unusedVariables false
set_option linter.unusedSimpArgs false
namespace Go.Ab
open Go Go.RowKit Go.Proofs
set_option maxRecDepth 4000
set_option maxHeartbeats 40000000
def NsG (l : List Ev) (d : D) : Prop := ∃ (s : SetR) (i n : Int), d = .tup [eSet s, i64 i, i64 n] ∧ i < l.length ∧ (n = 0 → SetOK s ∧ s.l = l ∧ s.ids.Nodup ∧ s.od.Nodup)
noncomputable def Γ70p : FuncId → Option CSpec := fun f => if f = 68 then some (.pure true (g68)) else if f = 69 then some (.pure true (g69)) else if f = 92 then some (.pure true (g92)) else none
theorem Γ70p_ok : ∀ f s, Γ70p f = some s → SpecOK Try.prog f s := by
  intro f s h
  unfold Γ70p at h
  split at h
  · rename_i hf; cases h; subst hf; exact f68_ok
  split at h
  · rename_i hf; cases h; subst hf; exact f69_ok
  split at h
  · rename_i hf; cases h; subst hf; exact f92_ok
  · cases h
noncomputable def Γ70 : FuncId → Option CSpec := fun f => if f = 91 then some (.loc g91) else Γ70p f
theorem Γ70_ok : ∀ f s, Γ70 f = some s → SpecOK Try.prog f s := by
  intro f s h
  unfold Γ70 at h
  split at h
  · rename_i hf; cases h; subst hf; exact f91_ok
  · exact Γ70p_ok f s h
theorem set_swap {α : Type} : ∀ (q : List α) (k : Nat) (h : k + 1 < q.length) (a : α), ((q.set (k + 1) (q[k]'(by omega))).set k a).Perm (q.set (k + 1) a)
  | x :: y :: r, 0, _, a => List.Perm.swap x a r
  | x :: q, k + 1, h, a => (set_swap q k (by simpa using h) a).cons x
theorem f70_d {l : List Ev} {ids : List (List UInt8)} {rk : List Int} {ps : List (List Bool)} (hn : l.length ≤ 64) (hids : ids.length = l.length) (hrk : rk.length = l.length) (hps : ps.length = l.length) (hpss : ∀ p ∈ ps, p.length = l.length) (hev : ∀ e ∈ l, EvOK e) (hnd : ids.Nodup) : axp Try.prog 0 (navF Try.f70 [1, 1, 1, 1, 1, 1, 1]) (RetX Try.prog [.cell 2 122, .tmp 3, .tmp 4] (NsG l)) ((frame 141 [(0, .data (.list (l.map eE))), (2, .ptr 0 0), (5, .ptr 8 0)])) ⟨[(0, .box [.nils, .nils, .nils, .nils, .nils]), (8, .box [.data (.list (l.map eE)), .row 11 l.length, .row 16 l.length, .row 17 l.length, .nils]), (11, .row 9 1 (ids.map .str)), (16, .row 3 1 (rk.map i64)), (17, .row 142 1 (ps.map eB))], 18⟩ := by
  have hΓ := Γ70_ok
  conv => arg 3; whnf
  refine axp_weak (Weak.boxnil (o := 8) (i := 4) 3 (sz := 1) (by omega) rfl rfl) ?_
  refine axp_weak (sl' := (frame 141 [(0, .data (.list (l.map eE))), (2, .ptr 0 0), (5, .ptr 8 0)])) (H' := ⟨[(0, .box [.nils, .nils, .nils, .nils, .nils]), (8, .box [.data (.list (l.map eE)), .row 11 l.length, .row 16 l.length, .row 17 l.length, .row 18 ([] : List Int).length]), (11, .row 9 1 (ids.map .str)), (16, .row 3 1 (rk.map i64)), (17, .row 142 1 (ps.map eB)), (18, .row 3 1 (([] : List Int).map i64))], 19⟩) (Weak.v (by (simp [ConvF, lookV, Conv, ints, upd]; done)) (by (simp (disch := omega) only [TabSub, look, if_pos, if_neg, Obj.refsOK, refsOKs, AV.refsOK, decide_eq_true_eq, Bool.and_true, Bool.and_self, upd] ) <;> ((repeat' apply And.intro) <;> first | exact True.intro | omega | (simp; done) | rfl))) ?_
  (repeat (first | (refine axA ?_; first | (apply axR hΓ; (simp (disch := omega) only [go_sem, ↓reduceIte, dk] <;> with_reducible rfl); exact trivial) | refine axA ?_ | refine axB ?_) | refine axB ?_ | (apply axK; (focus ((with_reducible constructor) <;> rfl))) | ((first | apply axR hΓ | apply axG | apply ovX rfl | apply ovE rfl); (simp (disch := omega) only [go_sem, ↓reduceIte, dk] <;> with_reducible rfl); exact trivial) | rfl))
  refine axp_loop_at (X := Nat × List Int) (fun y => (frame 141 [(0, .data (.list (l.map eE))), (2, .ptr 0 0), (5, .ptr 8 0), (12, .data (i64 y.1))])) (fun y => [(0, .box [.nils, .nils, .nils, .nils, .nils]), (8, .box [.data (.list (l.map eE)), .row 11 l.length, .row 16 l.length, .row 17 l.length, .row 18 y.2.length]), (11, .row 9 1 (ids.map .str)), (16, .row 3 1 (rk.map i64)), (17, .row 142 1 (ps.map eB)), (18, .row 3 1 (y.2.map i64))]) 19
    (fun y => y.1 ≤ l.length ∧ y.2.length = y.1 ∧ (∀ o ∈ y.2, 0 ≤ o ∧ o < y.1) ∧ y.2.Nodup) (fun y => l.length - y.1) (0, []) ⟨Nat.zero_le _, rfl, by simp, by simp⟩ (Weak.w) ?_
  rintro ⟨i, q⟩ ⟨h1, h2, h3, h4⟩
  dsimp only at h1 h2 h3 h4 ⊢
  by_cases hi : i < l.length
  · have a1 : q.map i64 ++ [.int .i64 i] = (q ++ [(i : Int)]).map i64 := by simp
    (repeat (first | (refine axA ?_; first | (apply axR hΓ; (simp (disch := omega) only [go_sem, ↓reduceIte, ↓lk, dk, a1] <;> with_reducible rfl); exact trivial) | refine axA ?_ | refine axB ?_) | refine axB ?_ | (apply axK; (focus ((with_reducible constructor) <;> rfl))) | ((first | apply axR hΓ | apply axG | apply ovX rfl | apply ovE rfl); (simp (disch := omega) only [go_sem, ↓reduceIte, ↓lk, dk, a1] <;> with_reducible rfl); exact trivial) | rfl))
    refine axp_loop_at (X := Nat × List Int) (fun y => (frame 141 [(0, .data (.list (l.map eE))), (2, .ptr 0 0), (5, .ptr 8 0), (12, .data (i64 i)), (13, .data (i64 y.1))])) (fun y => [(0, .box [.nils, .nils, .nils, .nils, .nils]), (8, .box [.data (.list (l.map eE)), .row 11 l.length, .row 16 l.length, .row 17 l.length, .row 18 y.2.length]), (11, .row 9 1 (ids.map .str)), (16, .row 3 1 (rk.map i64)), (17, .row 142 1 (ps.map eB)), (18, .row 3 1 (y.2.map i64))]) 19
      (fun y => y.1 < y.2.length ∧ y.2.length = i + 1 ∧ (∀ o ∈ y.2, 0 ≤ o ∧ o < (i + 1 : Nat)) ∧ (y.2.set y.1 i).Perm (q ++ [(i : Int)])) (fun y => y.1) (q.length, q ++ [(i : Int)]) ⟨by simp, by simp [h2], fun o ho => (List.mem_append.1 ho).elim (fun h => ⟨(h3 o h).1, by have := (h3 o h).2; omega⟩) (fun h => by rw [List.mem_singleton.1 h]; omega), by simp⟩ (Weak.v (by (simp [ConvF, lookV, Conv, ints, List.length_append, List.length_cons, List.length_nil]; done)) (by (simp (disch := omega) only [TabSub, look, if_pos, if_neg, Obj.refsOK, refsOKs, AV.refsOK, decide_eq_true_eq, Bool.and_true, Bool.and_self, List.length_append, List.length_cons, List.length_nil] ) <;> ((repeat' apply And.intro) <;> first | exact True.intro | omega | (simp; done) | rfl))) ?_
    rintro ⟨k, t⟩ ⟨j1, j2, j3, j4⟩
    dsimp only at j1 j2 j3 j4 ⊢
    have hnew : ∀ k2, k2 < t.length → (∀ o ∈ t.set k2 (i : Int), 0 ≤ o ∧ o < ((i + 1 : Nat) : Int)) := fun k2 hk2 o ho => (List.mem_or_eq_of_mem_set ho).elim (j3 o) (fun h => by subst h; omega)
    have hq : (q ++ [(i : Int)]).Nodup := List.nodup_append.2 ⟨h4, by simp, fun a ha b hb => by
      have := h3 a ha
      rw [List.mem_singleton.1 hb]
      omega⟩
    rcases k with _ | k
    · (repeat (first | (refine axA ?_; first | (apply axR hΓ; (simp (disch := omega) only [go_sem, ↓reduceIte, dk] <;> with_reducible rfl); exact trivial) | refine axA ?_ | refine axB ?_) | refine axB ?_ | (apply axK; (focus ((with_reducible constructor) <;> rfl))) | ((first | apply axR hΓ | apply axG | apply ovX rfl | apply ovE rfl); (simp (disch := omega) only [go_sem, ↓reduceIte, dk] <;> with_reducible rfl); exact trivial) | rfl))
      (apply axp_regf mixedOK hΓ (by kernel_rfl); (simp (disch := omega) only [go_sem, ↓reduceIte, dk] <;> with_reducible rfl); (simp only [go_sem] <;> with_reducible rfl))
      (repeat (first | (apply axJ; (focus ((with_reducible constructor) <;> rfl))) | ((first | apply axR hΓ | apply axG | apply ovX rfl | apply ovE rfl); (simp (disch := omega) only [go_sem, ↓reduceIte, dk, set_i64] <;> with_reducible rfl); exact trivial) | rfl))
      exact ⟨(i + 1, t.set 0 (i : Int)), ⟨by dsimp only; omega, by dsimp only; rw [List.length_set]; omega, hnew 0 (by omega), j4.nodup_iff.2 hq⟩, by dsimp only; omega, Weak.v (by (simp [ConvF, lookV, Conv, ints, List.length_set]; done)) (by (simp (disch := omega) only [TabSub, look, if_pos, if_neg, Obj.refsOK, refsOKs, AV.refsOK, decide_eq_true_eq, Bool.and_true, Bool.and_self, List.length_set] ) <;> ((repeat' apply And.intro) <;> first | exact True.intro | omega | (simp; done) | rfl))⟩
    · have hk : k < t.length := by omega
      have hky := j3 _ (List.getElem_mem hk)
      have hsw := set_swap t k j1 (i : Int)
      generalize hty : t[k] = y at hky hsw
      have hk1 : ((k + 1 : Nat) : Int) - 1 = k := by omega
      obtain ⟨b, e92⟩ := g92_eq (s := ⟨l, ids, rk, ps, t⟩) (i := i) (k := y) ⟨by omega, by omega, by dsimp only; omega, by dsimp only; omega, by dsimp only; omega, by dsimp only; omega, by dsimp only; omega, by dsimp only; omega⟩
      unfold eSet at e92
      dsimp only at e92
      (repeat (first | (refine axA ?_; first | (apply axR hΓ; (simp (disch := omega) only [go_sem, ↓reduceIte, dk] <;> with_reducible rfl); exact trivial) | refine axA ?_ | refine axB ?_) | refine axB ?_ | (apply axK; (focus ((with_reducible constructor) <;> rfl))) | ((first | apply axR hΓ | apply axG | apply ovX rfl | apply ovE rfl); (simp (disch := omega) only [go_sem, ↓reduceIte, dk] <;> with_reducible rfl); exact trivial) | rfl))
      cases b with
      | true =>
        (apply axp_regf mixedOK hΓ (by kernel_rfl); (simp (disch := omega) only [go_sem, ↓reduceIte, dk, hk1, hty, Γ70, Γ70p, e92] <;> with_reducible rfl); (simp only [go_sem] <;> with_reducible rfl))
        (repeat (first | (refine axA ?_; first | (apply axR hΓ; (simp (disch := omega) only [go_sem, ↓reduceIte, dk] <;> with_reducible rfl); exact trivial) | refine axA ?_ | refine axB ?_) | refine axB ?_ | (apply axK; (focus ((with_reducible constructor) <;> rfl))) | ((first | apply axR hΓ | apply axG | apply ovX rfl | apply ovE rfl); (simp (disch := omega) only [go_sem, ↓reduceIte, dk] <;> with_reducible rfl); exact trivial) | rfl))
        refine axA ?_
        (apply axp_regt mixedOK hΓ rfl; (focus kernel_rfl); (simp (disch := omega) only [go_sem, ↓reduceIte, dk, hk1, hty, set_i64] <;> with_reducible rfl); (simp only [go_sem] <;> with_reducible rfl); (simp (disch := omega) only [go_sem, ↓reduceIte, dk, hk1, hty, set_i64] <;> with_reducible rfl))
        (repeat (first | (apply axJ; (focus ((with_reducible constructor) <;> rfl))) | ((first | apply axR hΓ | apply axG | apply ovX rfl | apply ovE rfl); (simp (disch := omega) only [go_sem, ↓reduceIte, dk, hk1] <;> with_reducible rfl); exact trivial) | rfl))
        exact ⟨(k, t.set (k + 1) y), ⟨by dsimp only; rw [List.length_set]; omega, by dsimp only; rw [List.length_set]; omega, fun o ho => (List.mem_or_eq_of_mem_set ho).elim (j3 o) (fun h => by subst h; exact hky), hsw.trans j4⟩, by dsimp only; omega, Weak.v (by (simp [ConvF, lookV, Conv, ints, List.length_set]; done)) (by (simp (disch := omega) only [TabSub, look, if_pos, if_neg, Obj.refsOK, refsOKs, AV.refsOK, decide_eq_true_eq, Bool.and_true, Bool.and_self, List.length_set] ) <;> ((repeat' apply And.intro) <;> first | exact True.intro | omega | (simp; done) | rfl))⟩
      | false =>
        (apply axp_regf mixedOK hΓ (by kernel_rfl); (simp (disch := omega) only [go_sem, ↓reduceIte, dk, hk1, hty, Γ70, Γ70p, e92] <;> with_reducible rfl); (simp only [go_sem] <;> with_reducible rfl))
        (repeat (first | (apply axJ; (focus ((with_reducible constructor) <;> rfl))) | ((first | apply axR hΓ | apply axG | apply ovX rfl | apply ovE rfl); (simp (disch := omega) only [go_sem, ↓reduceIte, dk, set_i64] <;> with_reducible rfl); exact trivial) | rfl))
        exact ⟨(i + 1, t.set (k + 1) (i : Int)), ⟨by dsimp only; omega, by dsimp only; rw [List.length_set]; omega, hnew (k + 1) (by omega), j4.nodup_iff.2 hq⟩, by dsimp only; omega, Weak.v (by (simp [ConvF, lookV, Conv, ints, List.length_set]; done)) (by (simp (disch := omega) only [TabSub, look, if_pos, if_neg, Obj.refsOK, refsOKs, AV.refsOK, decide_eq_true_eq, Bool.and_true, Bool.and_self, List.length_set] ) <;> ((repeat' apply And.intro) <;> first | exact True.intro | omega | (simp; done) | rfl))⟩
  · have hil : i = l.length := by omega
    (repeat (first | (apply axJ; (focus ((with_reducible constructor) <;> rfl))) | ((first | apply axR hΓ | apply axG | apply ovX rfl | apply ovE rfl); (simp (disch := omega) only [go_sem, ↓reduceIte, dk] <;> with_reducible rfl); exact trivial) | rfl))
    exact ⟨⟨l, ids, rk, ps, q⟩, -1, 0, rfl, by omega, fun _ => ⟨⟨hn, hids, hrk, hps, hpss, hev, by dsimp only; omega, by rw [← hil]; exact h3⟩, rfl, hnd, h4⟩⟩
theorem f70_c {l : List Ev} {ids : List (List UInt8)} (hn : l.length ≤ 64) (hids : ids.length = l.length) (hev : ∀ e ∈ l, EvOK e) (hnd : ids.Nodup) : axp Try.prog 0 (navF Try.f70 [1, 1, 1, 1, 1]) (RetX Try.prog [.cell 2 122, .tmp 3, .tmp 4] (NsG l)) ((frame 141 [(0, .data (.list (l.map eE))), (2, .ptr 0 0), (5, .ptr 8 0)])) ⟨[(0, .box [.nils, .nils, .nils, .nils, .nils]), (8, .box [.data (.list (l.map eE)), .row 11 l.length, .nils, .nils, .nils]), (11, .row 9 1 (ids.map .str))], 12⟩ := by
  have hΓ := Γ70_ok
  conv => arg 3; whnf
  have herr : ∀ (j n : Int), j < l.length → n ≠ 0 → NsG l (.tup [.agg [.list [], .list [], .list [], .list [], .list []], i64 j, i64 n]) := fun j n h1 h2 => ⟨⟨[], [], [], [], []⟩, j, n, rfl, h1, fun h => absurd h h2⟩
  (repeat (first | (refine axA ?_; first | (apply axR hΓ; (simp (disch := omega) only [go_sem, ↓reduceIte, dk] <;> with_reducible rfl); exact trivial) | refine axA ?_ | refine axB ?_) | refine axB ?_ | (apply axK; (focus ((with_reducible constructor) <;> rfl))) | ((first | apply axR hΓ | apply axG | apply ovX rfl | apply ovE rfl); (simp (disch := omega) only [go_sem, ↓reduceIte, dk] <;> with_reducible rfl); exact trivial) | rfl))
  refine axp_loop_at (X := Nat) (fun i => (frame 141 [(0, .data (.list (l.map eE))), (2, .ptr 0 0), (5, .ptr 8 0), (10, .data (i64 i))])) (fun _ => [(0, .box [.nils, .nils, .nils, .nils, .nils]), (8, .box [.data (.list (l.map eE)), .row 11 l.length, .nils, .nils, .nils]), (11, .row 9 1 (ids.map .str))]) 12
    (fun i => i ≤ l.length ∧ ∀ k (hk : k < l.length), k < i → ∀ s ∈ (l[k]).ns, 0 ≤ fnd ids s) (fun i => l.length - i) 0 ⟨Nat.zero_le _, fun k _ h => absurd h (by omega)⟩ (Weak.w) ?_
  rintro i ⟨h1, h2⟩
  by_cases hi : i < l.length
  · have hy := hev _ (List.getElem_mem hi)
    have h2' : ∀ e : Ev, l[i] = e → (∀ s ∈ e.ns, 0 ≤ fnd ids s) → ∀ k (hk : k < l.length), k < i + 1 → ∀ s ∈ (l[k]).ns, 0 ≤ fnd ids s := fun e he hs k hk hk1 s hsm => by
      by_cases hki : k < i
      · exact h2 k hk hki s hsm
      · have : k = i := by omega
        subst this
        rw [he] at hsm
        exact hs s hsm
    generalize hye : l[i] = e at hy
    have h2e := h2' e hye
    have hns := hy.ns
    (repeat (first | (refine axA ?_; first | (apply axR hΓ; (simp (disch := omega) only [go_sem, ↓reduceIte, dk] <;> with_reducible rfl); exact trivial) | refine axA ?_ | refine axB ?_) | refine axB ?_ | (apply axK; (focus ((with_reducible constructor) <;> rfl))) | ((first | apply axR hΓ | apply axG | apply ovX rfl | apply ovE rfl); (simp (disch := omega) only [go_sem, ↓reduceIte, dk] <;> with_reducible rfl); exact trivial) | rfl))
    refine axp_loop_at (X := Nat) (fun j => (frame 141 [(0, .data (.list (l.map eE))), (2, .ptr 0 0), (5, .ptr 8 0), (10, .data (i64 i)), (11, .data (i64 j))])) (fun _ => [(0, .box [.nils, .nils, .nils, .nils, .nils]), (8, .box [.data (.list (l.map eE)), .row 11 l.length, .nils, .nils, .nils]), (11, .row 9 1 (ids.map .str))]) 12
      (fun j => j ≤ e.ns.length ∧ ∀ k (hk : k < e.ns.length), k < j → 0 ≤ fnd ids (e.ns[k])) (fun j => e.ns.length - j) 0 ⟨Nat.zero_le _, fun k _ h => absurd h (by omega)⟩ (Weak.w) ?_
    rintro j ⟨j1, j2⟩
    by_cases hj : j < e.ns.length
    · generalize hs : e.ns[j] = s
      have e69 := g69_eq (l := ids) (s := s) (by omega)
      have j2' : 0 ≤ fnd ids s → ∀ k (hk : k < e.ns.length), k < j + 1 → 0 ≤ fnd ids (e.ns[k]) := fun hf k hk hk1 => by
        by_cases hkj : k < j
        · exact j2 k hk hkj
        · have : k = j := by omega
          subst this
          rw [hs]
          exact hf
      generalize fnd ids s = f at e69 j2'
      (repeat (first | (refine axA ?_; first | (apply axR hΓ; (simp (disch := omega) only [go_sem, ↓reduceIte, dk, hye, eE] <;> with_reducible rfl); exact trivial) | refine axA ?_ | refine axB ?_) | refine axB ?_ | (apply axK; (focus ((with_reducible constructor) <;> rfl))) | ((first | apply axR hΓ | apply axG | apply ovX rfl | apply ovE rfl); (simp (disch := omega) only [go_sem, ↓reduceIte, dk, hye, eE] <;> with_reducible rfl); exact trivial) | rfl))
      refine axA ?_
      (apply axp_regf mixedOK hΓ (by kernel_rfl); (simp (disch := omega) only [go_sem, ↓reduceIte, dk, hye, eE, hs, Γ70, Γ70p, e69] <;> with_reducible rfl); (simp only [go_sem] <;> with_reducible rfl))
      by_cases hf : f < 0
      · (repeat (first | (apply axJ; (focus ((with_reducible constructor) <;> rfl))) | ((first | apply axR hΓ | apply axG | apply ovX rfl | apply ovE rfl); (simp (disch := omega) only [go_sem, ↓reduceIte, ↓lk, ↓ty_build122, dk] <;> with_reducible rfl); exact trivial) | rfl))
        exact herr _ _ (by omega) (by omega)
      · (repeat (first | (apply axJ; (focus ((with_reducible constructor) <;> rfl))) | ((first | apply axR hΓ | apply axG | apply ovX rfl | apply ovE rfl); (simp (disch := omega) only [go_sem, ↓reduceIte, dk] <;> with_reducible rfl); exact trivial) | rfl))
        exact ⟨j + 1, ⟨by omega, j2' (by omega)⟩, by omega, Weak.w⟩
    · (repeat (first | (apply axJ; (focus ((with_reducible constructor) <;> rfl))) | ((first | apply axR hΓ | apply axG | apply ovX rfl | apply ovE rfl); (simp (disch := omega) only [go_sem, ↓reduceIte, dk, hye, eE] <;> with_reducible rfl); exact trivial) | rfl))
      exact ⟨i + 1, ⟨by omega, h2e fun s hsm => by
        obtain ⟨k, hk, rfl⟩ := List.getElem_of_mem hsm
        exact j2 k hk (by omega)⟩, by omega, Weak.w⟩
  refine axA ?_
  refine axA ?_
  (repeat (first | refine axB ?_ | (apply axK; (focus ((with_reducible constructor) <;> rfl))) | ((first | apply axR hΓ | apply axG | apply ovX rfl | apply ovE rfl); (simp (disch := omega) only [go_sem, ↓reduceIte, dk] <;> with_reducible rfl); exact trivial) | rfl))
  have hall : ∀ e ∈ l, ∀ s ∈ e.ns, 0 ≤ fnd ids s := fun e he s hsm => by
    obtain ⟨k, hk, rfl⟩ := List.getElem_of_mem he
    exact h2 k hk (by omega) s hsm
  obtain ⟨b, rk, ps, e91, k1, k2, k3⟩ := g91_eq (x := ⟨l, ids⟩) ⟨hn, hids, hev, hall⟩
  unfold raO rdO at e91
  dsimp only at e91 k1 k2 k3
  have hcall : ∀ n, callLoc 16 ⟨[(0, .box [.nils, .nils, .nils, .nils, .nils]), (8, .box [.data (.list (l.map eE)), .row 11 l.length, .nils, .nils, .nils]), (11, .row 9 1 (ids.map .str))], n⟩ g91 [.ptr 8 0] = some (.data (.bool b), ⟨[(0, .box [.nils, .nils, .nils, .nils, .nils]), (8, .box [.data (.list (l.map eE)), .row 11 l.length, .row 16 l.length, .row 17 l.length, .nils]), (11, .row 9 1 (ids.map .str)), (16, .row 3 1 (rk.map i64)), (17, .row 142 1 (ps.map eB))], 18⟩) := fun n => (callLoc_of (fp := [8, 11]) rfl rfl rfl e91 (by simp)).trans rfl
  refine axA ?_
  refine axA ?_
  cases b with
  | false =>
    (repeat (first | (apply axJ; (focus ((with_reducible constructor) <;> rfl))) | ((first | apply axR hΓ | apply axG | apply ovX rfl | apply ovE rfl); (simp (disch := omega) only [go_sem, ↓reduceIte, ↓lk, ↓ty_build122, dk, Γ70, hcall] <;> with_reducible rfl); exact trivial) | rfl))
    exact herr _ _ (by omega) (by omega)
  | true =>
    (repeat (first | refine axB ?_ | (apply axK; (focus ((with_reducible constructor) <;> rfl))) | ((first | apply axR hΓ | apply axG | apply ovX rfl | apply ovE rfl); (simp (disch := omega) only [go_sem, ↓reduceIte, dk, Γ70, hcall] <;> with_reducible rfl); exact trivial) | rfl))
    exact axp_weak (Weak.w) (f70_d hn hids k1 k2 k3 hev hnd)
theorem fnd_le {l : List (List UInt8)} {s : List UInt8} {i : Nat} (hi : i < l.length) (h : l[i] = s) : fnd l s ≤ i := by
  unfold fnd
  split
  · rename_i k hk
    obtain ⟨hkl, h1, h2⟩ := List.findIdx?_eq_some_iff_getElem.1 hk
    have : ¬ i < k := fun hik => h2 i hik (by simp [h])
    omega
  · omega
theorem nodup_fnd {ids : List (List UInt8)} (h : ∀ k (hk : k < ids.length), ¬ fnd ids (ids[k]) < k) : ids.Nodup := List.pairwise_iff_getElem.2 fun i j hi hj hij he => by
  have h1 := h j hj
  have h2 := fnd_le hi he
  omega
theorem f70_b {l : List Ev} {ids : List (List UInt8)} (hn : l.length ≤ 64) (hids : ids.length = l.length) (hev : ∀ e ∈ l, EvOK e) : axp Try.prog 0 (navF Try.f70 [1, 1, 1, 1]) (RetX Try.prog [.cell 2 122, .tmp 3, .tmp 4] (NsG l)) ((frame 141 [(0, .data (.list (l.map eE))), (2, .ptr 0 0), (5, .ptr 8 0)])) ⟨[(0, .box [.nils, .nils, .nils, .nils, .nils]), (8, .box [.data (.list (l.map eE)), .row 11 l.length, .nils, .nils, .nils]), (11, .row 9 1 (ids.map .str))], 12⟩ := by
  have hΓ := Γ70_ok
  conv => arg 3; whnf
  have herr : ∀ (j n : Int), j < l.length → n ≠ 0 → NsG l (.tup [.agg [.list [], .list [], .list [], .list [], .list []], i64 j, i64 n]) := fun j n h1 h2 => ⟨⟨[], [], [], [], []⟩, j, n, rfl, h1, fun h => absurd h h2⟩
  (repeat (first | (refine axA ?_; first | (apply axR hΓ; (simp (disch := omega) only [go_sem, ↓reduceIte, dk] <;> with_reducible rfl); exact trivial) | refine axA ?_ | refine axB ?_) | refine axB ?_ | (apply axK; (focus ((with_reducible constructor) <;> rfl))) | ((first | apply axR hΓ | apply axG | apply ovX rfl | apply ovE rfl); (simp (disch := omega) only [go_sem, ↓reduceIte, dk] <;> with_reducible rfl); exact trivial) | rfl))
  refine axp_loop_at (X := Nat) (fun i => (frame 141 [(0, .data (.list (l.map eE))), (2, .ptr 0 0), (5, .ptr 8 0), (9, .data (i64 i))])) (fun _ => [(0, .box [.nils, .nils, .nils, .nils, .nils]), (8, .box [.data (.list (l.map eE)), .row 11 l.length, .nils, .nils, .nils]), (11, .row 9 1 (ids.map .str))]) 12
    (fun i => i ≤ l.length ∧ ∀ k (hk : k < ids.length), k < i → ¬ fnd ids (ids[k]) < k) (fun i => l.length - i) 0 ⟨Nat.zero_le _, fun k _ h => absurd h (by omega)⟩ (Weak.w) ?_
  rintro i ⟨h1, h2⟩
  by_cases hi : i < l.length
  · have hii : i < ids.length := by omega
    generalize hs : ids[i] = s
    have e69 := g69_eq (l := ids) (s := s) (by omega)
    have h2' : ¬ fnd ids s < i → ∀ k (hk : k < ids.length), k < i + 1 → ¬ fnd ids (ids[k]) < k := fun hf k hk hk1 => by
      by_cases hki : k < i
      · exact h2 k hk hki
      · have : k = i := by omega
        subst this
        rw [hs]
        exact hf
    generalize fnd ids s = f at e69 h2'
    (repeat (first | (refine axA ?_; first | (apply axR hΓ; (simp (disch := omega) only [go_sem, ↓reduceIte, dk] <;> with_reducible rfl); exact trivial) | refine axA ?_ | refine axB ?_) | refine axB ?_ | (apply axK; (focus ((with_reducible constructor) <;> rfl))) | ((first | apply axR hΓ | apply axG | apply ovX rfl | apply ovE rfl); (simp (disch := omega) only [go_sem, ↓reduceIte, dk] <;> with_reducible rfl); exact trivial) | rfl))
    refine axA ?_
    (apply axp_regf mixedOK hΓ (by kernel_rfl); (simp (disch := omega) only [go_sem, ↓reduceIte, dk, hs, Γ70, Γ70p, e69] <;> with_reducible rfl); (simp only [go_sem] <;> with_reducible rfl))
    by_cases hf : f < i
    · (repeat (first | (apply axJ; (focus ((with_reducible constructor) <;> rfl))) | ((first | apply axR hΓ | apply axG | apply ovX rfl | apply ovE rfl); (simp (disch := omega) only [go_sem, ↓reduceIte, ↓lk, ↓ty_build122, dk] <;> with_reducible rfl); exact trivial) | rfl))
      exact herr _ _ (by omega) (by omega)
    · (repeat (first | (apply axJ; (focus ((with_reducible constructor) <;> rfl))) | ((first | apply axR hΓ | apply axG | apply ovX rfl | apply ovE rfl); (simp (disch := omega) only [go_sem, ↓reduceIte, dk] <;> with_reducible rfl); exact trivial) | rfl))
      exact ⟨i + 1, ⟨by omega, h2' hf⟩, by omega, Weak.w⟩
  refine axA ?_
  refine axA ?_
  (repeat (first | refine axB ?_ | (apply axK; (focus ((with_reducible constructor) <;> rfl))) | ((first | apply axR hΓ | apply axG | apply ovX rfl | apply ovE rfl); (simp (disch := omega) only [go_sem, ↓reduceIte, dk] <;> with_reducible rfl); exact trivial) | rfl))
  exact axp_weak (Weak.w) (f70_c hn hids hev (nodup_fnd fun k hk => h2 k hk (by omega)))
theorem f70_ex : ∃ g, PureOK Try.prog 70 false g ∧ ∀ l : List Ev, l.length ≤ 64 ∧ (∀ e ∈ l, EvOK e) → ∃ d, NsG l d ∧ g [.list (l.map eE)] = some d := by
  have hΓ := Γ70_ok
  refine pure_ex (enc := fun l : List Ev => [.list (l.map eE)]) (dom := fun l => l.length ≤ 64 ∧ ∀ e ∈ l, EvOK e) (good := NsG) (n := 141) (rs := [.cell 2 122, .tmp 3, .tmp 4]) Try.func70 (by kernel_rfl) rfl (by kernel_rfl) (by kernel_rfl) (fun a b h => by
    simp only [List.cons.injEq, and_true, D.list.injEq] at h
    exact dmap_inj eE_inj h) ?_
  rintro l ⟨hn, hev⟩
  refine ⟨fun h => (by cases h), ?_⟩
  have herr : ∀ (j n : Int), j < l.length → n ≠ 0 → NsG l (.tup [.agg [.list [], .list [], .list [], .list [], .list []], i64 j, i64 n]) := fun j n h1 h2 => ⟨⟨[], [], [], [], []⟩, j, n, rfl, h1, fun h => absurd h h2⟩
  rw [start_frame (by simp)]; simp only [enumV, go_sem, emptyH]
  (repeat (first | (refine axA ?_; first | (apply axR hΓ; (simp (disch := omega) only [go_sem, ↓reduceIte, ↓lk, ↓ty_build122, dk] <;> with_reducible rfl); exact trivial) | refine axA ?_ | refine axB ?_) | refine axB ?_ | (apply axK; (focus ((with_reducible constructor) <;> rfl))) | ((first | apply axR hΓ | apply axG | apply ovX rfl | apply ovE rfl); (simp (disch := omega) only [go_sem, ↓reduceIte, ↓lk, ↓ty_build122, dk] <;> with_reducible rfl); exact trivial) | rfl))
  refine axp_weak (Weak.boxnil (o := 8) (i := 1) 9 (sz := 1) (by omega) rfl rfl) ?_
  refine axp_loop_at (X := List (List UInt8)) (fun ids => (frame 141 [(0, .data (.list (l.map eE))), (2, .ptr 0 0), (5, .ptr 8 0), (6, .data (i64 ids.length))])) (fun ids => [(0, .box [.nils, .nils, .nils, .nils, .nils]), (8, .box [.data (.list (l.map eE)), .row 11 ids.length, .nils, .nils, .nils]), (11, .row 9 1 (ids.map .str))]) 12
    (fun ids => ids.length ≤ l.length) (fun ids => l.length - ids.length) [] (Nat.zero_le _) (Weak.v (by (simp [ConvF, lookV, Conv, ints, upd]; done)) (by (simp (disch := omega) only [TabSub, look, if_pos, if_neg, Obj.refsOK, refsOKs, AV.refsOK, decide_eq_true_eq, Bool.and_true, Bool.and_self, upd] ) <;> ((repeat' apply And.intro) <;> first | exact True.intro | omega | (simp; done) | rfl))) ?_
  intro ids hi
  by_cases hi2 : ids.length < l.length
  · have hy := hev _ (List.getElem_mem hi2)
    generalize hye : l[ids.length] = e at hy
    obtain ⟨s, r, e68, hs⟩ := g68_eq hy
    rw [eE_eq e] at e68
    have a1 : ids.map D.str ++ [.str s] = (ids ++ [s]).map D.str := by simp
    generalize hr : (r != 0) = c
    cases c with
    | true =>
      (repeat (first | (apply axJ; (focus ((with_reducible constructor) <;> rfl))) | ((first | apply axR hΓ | apply axG | apply ovX rfl | apply ovE rfl); (simp (disch := omega) only [go_sem, ↓reduceIte, ↓lk, ↓ty_build122, dk, hye, eE, Γ70, Γ70p, e68, hr] <;> with_reducible rfl); exact trivial) | rfl))
      exact herr _ _ (by omega) (by omega)
    | false =>
      (repeat (first | (apply axJ; (focus ((with_reducible constructor) <;> rfl))) | ((first | apply axR hΓ | apply axG | apply ovX rfl | apply ovE rfl); (simp (disch := omega) only [go_sem, ↓reduceIte, ↓lk, dk, hye, eE, Γ70, Γ70p, e68, hr, a1] <;> with_reducible rfl); exact trivial) | rfl))
      exact ⟨ids ++ [s], by rw [List.length_append]; simp only [List.length_cons, List.length_nil]; omega, by rw [List.length_append]; simp only [List.length_cons, List.length_nil]; omega, Weak.v (by (simp [ConvF, lookV, Conv, ints, List.length_append, List.length_cons, List.length_nil]; done)) (by (simp (disch := omega) only [TabSub, look, if_pos, if_neg, Obj.refsOK, refsOKs, AV.refsOK, decide_eq_true_eq, Bool.and_true, Bool.and_self, List.length_append, List.length_cons, List.length_nil] ) <;> ((repeat' apply And.intro) <;> first | exact True.intro | omega | (simp; done) | rfl))⟩
  have hil : ids.length = l.length := by omega
  refine axA ?_
  refine axA ?_
  (repeat (first | refine axB ?_ | (apply axK; (focus ((with_reducible constructor) <;> rfl))) | ((first | apply axR hΓ | apply axG | apply ovX rfl | apply ovE rfl); (simp (disch := omega) only [go_sem, ↓reduceIte, dk] <;> with_reducible rfl); exact trivial) | rfl))
  exact axp_weak (Weak.v (by (simp [ConvF, lookV, Conv, ints, hil]; done)) (by (simp (disch := omega) only [TabSub, look, if_pos, if_neg, Obj.refsOK, refsOKs, AV.refsOK, decide_eq_true_eq, Bool.and_true, Bool.and_self, hil] ) <;> ((repeat' apply And.intro) <;> first | exact True.intro | omega | (simp; done) | rfl))) (f70_b hn hil hev)
noncomputable def g70 := f70_ex.choose
theorem f70_ok : PureOK Try.prog 70 false g70 := f70_ex.choose_spec.1
theorem g70_eq {l : List Ev} (h : l.length ≤ 64) (h2 : ∀ e ∈ l, EvOK e) : ∃ (s : SetR) (i n : Int), g70 [.list (l.map eE)] = some (.tup [eSet s, i64 i, i64 n]) ∧ i < l.length ∧ (n = 0 → SetOK s ∧ s.l = l ∧ s.ids.Nodup ∧ s.od.Nodup) := by
  obtain ⟨d, ⟨s, i, n, rfl, h3, h4⟩, h5⟩ := f70_ex.choose_spec.2 l ⟨h, h2⟩
  exact ⟨s, i, n, h5, h3, h4⟩
end Go.Ab
