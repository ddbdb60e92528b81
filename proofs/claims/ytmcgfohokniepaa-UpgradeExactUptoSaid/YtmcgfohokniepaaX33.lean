/-
  One text of the proof (own work): contracts of functions of the program, by the abstract machine.
-/
import Derived.Test.YtmcgfohokniepaaX21
import Derived.Test.YtmcgfohokniepaaX32
import Derived.Test.YtmcgfohokniepaaX18
import Derived.Test.YtmcgfohokniepaaX19
set_option linter.unusedVariables false
set_option linter.unusedSimpArgs false
namespace Go.Ab
open Go Go.RowKit Go.Proofs
set_option maxRecDepth 4000
set_option maxHeartbeats 40000000
theorem set_i64 (l : List Int) (i : Nat) (r : Int) : (l.map i64).set i (.int .i64 r) = (l.set i r).map i64 := by rw [List.map_set]
theorem set_bool (l : List Bool) (i : Nat) (r : Bool) : (l.map D.bool).set i (.bool r) = (l.set i r).map D.bool := by rw [List.map_set]
theorem set_eB (l : List (List Bool)) (i : Nat) (r : List Bool) : (l.map eB).set i (.list (r.map .bool)) = (l.set i r).map eB := by rw [List.map_set]; rfl
structure RdX where
  l : List Ev
  ids : List (List UInt8)
  rk : List Int
  ps : List (List Bool)
structure RdOK (x : RdX) : Prop where
  n : x.l.length ≤ 64
  ids : x.ids.length = x.l.length
  rk : x.rk.length = x.l.length
  ps : x.ps.length = x.l.length
  pss : ∀ p ∈ x.ps, p.length = x.l.length
  ev : ∀ e ∈ x.l, EvOK e
  f : ∀ e ∈ x.l, ∀ s ∈ e.ns, 0 ≤ fnd x.ids s
def rdO (x : RdX) : List Obj := [.box [.data (.list (x.l.map eE)), .row 1 x.l.length, .row 2 x.l.length, .row 3 x.l.length, .nils], .row 9 1 (x.ids.map .str), .row 3 1 (x.rk.map i64), .row 142 1 (x.ps.map eB)]
theorem rdO_inj (x y : RdX) (h : rdO x = rdO y) : x = y := by
  obtain ⟨a1, a2, a3, a4⟩ := x
  obtain ⟨b1, b2, b3, b4⟩ := y
  simp only [rdO, List.cons.injEq, Obj.box.injEq, Obj.row.injEq, AV.data.injEq, D.list.injEq, true_and, and_true] at h
  obtain ⟨⟨h1, _⟩, h2, h3, h4⟩ := h
  rw [dmap_inj eE_inj h1, strs_inj h2, ints_inj h3, dmap_inj eB_inj h4]
def RdG (x : RdX) (r : AV) (os : List Obj) : Prop := ∃ (b : Bool) (rk : List Int) (ps : List (List Bool)), r = .data (.bool b) ∧ os = rdO ⟨x.l, x.ids, rk, ps⟩ ∧ rk.length = x.l.length ∧ ps.length = x.l.length ∧ ∀ p ∈ ps, p.length = x.l.length
noncomputable def Γ120 : FuncId → Option CSpec := fun f => if f = 69 then some (.pure true (g69)) else none
theorem Γ120_ok : ∀ f s, Γ120 f = some s → SpecOK Try.prog f s := by
  intro f s h
  unfold Γ120 at h
  split at h
  · rename_i hf; cases h; subst hf; exact f69_ok
  · cases h
theorem f120_end {x : RdX} (hz : RdOK x) {i : Nat} (hi : i < x.l.length) (rank : Int) (p : List Bool) (hp : p.length = x.l.length) : axp Try.prog 4 (navF Try.f120 [1, 1, 1, 1]) (RetLX Try.prog [.tmp 4] 4 (RdG x)) ((frame 105 [(0, .ptr 0 0), (1, .data (i64 i)), (5, .data (i64 rank)), (6, .data (.list (p.map .bool)))])) ⟨[(0, .box [.data (.list (x.l.map eE)), .row 1 x.l.length, .row 2 x.l.length, .row 3 x.l.length, .nils]), (1, .row 9 1 (x.ids.map .str)), (2, .row 3 1 (x.rk.map i64)), (3, .row 142 1 (x.ps.map eB))], 4⟩ := by
  have hΓ := Γ120_ok
  obtain ⟨z1, z2, z3, z4, z5, z6, z7⟩ := hz
  conv => arg 3; whnf
  refine axA ?_
  (apply axp_regm (nst := false) (nst' := false) 13 mixedOK hΓ (by kernel_rfl); (simp (disch := omega) only [go_sem, ↓reduceIte, dk, eB, set_i64, set_eB, look_upd] <;> with_reducible rfl); (simp (disch := omega) only [go_sem, ↓reduceIte] <;> with_reducible rfl); (focus rfl); (focus rfl); (simp (disch := omega) only [go_sem, ↓reduceIte, dk, eB, set_i64, set_eB, look_upd] <;> with_reducible rfl); (focus (first | (simp (disch := omega) only [go_sem, ↓reduceIte, dk, eB, set_i64, set_eB, look_upd]; done) | (simp (disch := omega) only [go_sem, ↓reduceIte, dk, eB, set_i64, set_eB, look_upd]; omega))); (focus (dsimp only [List.take_succ_cons, List.take_zero]; (repeat (apply same2_cons; (focus (first | (left; decide) | (right; simp (disch := omega) only [go_sem, ↓reduceIte, dk, eB, set_i64, set_eB, look_upd]; done))); (simp (disch := omega) only [go_sem, ↓reduceIte, dk, eB, set_i64, set_eB, look_upd] <;> with_reducible rfl))); exact same2_nil)); (simp (disch := omega) only [go_sem, ↓reduceIte, dk, eB, set_i64, set_eB, look_upd] <;> with_reducible rfl))
  (repeat (first | (apply axJ; (focus ((with_reducible constructor) <;> rfl))) | ((first | apply axR hΓ | apply axG | apply ovX rfl | apply ovE rfl); (simp (disch := omega) only [go_sem, ↓reduceIte, dk] <;> with_reducible rfl); exact trivial) | rfl))
  refine retl_x (r := .data (.bool true)) (os := rdO ⟨x.l, x.ids, x.rk.set i rank, x.ps.set i p⟩) rfl (by simp (disch := omega) only [go_sem, ↓reduceIte, dk] <;> rfl) (Weak.of (by simp [rdO]) ⟨rfl, trivial⟩ (by simp [TabSub, rdO, enumO, look, Obj.refsOK, refsOKs, AV.refsOK]) rfl) ⟨true, _, _, rfl, rfl, by simpa using z3, by simpa using z4, fun q hq => ?_⟩
  rcases List.mem_or_eq_of_mem_set hq with h | h
  · exact z5 q h
  · rw [h]; exact hp
theorem f120_ex : ∃ g, LocOK Try.prog 120 g ∧ ∀ x : RdX × Nat, RdOK x.1 ∧ x.2 < x.1.l.length → ∃ r os, RdG x.1 r os ∧ g [.ptr 0 0, .data (i64 x.2)] (rdO x.1) = some (r, os) := by
  have hΓ := Γ120_ok
  refine loc_ex (enc := fun x : RdX × Nat => [.ptr 0 0, .data (i64 x.2)]) (eno := fun x => rdO x.1) (dom := fun x => RdOK x.1 ∧ x.2 < x.1.l.length) (good := fun x => RdG x.1) (n := 105) (rs := [.tmp 4]) Try.func120 (by kernel_rfl) rfl (by kernel_rfl) (by kernel_rfl) (fun x y h h2 => by
    simp only [List.cons.injEq, AV.data.injEq, D.int.injEq, true_and, and_true] at h
    exact Prod.ext (rdO_inj _ _ h2) (by exact_mod_cast h)) ?_
  rintro ⟨⟨l, ids, rk, ps⟩, i⟩ ⟨hz, hi⟩
  have hend := fun rank p hp => f120_end hz hi rank p hp
  obtain ⟨z1, z2, z3, z4, z5, z6, z7⟩ := hz
  dsimp only at z1 z2 z3 z4 z5 z6 z7 hi hend ⊢
  have hev := z6 _ (List.getElem_mem hi)
  have hfn := z7 _ (List.getElem_mem hi)
  generalize hye : l[i] = e at hev hfn
  have hns := hev.ns
  have hret : ∀ (sl : List AV) (tab : List (Nat × Obj)) (n : Nat), resA Try.prog [.tmp 4] sl ⟨tab, n⟩ = some (.data (.bool false)) → TabSub 4 tab (enumO 0 (rdO ⟨l, ids, rk, ps⟩)) → RetLX Try.prog [.tmp 4] 4 (RdG ⟨l, ids, rk, ps⟩) .ret sl ⟨tab, n⟩ := fun sl tab n h1 h2 =>
    retl_x (r := .data (.bool false)) (os := rdO ⟨l, ids, rk, ps⟩) rfl h1 (Weak.of (by simp [rdO]) ⟨rfl, trivial⟩ h2 rfl) ⟨false, _, _, rfl, rfl, z3, z4, z5⟩
  unfold rdO
  dsimp only
  rw [start_frameA (by simp)]; simp only [enumA, enumO, List.length_cons, List.length_nil, Nat.reduceAdd, go_sem]
  (repeat (first | (refine axA ?_; first | (apply axR hΓ; (simp (disch := omega) only [go_sem, ↓reduceIte, dk] <;> with_reducible rfl); exact trivial) | refine axA ?_ | refine axB ?_) | refine axB ?_ | (apply axK; (focus ((with_reducible constructor) <;> rfl))) | ((first | apply axR hΓ | apply axG | apply ovX rfl | apply ovE rfl); (simp (disch := omega) only [go_sem, ↓reduceIte, dk] <;> with_reducible rfl); exact trivial) | rfl))
  refine axp_loop_at (X := Nat × Int × List Bool) (fun x => (frame 105 [(0, .ptr 0 0), (1, .data (i64 i)), (5, .data (i64 x.2.1)), (6, .row 11 l.length), (7, .data (i64 x.1))])) (fun x => [(0, .box [.data (.list (l.map eE)), .row 1 l.length, .row 2 l.length, .row 3 l.length, .nils]), (1, .row 9 1 (ids.map .str)), (2, .row 3 1 (rk.map i64)), (3, .row 142 1 (ps.map eB)), (11, .row 4 1 (x.2.2.map .bool))]) 12
    (fun x => x.1 ≤ e.ns.length ∧ x.2.2.length = l.length) (fun x => e.ns.length - x.1) (0, 0, List.replicate l.length false) ⟨Nat.zero_le _, by simp⟩ (Weak.v (by (simp [ConvF, lookV, Conv, ints, List.map_replicate]; done)) (by (simp (disch := omega) only [TabSub, look, if_pos, if_neg, Obj.refsOK, refsOKs, AV.refsOK, decide_eq_true_eq, Bool.and_true, Bool.and_self, List.map_replicate] ) <;> ((repeat' apply And.intro) <;> first | exact True.intro | omega | (simp; done) | rfl))) ?_
  rintro ⟨k, rank, p⟩ ⟨hk, hp⟩
  dsimp only at hk hp ⊢
  by_cases hk2 : k < e.ns.length
  · have hf := hfn _ (List.getElem_mem hk2)
    generalize hnm : e.ns[k] = nm at hf
    have e69 := g69_eq (l := ids) (s := nm) (by omega)
    have hfl := fnd_lt (l := ids) (s := nm)
    generalize fnd ids nm = j at e69 hf hfl
    obtain ⟨j, rfl⟩ := Int.eq_ofNat_of_zero_le hf
    have hj : j < l.length := by omega
    have hjr : j < rk.length := by omega
    have hjp : j < ps.length := by omega
    have hjp2 : j < p.length := by omega
    have hq := z5 _ (List.getElem_mem hjp)
    generalize hrk : rk[j] = r
    generalize hps : ps[j] = q at hq
    (repeat (first | (apply axJ; (focus ((with_reducible constructor) <;> rfl))) | ((first | apply axR hΓ | apply axG | apply ovX rfl | apply ovE rfl); (simp (disch := omega) only [go_sem, ↓reduceIte, dk, hye, eE] <;> with_reducible rfl); exact trivial) | rfl))
    (apply axp_regt mixedOK hΓ rfl; (focus kernel_rfl); (simp (disch := omega) only [go_sem, ↓reduceIte, dk, hye, hnm, eE, Γ120, e69] <;> with_reducible rfl); (simp only [go_sem] <;> with_reducible rfl); (simp (disch := omega) only [go_sem, ↓reduceIte, dk, hye, hnm, eE, Γ120, e69] <;> with_reducible rfl))
    (repeat (first | (apply axJ; (focus ((with_reducible constructor) <;> rfl))) | ((first | apply axR hΓ | apply axG | apply ovX rfl | apply ovE rfl); (simp (disch := omega) only [go_sem, ↓reduceIte, dk, hrk] <;> with_reducible rfl); exact trivial) | rfl))
    refine axp_cond (by simp (disch := omega) only [go_sem, ↓reduceIte]; rfl) (fun hc => ?_) (fun hc => ?_)
    · (repeat (first | (apply axJ; (focus ((with_reducible constructor) <;> rfl))) | ((first | apply axR hΓ | apply axG | apply ovX rfl | apply ovE rfl); (simp (disch := omega) only [go_sem, ↓reduceIte, dk] <;> with_reducible rfl); exact trivial) | rfl))
      exact hret _ _ _ (by simp (disch := omega) only [go_sem, ↓reduceIte, dk] <;> rfl) (by simp [TabSub, rdO, enumO, look, Obj.refsOK, refsOKs, AV.refsOK])
    (repeat (first | (apply axJ; (focus ((with_reducible constructor) <;> rfl))) | ((first | apply axR hΓ | apply axG | apply ovX rfl | apply ovE rfl); (simp (disch := omega) only [go_sem, ↓reduceIte, dk, hrk, set_bool] <;> with_reducible rfl); exact trivial) | rfl))
    generalize hrr : max rank (IntKind.wrap .i64 (r + 1)) = rank2
    refine axp_loop_at (X := Nat × List Bool) (fun x => (frame 105 [(0, .ptr 0 0), (1, .data (i64 i)), (5, .data (i64 rank2)), (6, .row 11 l.length), (7, .data (i64 k)), (8, .data (i64 j)), (9, .data (i64 x.1))])) (fun x => [(0, .box [.data (.list (l.map eE)), .row 1 l.length, .row 2 l.length, .row 3 l.length, .nils]), (1, .row 9 1 (ids.map .str)), (2, .row 3 1 (rk.map i64)), (3, .row 142 1 (ps.map eB)), (11, .row 4 1 (x.2.map .bool))]) 12
      (fun x => x.1 ≤ l.length ∧ x.2.length = l.length) (fun x => l.length - x.1) (0, p.set j true) ⟨Nat.zero_le _, by simpa using hp⟩ (Weak.w) ?_
    rintro ⟨m, p2⟩ ⟨hm, hp2⟩
    dsimp only at hm hp2 ⊢
    by_cases hm2 : m < l.length
    · have hm3 : m < p2.length := by omega
      have hm4 : m < q.length := by omega
      generalize hb : p2[m] = b
      generalize hc : q[m] = c
      (repeat (first | (apply axJ; (focus ((with_reducible constructor) <;> rfl))) | ((first | apply axR hΓ | apply axG | apply ovX rfl | apply ovE rfl); (simp (disch := omega) only [go_sem, ↓reduceIte, dk] <;> with_reducible rfl); exact trivial) | rfl))
      cases b with
      | true =>
        (repeat (first | (apply axJ; (focus ((with_reducible constructor) <;> rfl))) | ((first | apply axR hΓ | apply axG | apply ovX rfl | apply ovE rfl); (simp (disch := omega) only [go_sem, ↓reduceIte, dk, hb, set_bool] <;> with_reducible rfl); exact trivial) | rfl))
        exact ⟨(m + 1, p2.set m true), ⟨by dsimp only; omega, by simpa using hp2⟩, by dsimp only; omega, Weak.w⟩
      | false =>
        (repeat (first | (apply axJ; (focus ((with_reducible constructor) <;> rfl))) | ((first | apply axR hΓ | apply axG | apply ovX rfl | apply ovE rfl); (simp (disch := omega) only [go_sem, ↓reduceIte, dk, hb, hps, eB, hc, set_bool] <;> with_reducible rfl); exact trivial) | rfl))
        exact ⟨(m + 1, p2.set m c), ⟨by dsimp only; omega, by simpa using hp2⟩, by dsimp only; omega, Weak.w⟩
    (repeat (first | (apply axJ; (focus ((with_reducible constructor) <;> rfl))) | ((first | apply axR hΓ | apply axG | apply ovX rfl | apply ovE rfl); (simp (disch := omega) only [go_sem, ↓reduceIte, dk] <;> with_reducible rfl); exact trivial) | rfl))
    exact ⟨(k + 1, rank2, p2), ⟨by dsimp only; omega, hp2⟩, by dsimp only; omega, Weak.w⟩
  (repeat (first | (refine axA ?_; first | (apply axR hΓ; (simp (disch := omega) only [go_sem, ↓reduceIte, dk, hye, eE] <;> with_reducible rfl); exact trivial) | refine axA ?_ | refine axB ?_) | refine axB ?_ | (apply axK; (focus ((with_reducible constructor) <;> rfl))) | ((first | apply axR hΓ | apply axG | apply ovX rfl | apply ovE rfl); (simp (disch := omega) only [go_sem, ↓reduceIte, dk, hye, eE] <;> with_reducible rfl); exact trivial) | rfl))
  exact axp_weak ((Weak.freeze (o := 11) rfl).trans (Weak.v (by (repeat' (first | exact True.intro | apply And.intro | exact rfl | exact Or.inl rfl | exact Or.inr (Or.inl ⟨rfl, rfl⟩) | exact Or.inr (Or.inr ⟨_, _, rfl, rfl, by (first | (simp; done) | (simp; omega))⟩))); done) (by (simp (disch := omega) only [TabSub, look, if_pos, if_neg, Obj.refsOK, refsOKs, AV.refsOK, decide_eq_true_eq, Bool.and_true, Bool.and_self, upd] ) <;> ((repeat' apply And.intro) <;> first | exact True.intro | omega | (simp; done) | rfl)))) (hend rank p hp)
noncomputable def g120 := f120_ex.choose
theorem f120_ok : LocOK Try.prog 120 g120 := f120_ex.choose_spec.1
theorem g120_eq {x : RdX} {i : Nat} (h : RdOK x) (hi : i < x.l.length) : ∃ (b : Bool) (rk : List Int) (ps : List (List Bool)), g120 [.ptr 0 0, .data (i64 i)] (rdO x) = some (.data (.bool b), rdO ⟨x.l, x.ids, rk, ps⟩) ∧ rk.length = x.l.length ∧ ps.length = x.l.length ∧ ∀ p ∈ ps, p.length = x.l.length := by
  obtain ⟨r, os, ⟨b, rk, ps, rfl, rfl, h1, h2, h3⟩, h4⟩ := f120_ex.choose_spec.2 (x, i) ⟨h, hi⟩
  exact ⟨b, rk, ps, h4, h1, h2, h3⟩
end Go.Ab
namespace Go.Ab
open Go Go.RowKit Go.Proofs
set_option maxRecDepth 4000
set_option maxHeartbeats 40000000
structure RaX where
  l : List Ev
  ids : List (List UInt8)
structure RaOK (x : RaX) : Prop where
  n : x.l.length ≤ 64
  ids : x.ids.length = x.l.length
  ev : ∀ e ∈ x.l, EvOK e
  f : ∀ e ∈ x.l, ∀ s ∈ e.ns, 0 ≤ fnd x.ids s
def raO (x : RaX) : List Obj := [.box [.data (.list (x.l.map eE)), .row 1 x.l.length, .nils, .nils, .nils], .row 9 1 (x.ids.map .str)]
theorem raO_inj (x y : RaX) (h : raO x = raO y) : x = y := by
  obtain ⟨a1, a2⟩ := x
  obtain ⟨b1, b2⟩ := y
  simp only [raO, List.cons.injEq, Obj.box.injEq, Obj.row.injEq, AV.data.injEq, D.list.injEq, true_and, and_true] at h
  obtain ⟨⟨h1, _⟩, h2⟩ := h
  rw [dmap_inj eE_inj h1, strs_inj h2]
def RaG (x : RaX) (r : AV) (os : List Obj) : Prop := ∃ (b : Bool) (rk : List Int) (ps : List (List Bool)), r = .data (.bool b) ∧ os = rdO ⟨x.l, x.ids, rk, ps⟩ ∧ rk.length = x.l.length ∧ ps.length = x.l.length ∧ ∀ p ∈ ps, p.length = x.l.length
noncomputable def Γ91 : FuncId → Option CSpec := fun f => if f = 120 then some (.loc g120) else none
theorem Γ91_ok : ∀ f s, Γ91 f = some s → SpecOK Try.prog f s := by
  intro f s h
  unfold Γ91 at h
  split at h
  · rename_i hf; cases h; subst hf; exact f120_ok
  · cases h
theorem f91_2 {x : RaX} (hz : RaOK x) (rk : List Int) (ps : List (List Bool)) (h1 : rk.length = x.l.length) (h2 : ps.length = x.l.length) (h3 : ∀ p ∈ ps, p.length = x.l.length) : axp Try.prog 2 (navF Try.f91 [1, 1, 1]) (RetLX Try.prog [.tmp 2] 2 (RaG x)) ((frame 66 [(0, .ptr 0 0), (3, .data (i64 x.l.length))])) ⟨[(0, .box [.data (.list (x.l.map eE)), .row 1 x.l.length, .row 2 x.l.length, .row 3 x.l.length, .nils]), (1, .row 9 1 (x.ids.map .str)), (2, .row 3 1 (rk.map i64)), (3, .row 142 1 (ps.map eB))], 4⟩ := by
  have hΓ := Γ91_ok
  conv => arg 3; whnf
  have hn := hz.n
  (repeat (first | (refine axA ?_; first | (apply axR hΓ; (simp (disch := omega) only [go_sem, ↓reduceIte, dk] <;> with_reducible rfl); exact trivial) | refine axA ?_ | refine axB ?_) | refine axB ?_ | (apply axK; (focus ((with_reducible constructor) <;> rfl))) | ((first | apply axR hΓ | apply axG | apply ovX rfl | apply ovE rfl); (simp (disch := omega) only [go_sem, ↓reduceIte, dk] <;> with_reducible rfl); exact trivial) | rfl))
  refine axp_loop_at (X := Nat × List Int × List (List Bool)) (fun y => (frame 66 [(0, .ptr 0 0), (3, .data (i64 x.l.length)), (5, .data (i64 y.1))])) (fun y => [(0, .box [.data (.list (x.l.map eE)), .row 1 x.l.length, .row 2 x.l.length, .row 3 x.l.length, .nils]), (1, .row 9 1 (x.ids.map .str)), (2, .row 3 1 (y.2.1.map i64)), (3, .row 142 1 (y.2.2.map eB))]) 4
    (fun y => y.1 ≤ 4096 ∧ y.2.1.length = x.l.length ∧ y.2.2.length = x.l.length ∧ ∀ p ∈ y.2.2, p.length = x.l.length) (fun y => x.l.length - y.1) (0, rk, ps) ⟨Nat.zero_le _, h1, h2, h3⟩ (Weak.w) ?_
  rintro ⟨d, rk, ps⟩ ⟨hd, h1, h2, h3⟩
  dsimp only at hd h1 h2 h3 ⊢
  have hfin : ∀ (b : Bool) (rk : List Int) (ps : List (List Bool)) (sl : List AV) (tab : List (Nat × Obj)) (n : Nat) (e : Exit), e = .ret ∨ e = .normal → rk.length = x.l.length → ps.length = x.l.length → (∀ p ∈ ps, p.length = x.l.length) → resA Try.prog [.tmp 2] sl ⟨tab, n⟩ = some (.data (.bool b)) → TabSub 4 tab (enumO 0 (rdO ⟨x.l, x.ids, rk, ps⟩)) → RetLX Try.prog [.tmp 2] 2 (RaG x) e sl ⟨tab, n⟩ := fun b rk ps sl tab n e he k1 k2 k3 k4 k5 =>
    retl_x (r := .data (.bool b)) (os := rdO ⟨x.l, x.ids, rk, ps⟩) (by rcases he with rfl | rfl <;> rfl) k4 (Weak.of (by simp [rdO]) ⟨rfl, trivial⟩ k5 rfl) ⟨b, _, _, rfl, rfl, k1, k2, k3⟩
  by_cases hd2 : d < x.l.length
  · (repeat (first | (refine axA ?_; first | (apply axR hΓ; (simp (disch := omega) only [go_sem, ↓reduceIte, dk] <;> with_reducible rfl); exact trivial) | refine axA ?_ | refine axB ?_) | refine axB ?_ | (apply axK; (focus ((with_reducible constructor) <;> rfl))) | ((first | apply axR hΓ | apply axG | apply ovX rfl | apply ovE rfl); (simp (disch := omega) only [go_sem, ↓reduceIte, dk] <;> with_reducible rfl); exact trivial) | rfl))
    refine axp_loop_at (X := Nat × Nat × List Int × List (List Bool)) (fun y => (frame 66 [(0, .ptr 0 0), (3, .data (i64 x.l.length)), (5, .data (i64 d)), (6, .data (i64 y.2.1)), (7, .data (i64 y.1))])) (fun y => [(0, .box [.data (.list (x.l.map eE)), .row 1 x.l.length, .row 2 x.l.length, .row 3 x.l.length, .nils]), (1, .row 9 1 (x.ids.map .str)), (2, .row 3 1 (y.2.2.1.map i64)), (3, .row 142 1 (y.2.2.2.map eB))]) 4
      (fun y => y.1 ≤ x.l.length ∧ y.2.1 ≤ y.1 ∧ y.2.2.1.length = x.l.length ∧ y.2.2.2.length = x.l.length ∧ ∀ p ∈ y.2.2.2, p.length = x.l.length) (fun y => x.l.length - y.1) (0, 0, rk, ps) ⟨Nat.zero_le _, Nat.le_refl _, h1, h2, h3⟩ (Weak.w) ?_
    rintro ⟨i, m, rk, ps⟩ ⟨hi, hm, h1, h2, h3⟩
    dsimp only at hi hm h1 h2 h3 ⊢
    by_cases hi2 : i < x.l.length
    · have hir : i < rk.length := by omega
      generalize hr : rk[i] = r
      generalize hc : decide (r < 0) = c
      obtain ⟨b, rk', ps', e120, k1, k2, k3⟩ := g120_eq (x := ⟨x.l, x.ids, rk, ps⟩) (i := i) ⟨hn, hz.ids, h1, h2, h3, hz.ev, hz.f⟩ hi2
      unfold rdO at e120
      dsimp only at e120 k1 k2 k3
      have hcall : ∀ k n, callLoc k ⟨[(0, .box [.data (.list (x.l.map eE)), .row 1 x.l.length, .row 2 x.l.length, .row 3 x.l.length, .nils]), (1, .row 9 1 (x.ids.map .str)), (2, .row 3 1 (rk.map i64)), (3, .row 142 1 (ps.map eB))], n⟩ g120 [.ptr 0 0, .data (.int .i64 i)] = some (.data (.bool b), ⟨[(0, .box [.data (.list (x.l.map eE)), .row 1 x.l.length, .row 2 x.l.length, .row 3 x.l.length, .nils]), (1, .row 9 1 (x.ids.map .str)), (2, .row 3 1 (rk'.map i64)), (3, .row 142 1 (ps'.map eB))], k⟩) := fun k n => (callLoc_of (fp := [0, 1, 2, 3]) rfl rfl rfl e120 (Nat.le_refl _)).trans rfl
      (repeat (first | (refine axA ?_; first | (apply axR hΓ; (simp (disch := omega) only [go_sem, ↓reduceIte, dk] <;> with_reducible rfl); exact trivial) | refine axA ?_ | refine axB ?_) | refine axB ?_ | (apply axK; (focus ((with_reducible constructor) <;> rfl))) | ((first | apply axR hΓ | apply axG | apply ovX rfl | apply ovE rfl); (simp (disch := omega) only [go_sem, ↓reduceIte, dk] <;> with_reducible rfl); exact trivial) | rfl))
      cases c with
      | false =>
        (repeat (first | (apply axJ; (focus ((with_reducible constructor) <;> rfl))) | ((first | apply axR hΓ | apply axG | apply ovX rfl | apply ovE rfl); (simp (disch := omega) only [go_sem, ↓reduceIte, dk, hr, hc] <;> with_reducible rfl); exact trivial) | rfl))
        exact ⟨(i + 1, m, rk, ps), ⟨by dsimp only; omega, by dsimp only; omega, h1, h2, h3⟩, by dsimp only; omega, Weak.w⟩
      | true =>
        cases b with
        | false =>
          (repeat (first | (apply axJ; (focus ((with_reducible constructor) <;> rfl))) | ((first | apply axR hΓ | apply axG | apply ovX rfl | apply ovE rfl); (simp (disch := omega) only [go_sem, ↓reduceIte, dk, hr, hc, Γ91, hcall] <;> with_reducible rfl); exact trivial) | rfl))
          exact ⟨(i + 1, m, rk', ps'), ⟨by dsimp only; omega, by dsimp only; omega, k1, k2, k3⟩, by dsimp only; omega, Weak.w⟩
        | true =>
          (repeat (first | (apply axJ; (focus ((with_reducible constructor) <;> rfl))) | ((first | apply axR hΓ | apply axG | apply ovX rfl | apply ovE rfl); (simp (disch := omega) only [go_sem, ↓reduceIte, dk, hr, hc, Γ91, hcall] <;> with_reducible rfl); exact trivial) | rfl))
          exact ⟨(i + 1, m + 1, rk', ps'), ⟨by dsimp only; omega, by dsimp only; omega, k1, k2, k3⟩, by dsimp only; omega, Weak.w⟩
    · have hii : i = x.l.length := by omega
      by_cases hm0 : m = 0
      · subst hm0
        have hz0 : (((0 : Nat) : Int) == 0) = true := rfl
        (repeat (first | (apply axJ; (focus ((with_reducible constructor) <;> rfl))) | ((first | apply axR hΓ | apply axG | apply ovX rfl | apply ovE rfl); (simp (disch := omega) only [go_sem, ↓reduceIte, dk, hz0] <;> with_reducible rfl); exact trivial) | rfl))
        exact hfin false rk ps _ _ _ _ (.inl rfl) h1 h2 h3 (by simp (disch := omega) only [go_sem, ↓reduceIte, dk] <;> rfl) (by simp [TabSub, rdO, enumO, look, Obj.refsOK, refsOKs, AV.refsOK])
      · have hmz : ((m : Int) == 0) = false := by simpa using hm0
        (repeat (first | (apply axJ; (focus ((with_reducible constructor) <;> rfl))) | ((first | apply axR hΓ | apply axG | apply ovX rfl | apply ovE rfl); (simp (disch := omega) only [go_sem, ↓reduceIte, dk, hmz] <;> with_reducible rfl); exact trivial) | rfl))
        exact ⟨(d + m, rk, ps), ⟨by dsimp only; omega, h1, h2, h3⟩, by dsimp only; omega, Weak.w⟩
  · (repeat (first | (apply axJ; (focus ((with_reducible constructor) <;> rfl))) | ((first | apply axR hΓ | apply axG | apply ovX rfl | apply ovE rfl); (simp (disch := omega) only [go_sem, ↓reduceIte, dk] <;> with_reducible rfl); exact trivial) | rfl))
    exact hfin true rk ps _ _ _ _ (.inl rfl) h1 h2 h3 (by simp (disch := omega) only [go_sem, ↓reduceIte, dk] <;> rfl) (by simp [TabSub, rdO, enumO, look, Obj.refsOK, refsOKs, AV.refsOK])
theorem f91_ex : ∃ g, LocOK Try.prog 91 g ∧ ∀ x : RaX, RaOK x → ∃ r os, RaG x r os ∧ g [.ptr 0 0] (raO x) = some (r, os) := by
  have hΓ := Γ91_ok
  refine loc_ex (enc := fun _ : RaX => [.ptr 0 0]) (eno := raO) (dom := RaOK) (good := RaG) (n := 66) (rs := [.tmp 2]) Try.func91 (by kernel_rfl) rfl (by kernel_rfl) (by kernel_rfl) (fun x y _ h2 => raO_inj x y h2) ?_
  intro x hz
  have hn := hz.n
  unfold raO
  rw [start_frameA (by simp)]; simp only [enumA, enumO, List.length_cons, List.length_nil, Nat.reduceAdd, go_sem]
  refine axp_weak (Weak.boxnil (o := 0) (i := 2) 3 (sz := 1) (by omega) rfl rfl) ?_
  refine axp_weak (Weak.boxnil (o := 0) (i := 3) 142 (sz := 1) (by omega) rfl rfl) ?_
  refine axp_weak (sl' := (frame 66 [(0, .ptr 0 0)])) (H' := ⟨[(0, .box [.data (.list (x.l.map eE)), .row 1 x.l.length, .row 2 0, .row 3 0, .nils]), (1, .row 9 1 (x.ids.map .str)), (2, .row 3 1 []), (3, .row 142 1 [])], 4⟩) (Weak.v (by (simp [ConvF, lookV, Conv, ints, upd]; done)) (by (simp (disch := omega) only [TabSub, look, if_pos, if_neg, Obj.refsOK, refsOKs, AV.refsOK, decide_eq_true_eq, Bool.and_true, Bool.and_self, upd] ) <;> ((repeat' apply And.intro) <;> first | exact True.intro | omega | (simp; done) | rfl))) ?_
  (repeat (first | (refine axA ?_; first | (apply axR hΓ; (simp (disch := omega) only [go_sem, ↓reduceIte, dk] <;> with_reducible rfl); exact trivial) | refine axA ?_ | refine axB ?_) | refine axB ?_ | (apply axK; (focus ((with_reducible constructor) <;> rfl))) | ((first | apply axR hΓ | apply axG | apply ovX rfl | apply ovE rfl); (simp (disch := omega) only [go_sem, ↓reduceIte, dk] <;> with_reducible rfl); exact trivial) | rfl))
  refine axp_loop_at (X := Nat) (fun i => (frame 66 [(0, .ptr 0 0), (3, .data (i64 x.l.length)), (4, .data (i64 i))])) (fun i => [(0, .box [.data (.list (x.l.map eE)), .row 1 x.l.length, .row 2 i, .row 3 i, .nils]), (1, .row 9 1 (x.ids.map .str)), (2, .row 3 1 ((List.replicate i (-1)).map i64)), (3, .row 142 1 ((List.replicate i (List.replicate x.l.length false)).map eB))]) 4
    (fun i => i ≤ x.l.length) (fun i => x.l.length - i) 0 (Nat.zero_le _) (Weak.w) ?_
  intro i hi
  by_cases hi2 : i < x.l.length
  · have a1 : (List.replicate i (-1)).map i64 ++ [.int .i64 (-1)] = (List.replicate (i + 1) (-1)).map i64 := by rw [List.replicate_succ', List.map_append]; rfl
    have a2 : (List.replicate i (List.replicate x.l.length false)).map eB ++ [.list (List.replicate x.l.length (.bool false))] = (List.replicate (i + 1) (List.replicate x.l.length false)).map eB := by rw [List.replicate_succ', List.map_append]; simp [eB]
    have a3 : ((List.replicate i (-1)).map i64).length = i := by simp
    have a4 : ((List.replicate i (List.replicate x.l.length false)).map eB).length = i := by simp
    generalize hA : (List.replicate i (-1)).map i64 = A at *
    generalize hB : (List.replicate i (List.replicate x.l.length false)).map eB = B at *
    (repeat (first | (refine axA ?_; first | (apply axR hΓ; (simp (disch := omega) only [go_sem, ↓reduceIte, ↓lk, dk, a1, a3] <;> with_reducible rfl); exact trivial) | refine axA ?_ | refine axB ?_) | refine axB ?_ | (apply axK; (focus ((with_reducible constructor) <;> rfl))) | ((first | apply axR hΓ | apply axG | apply ovX rfl | apply ovE rfl); (simp (disch := omega) only [go_sem, ↓reduceIte, ↓lk, dk, a1, a3] <;> with_reducible rfl); exact trivial) | rfl))
    (apply axp_lane3 (nst := false) (nst' := false) [false, false, false, false, false, false, false, false, true, false, false, true] mixedOK hΓ (n1 := 12) (by kernel_rfl) (by kernel_rfl); (focus (dsimp only [List.take_succ_cons, List.take_zero, Array.toList]; (repeat (first | (apply lane3_loud; (focus rfl); (focus rfl); (simp (disch := omega) only [go_sem, ↓reduceIte, ↓lk, dk, a2, a4, look_upd] <;> with_reducible rfl); (focus (first | (simp (disch := omega) only [go_sem, ↓reduceIte, ↓lk, dk, a2, a4, look_upd]; done) | (simp (disch := omega) only [go_sem, ↓reduceIte, ↓lk, dk, a2, a4, look_upd]; omega)))) | (apply lane3_quiet; (simp (disch := omega) only [go_sem, ↓reduceIte, ↓lk, dk, a2, a4, look_upd] <;> with_reducible rfl)))); exact lane3_nil)); (focus ((repeat' (first | exact True.intro | refine And.intro ?_ ?_)); all_goals (first | (left; decide) | (left; rfl) | (right; simp (disch := omega) only [go_sem, ↓reduceIte, ↓lk, dk, a2, a4, look_upd]; try with_reducible rfl)))); (simp (disch := omega) only [go_sem, ↓reduceIte, ↓lk, dk, a2, a4, look_upd] <;> with_reducible rfl))
    (repeat (first | (apply axJ; (focus ((with_reducible constructor) <;> rfl))) | ((first | apply axR hΓ | apply axG | apply ovX rfl | apply ovE rfl); (simp (disch := omega) only [go_sem, ↓reduceIte, dk] <;> with_reducible rfl); exact trivial) | rfl))
    exact ⟨i + 1, by omega, by omega, Weak.w⟩
  obtain rfl : i = x.l.length := by omega
  refine axA ?_
  refine axA ?_
  (repeat (first | refine axB ?_ | (apply axK; (focus ((with_reducible constructor) <;> rfl))) | ((first | apply axR hΓ | apply axG | apply ovX rfl | apply ovE rfl); (simp (disch := omega) only [go_sem, ↓reduceIte, dk] <;> with_reducible rfl); exact trivial) | rfl))
  exact axp_weak (Weak.w) (f91_2 hz _ _ (by simp) (by simp) (fun p hp => by rw [List.eq_of_mem_replicate hp]; simp))
noncomputable def g91 := f91_ex.choose
theorem f91_ok : LocOK Try.prog 91 g91 := f91_ex.choose_spec.1
theorem g91_eq {x : RaX} (h : RaOK x) : ∃ (b : Bool) (rk : List Int) (ps : List (List Bool)), g91 [.ptr 0 0] (raO x) = some (.data (.bool b), rdO ⟨x.l, x.ids, rk, ps⟩) ∧ rk.length = x.l.length ∧ ps.length = x.l.length ∧ ∀ p ∈ ps, p.length = x.l.length := by
  obtain ⟨r, os, ⟨b, rk, ps, rfl, rfl, h1, h2, h3⟩, h4⟩ := f91_ex.choose_spec.2 x h
  exact ⟨b, rk, ps, h4, h1, h2, h3⟩
end Go.Ab
