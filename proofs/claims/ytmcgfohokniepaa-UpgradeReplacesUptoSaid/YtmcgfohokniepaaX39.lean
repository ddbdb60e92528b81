/-
  One text of the proof (own work): contracts of functions of the program, by the abstract machine.
-/
import Derived.Test.YtmcgfohokniepaaX25
import Derived.Test.YtmcgfohokniepaaX35
import Derived.Test.YtmcgfohokniepaaX38
import Derived.Test.YtmcgfohokniepaaX24
set_option linter.unusedVariables false
set_option linter.unusedSimpArgs false
namespace Go.Ab
open Go Go.RowKit Go.Proofs
set_option maxRecDepth 100000
set_option maxHeartbeats 40000000
structure RpX where
  l : List Now
  nm : List UInt8
  own : List Now
structure RpOK (x : RpX) : Prop where
  l : x.l.length ≤ 14
  own : x.own.length ≤ 14
  nm : x.nm.length ≤ 1099511627776
  kl : ∀ y ∈ x.l, EkOK y
  ko : ∀ y ∈ x.own, EkOK y
def rpR (x : RpX) : D := if vld x.l = 0 ∧ vld x.own = 0 then (if x.own.any (fun y => !pkq x.nm y) then .tup [.list [], i64 9] else .tup [.list ((rpl x.nm x.l x.own).map eN), i64 0]) else .tup [.list [], i64 1]
def rpA (x : RpX) : List D := [.list (x.l.map eN), .str x.nm, .list (x.own.map eN)]
theorem rpA_inj {x y : RpX} (h : rpA x = rpA y) : x = y := by
  obtain ⟨a1, a2, a3⟩ := x
  obtain ⟨b1, b2, b3⟩ := y
  simp only [rpA, List.cons.injEq, D.list.injEq, D.str.injEq, and_true] at h
  rw [map_inj eN_inj h.1, h.2.1, map_inj eN_inj h.2.2]
theorem EkOK.qsz {x : Now} (h : EkOK x) : Qsz x := by
  obtain ⟨h, _⟩ := h
  simp only [List.mem_cons, List.not_mem_nil, or_false] at h
  unfold Qsz
  rcases h with h | h | h <;> rw [h] <;> decide
noncomputable def g34 : List D → Option D := encSpec rpA RpOK rpR
theorem g34_eq {x : RpX} (h : RpOK x) : g34 (rpA x) = some (rpR x) := encSpec_eq h fun y hy => by rw [rpA_inj hy]
noncomputable def Γ34 (nm : List UInt8) : FuncId → Option CSpec := fun f => if f = 16 then some (.own g16o) else if f = 22 then some (.pure true g22) else if f = 52 then some (.pure true (gAnyD eN Qsz 53 [.ref [.clo 51 [.ref [.str nm]]]] fun x => !pkq nm x)) else if f = 54 then some (.loc g54) else if f = 55 then some (.loc g55) else none
theorem Γ34_ok (nm : List UInt8) : ∀ f s, Γ34 nm f = some s → SpecOK Try.prog f s := by
  intro f s h
  unfold Γ34 at h
  split at h
  · rename_i hf; cases h; subst hf; exact f16o_ok
  split at h
  · rename_i hf; cases h; subst hf; exact f22_ok
  split at h
  · rename_i hf; cases h; subst hf; exact f52_all
  split at h
  · rename_i hf; cases h; subst hf; exact f54_ok
  split at h
  · rename_i hf; cases h; subst hf; exact f55_ok
  · cases h
theorem ty_zero89 : tzero Try.prog 89 = some .nilFunc := by kernel_rfl
theorem vld_ne {l : List Now} (h : vld l ≠ 0) : vld l = 1 := (vld_01 l).resolve_left h
theorem f34_ok : PureOK Try.prog 34 false g34 := by
  refine pure_enc (n := 34) (rs := [.tmp 6, .tmp 7]) Try.func34 (by kernel_rfl) rfl (by kernel_rfl) (by kernel_rfl) ?_
  rintro ⟨l, nm, own⟩ ⟨hl, ho, hnm, kl, ko⟩
  refine ⟨fun h => (by cases h), fun c hz0 => ?_⟩
  dsimp only at hl ho hnm kl ko
  have hΓ := Γ34_ok nm
  have e22 := g22_eq (l := l) (by omega)
  have e22o := g22_eq (l := own) (by omega)
  unfold rpR rpA
  dsimp only
  by_cases h1 : vld l = 0
  · by_cases h2 : vld own = 0
    · rw [if_pos ⟨h1, h2⟩]
      rw [h1] at e22
      rw [h2] at e22o
      have e52 := gAnyD_eq (e := eN) (dm := Qsz) eN_inj (f := 53) (caps := [.ref [.clo 51 [.ref [.str nm]]]]) (p := fun x => !pkq nm x) (l := own) (by omega) (fun x hx => (ko x hx).qsz)
      rw [start_frame (by simp)]; simp only [enumV, go_sem, emptyH]
      repeat (first
        | (apply axJ; (focus ((with_reducible constructor) <;> rfl)))
        | (apply awT mixedOK hΓ (by kernel_rfl); (simp (disch := omega) only [go_sem, ↓reduceIte, dk, Int.reduceBEq, Int.reduceBNe, Bool.true_bne, Bool.false_bne, Bool.not_true, Bool.not_false, Γ34, e22, e22o] <;> with_reducible rfl))
        | ((first | apply awR hΓ | apply awG | apply awH mixedOK hΓ rfl (by kernel_rfl) | apply ovE rfl); (simp (disch := omega) only [go_sem, ↓reduceIte, dk, Int.reduceBEq, Int.reduceBNe, Bool.true_bne, Bool.false_bne, Bool.not_true, Bool.not_false, Γ34, e22, e22o] <;> with_reducible rfl); exact trivial)
        | rfl)
      refine awp_regF (nst := false) 1 ty_zero89 hΓ rfl rfl rfl (by simp only [runTill, List.take_succ_cons, List.take_zero, go_sem, ↓reduceIte]; rfl) ⟨_, ⟨_, _⟩, by simp only [List.drop_succ_cons, List.drop_zero, go_sem, ↓reduceIte]; rfl, ?_⟩
      generalize hany : (own.any fun x => !pkq nm x) = b at e52 ⊢
      cases b with
      | true =>
        repeat (first
          | (apply axJ; (focus ((with_reducible constructor) <;> rfl)))
          | (apply awT mixedOK hΓ (by kernel_rfl); (simp (disch := omega) only [go_sem, ↓reduceIte, dk, Int.reduceBEq, Int.reduceBNe, Bool.true_bne, Bool.false_bne, Bool.not_true, Bool.not_false, Γ34, e52] <;> with_reducible rfl))
          | ((first | apply awR hΓ | apply awG | apply awH mixedOK hΓ rfl (by kernel_rfl) | apply ovE rfl); (simp (disch := omega) only [go_sem, ↓reduceIte, dk, Int.reduceBEq, Int.reduceBNe, Bool.true_bne, Bool.false_bne, Bool.not_true, Bool.not_false, Γ34, e52] <;> with_reducible rfl); exact trivial)
          | rfl)
      | false =>
        repeat (first
          | (apply axJ; (focus ((with_reducible constructor) <;> rfl)))
          | (apply awT mixedOK hΓ (by kernel_rfl); (simp (disch := omega) only [go_sem, ↓reduceIte, dk, Int.reduceBEq, Int.reduceBNe, Bool.true_bne, Bool.false_bne, Bool.not_true, Bool.not_false, Γ34, e52] <;> with_reducible rfl))
          | ((first | apply awR hΓ | apply awG | apply awH mixedOK hΓ rfl (by kernel_rfl) | apply ovE rfl); (simp (disch := omega) only [go_sem, ↓reduceIte, dk, Int.reduceBEq, Int.reduceBNe, Bool.true_bne, Bool.false_bne, Bool.not_true, Bool.not_false, Γ34, e52] <;> with_reducible rfl); exact trivial)
          | rfl)
        refine awp_weak (sl' := (frame 34 [(0, .data (.list (l.map eN))), (1, .data (.str nm)), (2, .data (.list (own.map eN))), (8, .ptr 1 0)])) (H' := ⟨[(0, .box [.data (.str nm)]), (1, .box [.fn 51 [.ptr 0 0]])], 2⟩) ((Weak.w (t' := [(0, .data (.list (l.map eN))), (1, .data (.str nm)), (2, .data (.list (own.map eN))), (8, .ptr 12 0)]) (tab' := [(0, .box [.data (.str nm)]), (12, .box [.fn 51 [.ptr 0 0]])]) (n' := 17) (h2 := by simp [TabSub, look, Obj.refsOK, refsOKs, AV.refsOK]) (h3 := by simp [refsF, AV.refsOK, refsOKs])).trans (Weak.packed (objs := [.box [.data (.str nm)], .box [.fn 51 [.ptr 0 0]]]) (fp := [0, 12]) rfl rfl (by simp [hz0]) rfl rfl)) ?_
        have e16 := g16o_eq (l := l) (by omega)
        obtain ⟨r, os, hG, e54⟩ := g54_eq (x := ⟨l, nm⟩) ⟨by dsimp only; omega, fun y hy => (kl y hy).qsz⟩
        unfold dlA dlO at e54
        dsimp only at e54
        have hem : elemsOK 3 (own.map eN) = true := elemsOK_map (f := eN) (sz := 3) (fun _ => ⟨rfl, rfl⟩) own
        have hs1 := vld_srt h1
        have hs2 := vld_srt h2
        have hpk : ∀ x ∈ own, pkq nm x = true := fun x hx => by
          have := List.any_eq_false.1 hany x hx
          simpa using this
        have l1 := ev_len hs1 kl
        have l2 := ev_len hs2 ko
        have l3 : (l.filter fun x => !pkq nm x).length ≤ l.length := List.length_filter_le _ _
        obtain ⟨m, e55, hp, hs⟩ := g55_eq (l := (l.filter fun x => !pkq nm x) ++ own) ⟨by simp only [List.length_append]; omega, (rpl_dfs hs1 hs2 hpk).perm List.perm_append_comm⟩
        have hm := rpl_eq hs1 hs2 hpk hp hs
        rw [if_neg (by simp), ← hm]
        have hml : (m.map eN).length = (l.filter fun x => !pkq nm x).length + own.length := by rw [List.length_map, hp.length_eq, List.length_append]
        rcases hG with ⟨hk, rfl, rfl⟩ | ⟨rfl, rfl⟩
        · have hcall : ∀ m, callLoc 5 ⟨[(0, .box [.data (.str nm)]), (1, .box [.fn 51 [.ptr 0 0]]), (3, .row 39 3 (l.map eN))], m⟩ g54 [.row 3 l.length, .fn 51 [.ptr 0 0]] = some (.row 3 l.length, ⟨[(0, .box [.data (.str nm)]), (1, .box [.fn 51 [.ptr 0 0]]), (3, .row 39 3 (l.map eN))], 5⟩) := fun m => (callLoc_of (fp := [3, 0]) rfl rfl rfl e54 (Nat.le_refl _)).trans rfl
          unfold kept at hk
          dsimp only at hk
          rw [hk] at e55 hml
          rw [List.length_append, List.map_append] at e55
          (apply awp_lane3 (nst := false) (nst' := false) [false, true, false, true, false, true] mixedOK hΓ (n1 := 6) (by kernel_rfl) (by kernel_rfl); (focus (dsimp only [List.take_succ_cons, List.take_zero, Array.toList]; (repeat (first | (apply lane3_loud; (focus rfl); (focus rfl); (simp (disch := omega) only [go_sem, ↓reduceIte, dk, Γ34, e16, hcall, hem, List.length_map, look_upd] <;> with_reducible rfl); (focus (first | (simp (disch := omega) only [go_sem, ↓reduceIte, dk, Γ34, e16, hcall, hem, List.length_map, look_upd]; done) | (simp (disch := omega) only [go_sem, ↓reduceIte, dk, Γ34, e16, hcall, hem, List.length_map, look_upd]; omega)))) | (apply lane3_quiet; (simp (disch := omega) only [go_sem, ↓reduceIte, dk, Γ34, e16, hcall, hem, List.length_map, look_upd] <;> with_reducible rfl)))); exact lane3_nil)); (focus ((repeat' (first | exact True.intro | refine And.intro ?_ ?_)); all_goals (first | (left; decide) | (left; rfl) | (right; simp (disch := omega) only [go_sem, ↓reduceIte, dk, Γ34, e16, hcall, hem, List.length_map, look_upd]; try with_reducible rfl)))); (simp (disch := omega) only [go_sem, ↓reduceIte, dk, Γ34, e16, hcall, hem, List.length_map, look_upd] <;> with_reducible rfl))
          have hcall2 : ∀ k n, callLoc k ⟨[(0, .row 39 3 (l.map eN ++ own.map eN))], n⟩ g55 [.row 0 (l.length + own.length), .data (.clo 42 [])] = some (.tup [], ⟨[(0, .row 39 3 (m.map eN))], k⟩) := fun k n => (callLoc_of (fp := [0]) rfl rfl rfl e55 (Nat.le_refl _)).trans rfl
          change awp _ _ _ _ _ _
          refine awp_weak (sl' := (frame 34 [(9, .row 0 (l.length + own.length))])) (H' := ⟨[(0, .row 39 3 (l.map eN ++ own.map eN))], 1⟩) ((Weak.w (t' := [(9, .row 3 (l.length + own.length))]) (tab' := [(3, .row 39 3 (l.map eN ++ own.map eN))]) (n' := 9) (h2 := by simp [TabSub, look, Obj.refsOK, refsOKs, AV.refsOK])).trans (Weak.packed (objs := [.row 39 3 (l.map eN ++ own.map eN)]) (fp := [3]) rfl rfl (by simp [hz0]) rfl rfl)) ?_
          repeat (first
            | (apply axJ; (focus ((with_reducible constructor) <;> rfl)))
            | (apply awT mixedOK hΓ (by kernel_rfl); (simp (disch := omega) only [go_sem, ↓reduceIte, dk, Int.reduceBEq, Int.reduceBNe, Bool.true_bne, Bool.false_bne, Bool.not_true, Bool.not_false, Γ34, hcall2, hml, List.length_append, List.length_map] <;> with_reducible rfl))
            | ((first | apply awR hΓ | apply awG | apply awH mixedOK hΓ rfl (by kernel_rfl) | apply ovE rfl); (simp (disch := omega) only [go_sem, ↓reduceIte, dk, Int.reduceBEq, Int.reduceBNe, Bool.true_bne, Bool.false_bne, Bool.not_true, Bool.not_false, Γ34, hcall2, hml, List.length_append, List.length_map] <;> with_reducible rfl); exact trivial)
            | rfl)
        · rw [List.length_append, List.map_append] at e55
          unfold kept at e54
          dsimp only at e54
          generalize (l.filter fun x => !pkq nm x) = kf at *
          have hcall : ∀ m, callLoc 5 ⟨[(0, .box [.data (.str nm)]), (1, .box [.fn 51 [.ptr 0 0]]), (3, .row 39 3 (l.map eN))], m⟩ g54 [.row 3 l.length, .fn 51 [.ptr 0 0]] = some (.row 5 kf.length, ⟨[(0, .box [.data (.str nm)]), (1, .box [.fn 51 [.ptr 0 0]]), (3, .dead), (5, .row 39 3 (kf.map eN))], 6⟩) := fun m => (callLoc_of (fp := [3, 0]) rfl rfl rfl e54 (by simp)).trans rfl
          (apply awp_lane3 (nst := false) (nst' := false) [false, true, false, true, false, true] mixedOK hΓ (n1 := 6) (by kernel_rfl) (by kernel_rfl); (focus (dsimp only [List.take_succ_cons, List.take_zero, Array.toList]; (repeat (first | (apply lane3_loud; (focus rfl); (focus rfl); (simp (disch := omega) only [go_sem, ↓reduceIte, dk, Γ34, e16, hcall, hem, List.length_map, look_upd] <;> with_reducible rfl); (focus (first | (simp (disch := omega) only [go_sem, ↓reduceIte, dk, Γ34, e16, hcall, hem, List.length_map, look_upd]; done) | (simp (disch := omega) only [go_sem, ↓reduceIte, dk, Γ34, e16, hcall, hem, List.length_map, look_upd]; omega)))) | (apply lane3_quiet; (simp (disch := omega) only [go_sem, ↓reduceIte, dk, Γ34, e16, hcall, hem, List.length_map, look_upd] <;> with_reducible rfl)))); exact lane3_nil)); (focus ((repeat' (first | exact True.intro | refine And.intro ?_ ?_)); all_goals (first | (left; decide) | (left; rfl) | (right; simp (disch := omega) only [go_sem, ↓reduceIte, dk, Γ34, e16, hcall, hem, List.length_map, look_upd]; try with_reducible rfl)))); (simp (disch := omega) only [go_sem, ↓reduceIte, dk, Γ34, e16, hcall, hem, List.length_map, look_upd] <;> with_reducible rfl))
          have hcall2 : ∀ k n, callLoc k ⟨[(0, .row 39 3 (kf.map eN ++ own.map eN))], n⟩ g55 [.row 0 (kf.length + own.length), .data (.clo 42 [])] = some (.tup [], ⟨[(0, .row 39 3 (m.map eN))], k⟩) := fun k n => (callLoc_of (fp := [0]) rfl rfl rfl e55 (Nat.le_refl _)).trans rfl
          change awp _ _ _ _ _ _
          refine awp_weak (sl' := (frame 34 [(9, .row 0 (kf.length + own.length))])) (H' := ⟨[(0, .row 39 3 (kf.map eN ++ own.map eN))], 1⟩) ((Weak.w (t' := [(9, .row 5 (kf.length + own.length))]) (tab' := [(5, .row 39 3 (kf.map eN ++ own.map eN))]) (n' := 9) (h2 := by simp [TabSub, look, Obj.refsOK, refsOKs, AV.refsOK])).trans (Weak.packed (objs := [.row 39 3 (kf.map eN ++ own.map eN)]) (fp := [5]) rfl rfl (by simp [hz0]) rfl rfl)) ?_
          repeat (first
            | (apply axJ; (focus ((with_reducible constructor) <;> rfl)))
            | (apply awT mixedOK hΓ (by kernel_rfl); (simp (disch := omega) only [go_sem, ↓reduceIte, dk, Int.reduceBEq, Int.reduceBNe, Bool.true_bne, Bool.false_bne, Bool.not_true, Bool.not_false, Γ34, hcall2, hml, List.length_append, List.length_map] <;> with_reducible rfl))
            | ((first | apply awR hΓ | apply awG | apply awH mixedOK hΓ rfl (by kernel_rfl) | apply ovE rfl); (simp (disch := omega) only [go_sem, ↓reduceIte, dk, Int.reduceBEq, Int.reduceBNe, Bool.true_bne, Bool.false_bne, Bool.not_true, Bool.not_false, Γ34, hcall2, hml, List.length_append, List.length_map] <;> with_reducible rfl); exact trivial)
            | rfl)
    · rw [if_neg (fun h => h2 h.2)]
      rw [h1] at e22
      rw [vld_ne h2] at e22o
      rw [start_frame (by simp)]; simp only [enumV, go_sem, emptyH]
      repeat (first
        | (apply axJ; (focus ((with_reducible constructor) <;> rfl)))
        | (apply awT mixedOK hΓ (by kernel_rfl); (simp (disch := omega) only [go_sem, ↓reduceIte, dk, Int.reduceBEq, Int.reduceBNe, Bool.true_bne, Bool.false_bne, Bool.not_true, Bool.not_false, Γ34, e22, e22o] <;> with_reducible rfl))
        | ((first | apply awR hΓ | apply awG | apply awH mixedOK hΓ rfl (by kernel_rfl) | apply ovE rfl); (simp (disch := omega) only [go_sem, ↓reduceIte, dk, Int.reduceBEq, Int.reduceBNe, Bool.true_bne, Bool.false_bne, Bool.not_true, Bool.not_false, Γ34, e22, e22o] <;> with_reducible rfl); exact trivial)
        | rfl)
  · rw [if_neg (fun h => h1 h.1)]
    rw [vld_ne h1] at e22
    rw [start_frame (by simp)]; simp only [enumV, go_sem, emptyH]
    repeat (first
      | (apply axJ; (focus ((with_reducible constructor) <;> rfl)))
      | (apply awT mixedOK hΓ (by kernel_rfl); (simp (disch := omega) only [go_sem, ↓reduceIte, dk, Int.reduceBEq, Int.reduceBNe, Bool.true_bne, Bool.false_bne, Bool.not_true, Bool.not_false, Γ34, e22] <;> with_reducible rfl))
      | ((first | apply awR hΓ | apply awG | apply awH mixedOK hΓ rfl (by kernel_rfl) | apply ovE rfl); (simp (disch := omega) only [go_sem, ↓reduceIte, dk, Int.reduceBEq, Int.reduceBNe, Bool.true_bne, Bool.false_bne, Bool.not_true, Bool.not_false, Γ34, e22] <;> with_reducible rfl); exact trivial)
      | rfl)
end Go.Ab
