/-
  One text of the proof (own work): contracts of functions of the program, by the abstract machine.
-/
import Derived.Test.YtmcgfohokniepaaX21
import Derived.Test.YtmcgfohokniepaaX38
import Derived.Test.YtmcgfohokniepaaX39
set_option linter.unusedVariables false
set_option linter.unusedSimpArgs false
namespace Go.Ab
open Go Go.RowKit Go.Proofs
set_option maxRecDepth 4000
set_option maxHeartbeats 40000000
theorem f72_ex : ∃ g, LocOK Try.prog 72 g ∧ ∀ x : ApX, ApOK x → ∃ r os, ApG x r os ∧ g (apA x) (apO x) = some (r, os) := by
  have hΓ := Γ72_ok
  refine loc_ex (enc := apA) (eno := apO) (dom := ApOK) (good := ApG) (n := 290) (rs := []) Try.func72 (by kernel_rfl) rfl (by kernel_rfl) (by kernel_rfl) ap_inj ?_
  rintro ⟨s, o, rvs, pks, dcs⟩ ⟨hs, ho, z1, z2, z3⟩
  dsimp only at hs ho z1 z2 z3
  have hn := hs.n
  unfold apA apO eSet
  dsimp only
  have he := hs.ev _ (List.getElem_mem ho)
  generalize hye : s.l[o] = e at he
  rw [start_frameA (by simp)]; simp only [enumA, enumO, List.length_cons, List.length_nil, Nat.reduceAdd, go_sem]
  (repeat (first | (refine axA ?_; first | (apply axR hΓ; (simp (disch := omega) only [go_sem, ↓reduceIte, dk, hye, eE] <;> with_reducible rfl); exact trivial) | refine axA ?_ | refine axB ?_) | refine axB ?_ | (apply axK; (focus ((with_reducible constructor) <;> rfl))) | ((first | apply axR hΓ | apply axG | apply ovX rfl | apply ovE rfl); (simp (disch := omega) only [go_sem, ↓reduceIte, dk, hye, eE] <;> with_reducible rfl); exact trivial) | rfl))
  refine axp_loop_at (X := Nat × List Rw) (fun y => (frame 290 [(1, .ptr 0 0), (2, .data (i64 o)), (3, .ptr 4 0), (6, .ptr 10 0), (7, .data (i64 y.1))])) (fun y => [(0, .box [.row 1 y.2.length, .row 2 pks.length, .row 3 dcs.length, .nils]), (1, .row 147 5 (y.2.map eRw)), (2, .row 68 3 (pks.map ePk)), (3, .row 60 10 (dcs.map eDc)), (4, .box [.data (.list (s.l.map eE)), .data (.list (s.ids.map .str)), .data (.list (s.rk.map i64)), .data (.list (s.ps.map eB)), .data (.list (s.od.map i64))]), (10, .box [.data (i64 e.k), .data (.str e.au), .data (i64 e.n), .data (.list (e.ns.map .str)), .data (.str e.ro), .data (i64 e.kb), .data (i64 e.kh), .data (.str e.pk), .data (.str e.dg), .data (.str e.q), .data (.str e.sc), .data (.str e.an), .data (i64 e.u), .data (.list (e.tg.map .str)), .data (i64 0), .data (.list []), .data (.list []), .data (.list [])])]) 13
    (fun y => y.1 ≤ rvs.length ∧ y.2.length = rvs.length) (fun y => rvs.length - y.1) (0, rvs) ⟨Nat.zero_le _, rfl⟩ (Weak.v (by (simp [ConvF, lookV, Conv, ints, upd]; done)) (by (simp (disch := omega) only [TabSub, look, if_pos, if_neg, Obj.refsOK, refsOKs, AV.refsOK, decide_eq_true_eq, Bool.and_true, Bool.and_self, upd] ) <;> ((repeat' apply And.intro) <;> first | exact True.intro | omega | (simp; done) | rfl))) ?_
  rintro ⟨i, r2⟩ ⟨h1, h2⟩
  dsimp only at h1 h2 ⊢
  by_cases hi : i < rvs.length
  · have hi2 : i < r2.length := by omega
    generalize hyr : r2[i] = rv
    generalize hc : (rv.name == e.au) = c
    (repeat (first | (refine axA ?_; first | (apply axR hΓ; (simp (disch := omega) only [go_sem, ↓reduceIte, dk] <;> with_reducible rfl); exact trivial) | refine axA ?_ | refine axB ?_) | refine axB ?_ | (apply axK; (focus ((with_reducible constructor) <;> rfl))) | ((first | apply axR hΓ | apply axG | apply ovX rfl | apply ovE rfl); (simp (disch := omega) only [go_sem, ↓reduceIte, dk] <;> with_reducible rfl); exact trivial) | rfl))
    refine axA ?_
    (apply axp_regf mixedOK hΓ (by kernel_rfl); (simp (disch := omega) only [go_sem, ↓reduceIte, dk, hyr, hc] <;> with_reducible rfl); (simp only [go_sem] <;> with_reducible rfl))
    cases c with
    | true =>
      (repeat (first | (apply axJ; (focus ((with_reducible constructor) <;> rfl))) | ((first | apply axR hΓ | apply axG | apply ovX rfl | apply ovE rfl); (simp (disch := omega) only [go_sem, ↓reduceIte, dk, hyr, set_eRw] <;> with_reducible rfl); exact trivial) | rfl))
      exact ⟨(i + 1, r2.set i ⟨rv.name, rv.root, rv.bits, rv.height, IntKind.wrap .i64 (rv.next + 1)⟩), ⟨by dsimp only; omega, by dsimp only; rw [List.length_set]; exact h2⟩, by dsimp only; omega, Weak.v (by (simp [ConvF, lookV, Conv, ints, List.length_set]; done)) (by (simp (disch := omega) only [TabSub, look, if_pos, if_neg, Obj.refsOK, refsOKs, AV.refsOK, decide_eq_true_eq, Bool.and_true, Bool.and_self, List.length_set] ) <;> ((repeat' apply And.intro) <;> first | exact True.intro | omega | (simp; done) | rfl))⟩
    | false =>
      (repeat (first | (apply axJ; (focus ((with_reducible constructor) <;> rfl))) | ((first | apply axR hΓ | apply axG | apply ovX rfl | apply ovE rfl); (simp (disch := omega) only [go_sem, ↓reduceIte, dk] <;> with_reducible rfl); exact trivial) | rfl))
      exact ⟨(i + 1, r2), ⟨by dsimp only; omega, h2⟩, by dsimp only; omega, Weak.w⟩
  refine axA ?_
  refine axA ?_
  (repeat (first | refine axB ?_ | (apply axK; (focus ((with_reducible constructor) <;> rfl))) | ((first | apply axR hΓ | apply axG | apply ovX rfl | apply ovE rfl); (simp (disch := omega) only [go_sem, ↓reduceIte, dk] <;> with_reducible rfl); exact trivial) | rfl))
  have hk1 := he.k1
  have hk5 := he.k5
  have hend : ∀ (sl : List AV) (n : Nat) (b1 b2 : List AV) (w : Nat) (hw : 4 ≤ w), RetLX Try.prog [] 4 (ApG ⟨s, o, rvs, pks, dcs⟩) .normal sl ⟨[(0, .box [.row 1 r2.length, .row 2 pks.length, .row 3 dcs.length, .nils]), (1, .row 147 5 (r2.map eRw)), (2, .row 68 3 (pks.map ePk)), (3, .row 60 10 (dcs.map eDc)), (4, .box b1), (w, .box b2)], n⟩ := fun sl n b1 b2 w hw =>
    retl_x (r := .tup []) (os := apO ⟨s, o, r2, pks, dcs⟩) rfl rfl (Weak.of (by simp [apO]) ⟨rfl, trivial⟩ (by simp [TabSub, apO, enumO, look, Obj.refsOK, refsOKs, AV.refsOK]) rfl) ⟨rfl, r2, pks, dcs, by dsimp only; omega, by dsimp only; omega, .inl rfl, .inl rfl⟩
  rcases (show e.k = 1 ∨ e.k = 2 ∨ e.k = 3 ∨ e.k = 4 ∨ e.k = 5 by omega) with hk | hk | hk | hk | hk
  · (repeat (first | (refine axA ?_; first | (apply axR hΓ; (simp (disch := omega) only [go_sem, ↓reduceIte, dk, hk, Int.reduceBEq, Int.reduceBNe, Bool.true_bne, Bool.false_bne, Bool.not_true, Bool.not_false] <;> with_reducible rfl); exact trivial) | refine axA ?_ | refine axB ?_) | refine axB ?_ | (apply axK; (focus ((with_reducible constructor) <;> rfl))) | ((first | apply axR hΓ | apply axG | apply ovX rfl | apply ovE rfl); (simp (disch := omega) only [go_sem, ↓reduceIte, dk, hk, Int.reduceBEq, Int.reduceBNe, Bool.true_bne, Bool.false_bne, Bool.not_true, Bool.not_false] <;> with_reducible rfl); exact trivial) | rfl))
    refine axp_loop_at (X := Nat) (fun k => (frame 290 [(1, .ptr 0 0), (2, .data (i64 o)), (3, .ptr 4 0), (6, .ptr 10 0), (8, .data (i64 k))])) (fun _ => [(0, .box [.row 1 r2.length, .row 2 pks.length, .row 3 dcs.length, .nils]), (1, .row 147 5 (r2.map eRw)), (2, .row 68 3 (pks.map ePk)), (3, .row 60 10 (dcs.map eDc)), (4, .box [.data (.list (s.l.map eE)), .data (.list (s.ids.map .str)), .data (.list (s.rk.map i64)), .data (.list (s.ps.map eB)), .data (.list (s.od.map i64))]), (10, .box [.data (i64 1), .data (.str e.au), .data (i64 e.n), .data (.list (e.ns.map .str)), .data (.str e.ro), .data (i64 e.kb), .data (i64 e.kh), .data (.str e.pk), .data (.str e.dg), .data (.str e.q), .data (.str e.sc), .data (.str e.an), .data (i64 e.u), .data (.list (e.tg.map .str)), .data (i64 0), .data (.list []), .data (.list []), .data (.list [])])]) 13
      (fun k => k ≤ r2.length) (fun k => r2.length - k) 0 (Nat.zero_le _) (Weak.w) ?_
    intro k hk2
    have hout : ∀ n, 13 ≤ n → axp Try.prog 4 (navF Try.f72 [1, 1, 1, 1, 0, 1, 0, 1, 1]) (RetLX Try.prog [] 4 (ApG ⟨s, o, rvs, pks, dcs⟩)) ((frame 290 [(1, .ptr 0 0), (2, .data (i64 o)), (3, .ptr 4 0), (6, .ptr 10 0), (8, .data (i64 k))])) ⟨[(0, .box [.row 1 r2.length, .row 2 pks.length, .row 3 dcs.length, .nils]), (1, .row 147 5 (r2.map eRw)), (2, .row 68 3 (pks.map ePk)), (3, .row 60 10 (dcs.map eDc)), (4, .box [.data (.list (s.l.map eE)), .data (.list (s.ids.map .str)), .data (.list (s.rk.map i64)), .data (.list (s.ps.map eB)), .data (.list (s.od.map i64))]), (10, .box [.data (i64 1), .data (.str e.au), .data (i64 e.n), .data (.list (e.ns.map .str)), .data (.str e.ro), .data (i64 e.kb), .data (i64 e.kh), .data (.str e.pk), .data (.str e.dg), .data (.str e.q), .data (.str e.sc), .data (.str e.an), .data (i64 e.u), .data (.list (e.tg.map .str)), .data (i64 0), .data (.list []), .data (.list []), .data (.list [])])], n⟩ := fun n hn2 => axp_weak (Weak.w) (f72_1 hk2 h2 z1)
    have hpost : ∀ (ex : Exit) (sl : List AV) (H : Heap), RetLX Try.prog [] 4 (ApG ⟨s, o, rvs, pks, dcs⟩) ex sl H → inBlockA 2 (RetLX Try.prog [] 4 (ApG ⟨s, o, rvs, pks, dcs⟩)) ex sl H := fun ex sl H h => by
      obtain ⟨r, os, hg, he, rest⟩ := h
      cases ex <;> simp [Exit.over] at he <;> exact ⟨r, os, hg, rfl, rest⟩
    by_cases hk3 : k < r2.length
    · generalize hyr : r2[k] = rv
      generalize hc : Op.bytesLess rv.name e.au = c
      (repeat (first | (refine axA ?_; first | (apply axR hΓ; (simp (disch := omega) only [go_sem, ↓reduceIte, dk] <;> with_reducible rfl); exact trivial) | refine axA ?_ | refine axB ?_) | refine axB ?_ | (apply axK; (focus ((with_reducible constructor) <;> rfl))) | ((first | apply axR hΓ | apply axG | apply ovX rfl | apply ovE rfl); (simp (disch := omega) only [go_sem, ↓reduceIte, dk] <;> with_reducible rfl); exact trivial) | rfl))
      cases c with
      | true =>
        (apply axp_regf mixedOK hΓ (by kernel_rfl); (simp (disch := omega) only [go_sem, ↓reduceIte, dk, hyr, hc] <;> with_reducible rfl); (simp only [go_sem] <;> with_reducible rfl))
        (repeat (first | (apply axJ; (focus ((with_reducible constructor) <;> rfl))) | ((first | apply axR hΓ | apply axG | apply ovX rfl | apply ovE rfl); (simp (disch := omega) only [go_sem, ↓reduceIte, dk] <;> with_reducible rfl); exact trivial) | rfl))
        exact ⟨k + 1, by omega, by omega, Weak.w⟩
      | false =>
        (apply axp_regf mixedOK hΓ (by kernel_rfl); (simp (disch := omega) only [go_sem, ↓reduceIte, dk, hyr, hc] <;> with_reducible rfl); (simp only [go_sem] <;> with_reducible rfl))
        (repeat (first | refine axB ?_ | (apply axK; (focus ((with_reducible constructor) <;> rfl))) | ((first | apply axR hΓ | apply axG | apply ovX rfl | apply ovE rfl); (simp (disch := omega) only [go_sem, ↓reduceIte, dk] <;> with_reducible rfl); exact trivial) | rfl))
        exact axp_mono (axp_weak (Weak.w) (hout 13 (by omega))) hpost
    · (repeat (first | (refine axA ?_; first | (apply axR hΓ; (simp (disch := omega) only [go_sem, ↓reduceIte, dk] <;> with_reducible rfl); exact trivial) | refine axA ?_ | refine axB ?_) | refine axB ?_ | (apply axK; (focus ((with_reducible constructor) <;> rfl))) | ((first | apply axR hΓ | apply axG | apply ovX rfl | apply ovE rfl); (simp (disch := omega) only [go_sem, ↓reduceIte, dk] <;> with_reducible rfl); exact trivial) | rfl))
      (apply axp_regf mixedOK hΓ (by kernel_rfl); (simp (disch := omega) only [go_sem, ↓reduceIte, dk] <;> with_reducible rfl); (simp only [go_sem] <;> with_reducible rfl))
      (repeat (first | refine axB ?_ | (apply axK; (focus ((with_reducible constructor) <;> rfl))) | ((first | apply axR hΓ | apply axG | apply ovX rfl | apply ovE rfl); (simp (disch := omega) only [go_sem, ↓reduceIte, dk] <;> with_reducible rfl); exact trivial) | rfl))
      exact axp_mono (axp_weak (Weak.w) (hout 13 (by omega))) hpost
  · (repeat (first | (refine axA ?_; first | (apply axR hΓ; (simp (disch := omega) only [go_sem, ↓reduceIte, dk, hk, Int.reduceBEq, Int.reduceBNe, Bool.true_bne, Bool.false_bne, Bool.not_true, Bool.not_false] <;> with_reducible rfl); exact trivial) | refine axA ?_ | refine axB ?_) | refine axB ?_ | (apply axK; (focus ((with_reducible constructor) <;> rfl))) | ((first | apply axR hΓ | apply axG | apply ovX rfl | apply ovE rfl); (simp (disch := omega) only [go_sem, ↓reduceIte, dk, hk, Int.reduceBEq, Int.reduceBNe, Bool.true_bne, Bool.false_bne, Bool.not_true, Bool.not_false] <;> with_reducible rfl); exact trivial) | rfl))
    refine axp_loop_at (X := Nat) (fun k => (frame 290 [(1, .ptr 0 0), (2, .data (i64 o)), (3, .ptr 4 0), (6, .ptr 10 0), (10, .data (i64 k))])) (fun _ => [(0, .box [.row 1 r2.length, .row 2 pks.length, .row 3 dcs.length, .nils]), (1, .row 147 5 (r2.map eRw)), (2, .row 68 3 (pks.map ePk)), (3, .row 60 10 (dcs.map eDc)), (4, .box [.data (.list (s.l.map eE)), .data (.list (s.ids.map .str)), .data (.list (s.rk.map i64)), .data (.list (s.ps.map eB)), .data (.list (s.od.map i64))]), (10, .box [.data (i64 2), .data (.str e.au), .data (i64 e.n), .data (.list (e.ns.map .str)), .data (.str e.ro), .data (i64 e.kb), .data (i64 e.kh), .data (.str e.pk), .data (.str e.dg), .data (.str e.q), .data (.str e.sc), .data (.str e.an), .data (i64 e.u), .data (.list (e.tg.map .str)), .data (i64 0), .data (.list []), .data (.list []), .data (.list [])])]) 13
      (fun k => k ≤ pks.length) (fun k => pks.length - k) 0 (Nat.zero_le _) (Weak.w) ?_
    intro k hk2
    have hout : ∀ n, 13 ≤ n → axp Try.prog 4 (navF Try.f72 [1, 1, 1, 1, 0, 1, 1, 1, 0, 1, 1]) (RetLX Try.prog [] 4 (ApG ⟨s, o, rvs, pks, dcs⟩)) ((frame 290 [(1, .ptr 0 0), (2, .data (i64 o)), (3, .ptr 4 0), (6, .ptr 10 0), (10, .data (i64 k))])) ⟨[(0, .box [.row 1 r2.length, .row 2 pks.length, .row 3 dcs.length, .nils]), (1, .row 147 5 (r2.map eRw)), (2, .row 68 3 (pks.map ePk)), (3, .row 60 10 (dcs.map eDc)), (4, .box [.data (.list (s.l.map eE)), .data (.list (s.ids.map .str)), .data (.list (s.rk.map i64)), .data (.list (s.ps.map eB)), .data (.list (s.od.map i64))]), (10, .box [.data (i64 2), .data (.str e.au), .data (i64 e.n), .data (.list (e.ns.map .str)), .data (.str e.ro), .data (i64 e.kb), .data (i64 e.kh), .data (.str e.pk), .data (.str e.dg), .data (.str e.q), .data (.str e.sc), .data (.str e.an), .data (i64 e.u), .data (.list (e.tg.map .str)), .data (i64 0), .data (.list []), .data (.list []), .data (.list [])])], n⟩ := fun n hn2 => axp_weak (Weak.w) (f72_2 hk2 h2 z2)
    have hpost : ∀ (ex : Exit) (sl : List AV) (H : Heap), RetLX Try.prog [] 4 (ApG ⟨s, o, rvs, pks, dcs⟩) ex sl H → inBlockA 2 (RetLX Try.prog [] 4 (ApG ⟨s, o, rvs, pks, dcs⟩)) ex sl H := fun ex sl H h => by
      obtain ⟨r, os, hg, he, rest⟩ := h
      cases ex <;> simp [Exit.over] at he <;> exact ⟨r, os, hg, rfl, rest⟩
    by_cases hk3 : k < pks.length
    · generalize hyr : pks[k] = rv
      generalize hc : Op.bytesLess rv.name e.pk = c
      (repeat (first | (refine axA ?_; first | (apply axR hΓ; (simp (disch := omega) only [go_sem, ↓reduceIte, dk] <;> with_reducible rfl); exact trivial) | refine axA ?_ | refine axB ?_) | refine axB ?_ | (apply axK; (focus ((with_reducible constructor) <;> rfl))) | ((first | apply axR hΓ | apply axG | apply ovX rfl | apply ovE rfl); (simp (disch := omega) only [go_sem, ↓reduceIte, dk] <;> with_reducible rfl); exact trivial) | rfl))
      cases c with
      | true =>
        (apply axp_regf mixedOK hΓ (by kernel_rfl); (simp (disch := omega) only [go_sem, ↓reduceIte, dk, hyr, hc] <;> with_reducible rfl); (simp only [go_sem] <;> with_reducible rfl))
        (repeat (first | (apply axJ; (focus ((with_reducible constructor) <;> rfl))) | ((first | apply axR hΓ | apply axG | apply ovX rfl | apply ovE rfl); (simp (disch := omega) only [go_sem, ↓reduceIte, dk] <;> with_reducible rfl); exact trivial) | rfl))
        exact ⟨k + 1, by omega, by omega, Weak.w⟩
      | false =>
        (apply axp_regf mixedOK hΓ (by kernel_rfl); (simp (disch := omega) only [go_sem, ↓reduceIte, dk, hyr, hc] <;> with_reducible rfl); (simp only [go_sem] <;> with_reducible rfl))
        (repeat (first | refine axB ?_ | (apply axK; (focus ((with_reducible constructor) <;> rfl))) | ((first | apply axR hΓ | apply axG | apply ovX rfl | apply ovE rfl); (simp (disch := omega) only [go_sem, ↓reduceIte, dk] <;> with_reducible rfl); exact trivial) | rfl))
        exact axp_mono (axp_weak (Weak.w) (hout 13 (by omega))) hpost
    · (repeat (first | (refine axA ?_; first | (apply axR hΓ; (simp (disch := omega) only [go_sem, ↓reduceIte, dk] <;> with_reducible rfl); exact trivial) | refine axA ?_ | refine axB ?_) | refine axB ?_ | (apply axK; (focus ((with_reducible constructor) <;> rfl))) | ((first | apply axR hΓ | apply axG | apply ovX rfl | apply ovE rfl); (simp (disch := omega) only [go_sem, ↓reduceIte, dk] <;> with_reducible rfl); exact trivial) | rfl))
      (apply axp_regf mixedOK hΓ (by kernel_rfl); (simp (disch := omega) only [go_sem, ↓reduceIte, dk] <;> with_reducible rfl); (simp only [go_sem] <;> with_reducible rfl))
      (repeat (first | refine axB ?_ | (apply axK; (focus ((with_reducible constructor) <;> rfl))) | ((first | apply axR hΓ | apply axG | apply ovX rfl | apply ovE rfl); (simp (disch := omega) only [go_sem, ↓reduceIte, dk] <;> with_reducible rfl); exact trivial) | rfl))
      exact axp_mono (axp_weak (Weak.w) (hout 13 (by omega))) hpost
  · have hpost : ∀ (ex : Exit) (sl : List AV) (H : Heap), RetLX Try.prog [] 4 (ApG ⟨s, o, rvs, pks, dcs⟩) ex sl H → inBlockA 2 (RetLX Try.prog [] 4 (ApG ⟨s, o, rvs, pks, dcs⟩)) ex sl H := fun ex sl H h => by
      obtain ⟨r, os, hg, he, rest⟩ := h
      cases ex <;> simp [Exit.over] at he <;> exact ⟨r, os, hg, rfl, rest⟩
    (repeat (first | (refine axA ?_; first | (apply axR hΓ; (simp (disch := omega) only [go_sem, ↓reduceIte, dk, hk, Int.reduceBEq, Int.reduceBNe, Bool.true_bne, Bool.false_bne, Bool.not_true, Bool.not_false] <;> with_reducible rfl); exact trivial) | refine axA ?_ | refine axB ?_) | refine axB ?_ | (apply axK; (focus ((with_reducible constructor) <;> rfl))) | ((first | apply axR hΓ | apply axG | apply ovX rfl | apply ovE rfl); (simp (disch := omega) only [go_sem, ↓reduceIte, dk, hk, Int.reduceBEq, Int.reduceBNe, Bool.true_bne, Bool.false_bne, Bool.not_true, Bool.not_false] <;> with_reducible rfl); exact trivial) | rfl))
    exact axp_mono (axp_weak (Weak.v (by (simp [ConvF, lookV, Conv, ints, ↓reduceIte]; done)) (by (simp (disch := omega) only [TabSub, look, if_pos, if_neg, Obj.refsOK, refsOKs, AV.refsOK, decide_eq_true_eq, Bool.and_true, Bool.and_self, ↓reduceIte] ) <;> ((repeat' apply And.intro) <;> first | exact True.intro | omega | (simp; done) | rfl))) (f72_3 hs ho hye hk h2 z3)) hpost
  · (repeat (first | (apply axJ; (focus ((with_reducible constructor) <;> rfl))) | ((first | apply axR hΓ | apply axG | apply ovX rfl | apply ovE rfl); (simp (disch := omega) only [go_sem, ↓reduceIte, dk, hk, Int.reduceBEq, Int.reduceBNe, Bool.true_bne, Bool.false_bne, Bool.not_true, Bool.not_false] <;> with_reducible rfl); exact trivial) | rfl))
    exact hend _ _ _ _ _ (by omega)
  · (repeat (first | (apply axJ; (focus ((with_reducible constructor) <;> rfl))) | ((first | apply axR hΓ | apply axG | apply ovX rfl | apply ovE rfl); (simp (disch := omega) only [go_sem, ↓reduceIte, dk, hk, Int.reduceBEq, Int.reduceBNe, Bool.true_bne, Bool.false_bne, Bool.not_true, Bool.not_false] <;> with_reducible rfl); exact trivial) | rfl))
    exact hend _ _ _ _ _ (by omega)
noncomputable def g72 := f72_ex.choose
theorem f72_ok : LocOK Try.prog 72 g72 := f72_ex.choose_spec.1
theorem g72_eq {x : ApX} (h : ApOK x) : ∃ r os, ApG x r os ∧ g72 (apA x) (apO x) = some (r, os) := f72_ex.choose_spec.2 x h
end Go.Ab
namespace Go.Ab
open Go Go.RowKit Go.Proofs
set_option maxRecDepth 4000
set_option maxHeartbeats 40000000
noncomputable def Γ45 : FuncId → Option CSpec := fun f => if f = 72 then some (.loc g72) else Γ45p f
theorem Γ45_ok : ∀ f s, Γ45 f = some s → SpecOK Try.prog f s := by
  intro f s h
  unfold Γ45 at h
  split at h
  · rename_i hf; cases h; subst hf; exact f72_ok
  · exact Γ45p_ok f s h
def DcsOK (s : SetR) (dcs : List Dc) : Prop := ∀ d ∈ dcs, ∃ (o : Nat) (e : Ev), s.ids[o]? = some d.id ∧ s.l[o]? = some e ∧ d.q = e.q ∧ d.s = e.sc ∧ d.ans = e.an
theorem DcsOK.one {s : SetR} {dcs : List Dc} (h : DcsOK s dcs) (hn : s.ids.Nodup) : ∀ a ∈ dcs, ∀ b ∈ dcs, a.id = b.id → a.ans = b.ans := fun a ha b hb he => by
  obtain ⟨o, e, h1, h2, -, -, h3⟩ := h a ha
  obtain ⟨o', e', k1, k2, -, -, k3⟩ := h b hb
  rw [← he, ← h1] at k1
  obtain ⟨hlt, hx⟩ := List.getElem?_eq_some_iff.1 h1
  have := (List.getElem?_inj hlt hn).1 k1.symm
  subst this
  rw [h2] at k2
  cases k2
  rw [h3, k3]
theorem DcsOK.q {s : SetR} {dcs : List Dc} (h : DcsOK s dcs) (hs : SetOK s) : ∀ d ∈ dcs, d.q.length ≤ 64 := fun d hd => by
  obtain ⟨o, e, h1, h2, h3, -⟩ := h d hd
  rw [h3]
  exact (hs.ev e (List.mem_of_getElem? h2)).q
theorem f45_l {l : List Ev} {s : SetR} (hs : SetOK s) (hnd : s.ids.Nodup) : axp Try.prog 0 (navF Try.f45 [1, 1, 1, 1, 1]) (RetX Try.prog [.cell 2 30, .tmp 3, .tmp 4] (FoG l)) ((frame 136 [(2, .ptr 0 0), (5, .ptr 1 0), (10, .ptr 2 0)])) ⟨[(0, .box [.nils, .nils, .nils, .nils]), (1, .box [.data (.list (s.l.map eE)), .data (.list (s.ids.map .str)), .data (.list (s.rk.map i64)), .data (.list (s.ps.map eB)), .data (.list (s.od.map i64))]), (2, .box [.row 3 0, .row 4 0, .row 5 0, .nils]), (3, .row 147 5 (([] : List Rw).map eRw)), (4, .row 68 3 (([] : List Pk).map ePk)), (5, .row 60 10 (([] : List Dc).map eDc))], 6⟩ := by
  have hΓ := Γ45_ok
  conv => arg 3; whnf
  have hod := hs.od
  have hsn := hs.n
  (repeat (first | (refine axA ?_; first | (apply axR hΓ; (simp (disch := omega) only [go_sem, ↓reduceIte, dk] <;> with_reducible rfl); exact trivial) | refine axA ?_ | refine axB ?_) | refine axB ?_ | (apply axK; (focus ((with_reducible constructor) <;> rfl))) | ((first | apply axR hΓ | apply axG | apply ovX rfl | apply ovE rfl); (simp (disch := omega) only [go_sem, ↓reduceIte, dk] <;> with_reducible rfl); exact trivial) | rfl))
  refine axp_loop_at (X := Nat × List Rw × List Pk × List Dc) (fun x => (frame 136 [(2, .ptr 0 0), (5, .ptr 1 0), (10, .ptr 2 0), (11, .data (i64 x.1))])) (fun x => [(0, .box [.nils, .nils, .nils, .nils]), (1, .box [.data (.list (s.l.map eE)), .data (.list (s.ids.map .str)), .data (.list (s.rk.map i64)), .data (.list (s.ps.map eB)), .data (.list (s.od.map i64))]), (2, .box [.row 3 x.2.1.length, .row 4 x.2.2.1.length, .row 5 x.2.2.2.length, .nils]), (3, .row 147 5 (x.2.1.map eRw)), (4, .row 68 3 (x.2.2.1.map ePk)), (5, .row 60 10 (x.2.2.2.map eDc))]) 6
    (fun x => x.1 ≤ s.od.length ∧ x.2.1.length ≤ x.1 ∧ x.2.2.1.length ≤ x.1 ∧ x.2.2.2.length ≤ x.1 ∧ DcsOK s x.2.2.2) (fun x => s.od.length - x.1) (0, [], [], []) ⟨Nat.zero_le _, by simp, by simp, by simp, fun _ h => by cases h⟩ (Weak.w) ?_
  rintro ⟨k, rvs, pks, dcs⟩ ⟨h1, h2, h3, h4, h5⟩
  dsimp only at h1 h2 h3 h4 h5 ⊢
  by_cases hk : k < s.od.length
  · have ho := hs.ods _ (List.getElem_mem hk)
    generalize hob : s.od[k] = o at ho
    obtain ⟨o, rfl⟩ := Int.eq_ofNat_of_zero_le ho.1
    have ho2 : o < s.l.length := by omega
    obtain ⟨r, os, ⟨rfl, rvs', pks', dcs', hr, hp, hd, hos⟩, e72⟩ := g72_eq (x := ⟨s, o, rvs, pks, dcs⟩) ⟨hs, ho2, by dsimp only; omega, by dsimp only; omega, by dsimp only; omega⟩
    unfold apA apO eSet at e72
    dsimp only at hr hp hd hos e72
    have hdl : dcs'.length ≤ dcs.length + 1 := by
      rcases hd with rfl | ⟨d, rfl, -⟩
      · omega
      · simp
    have hdo : DcsOK s dcs' := by
      rcases hd with rfl | ⟨d, rfl, q1, e, q2, q3, q4, q5⟩
      · exact h5
      · intro x hx
        rcases List.mem_append.1 hx with hx | hx
        · exact h5 x hx
        · rw [List.mem_singleton.1 hx]
          exact ⟨o, e, q1.symm, q2, q3, q4, q5⟩
    have hI : (k + 1 ≤ s.od.length ∧ rvs'.length ≤ k + 1 ∧ pks'.length ≤ k + 1 ∧ dcs'.length ≤ k + 1 ∧ DcsOK s dcs') := ⟨by omega, by omega, by omega, by omega, hdo⟩
    (repeat (first | (refine axA ?_; first | (apply axR hΓ; (simp (disch := omega) only [go_sem, ↓reduceIte, dk] <;> with_reducible rfl); exact trivial) | refine axA ?_ | refine axB ?_) | refine axB ?_ | (apply axK; (focus ((with_reducible constructor) <;> rfl))) | ((first | apply axR hΓ | apply axG | apply ovX rfl | apply ovE rfl); (simp (disch := omega) only [go_sem, ↓reduceIte, dk] <;> with_reducible rfl); exact trivial) | rfl))
    rcases hos with rfl | ⟨old, rfl⟩ | ⟨old, rfl⟩
    · unfold apO at e72
      have hcall : callLoc 17 ⟨[(0, .box [.nils, .nils, .nils, .nils]), (1, .box [.data (.list (s.l.map eE)), .data (.list (s.ids.map .str)), .data (.list (s.rk.map i64)), .data (.list (s.ps.map eB)), .data (.list (s.od.map i64))]), (2, .box [.row 3 rvs.length, .row 4 pks.length, .row 5 dcs.length, .nils]), (3, .row 147 5 (rvs.map eRw)), (4, .row 68 3 (pks.map ePk)), (5, .row 60 10 (dcs.map eDc))], 11⟩ g72 [.data (.agg [.list (s.l.map eE), .list (s.ids.map .str), .list (s.rk.map i64), .list (s.ps.map eB), .list (s.od.map i64)]), .ptr 2 0, .data (i64 o)] = some (.tup [], ⟨[(0, .box [.nils, .nils, .nils, .nils]), (1, .box [.data (.list (s.l.map eE)), .data (.list (s.ids.map .str)), .data (.list (s.rk.map i64)), .data (.list (s.ps.map eB)), .data (.list (s.od.map i64))]), (2, .box [.row 3 rvs'.length, .row 4 pks'.length, .row 5 dcs'.length, .nils]), (3, .row 147 5 (rvs'.map eRw)), (4, .row 68 3 (pks'.map ePk)), (5, .row 60 10 (dcs'.map eDc))], 17⟩) := (callLoc_of (fp := [2, 3, 4, 5]) rfl rfl rfl e72 (by simp)).trans rfl
      (apply axp_regm (nst := false) (nst' := false) 6 mixedOK hΓ (by kernel_rfl); (simp (disch := omega) only [go_sem, ↓reduceIte, dk, hob, Γ45, hcall, look_upd] <;> with_reducible rfl); (simp (disch := omega) only [go_sem, ↓reduceIte] <;> with_reducible rfl); (focus rfl); (focus rfl); (simp (disch := omega) only [go_sem, ↓reduceIte, dk, hob, Γ45, hcall, look_upd] <;> with_reducible rfl); (focus (first | (simp (disch := omega) only [go_sem, ↓reduceIte, dk, hob, Γ45, hcall, look_upd]; done) | (simp (disch := omega) only [go_sem, ↓reduceIte, dk, hob, Γ45, hcall, look_upd]; omega))); (focus (dsimp only [List.take_succ_cons, List.take_zero]; (repeat (apply same2_cons; (focus (first | (left; decide) | (right; simp (disch := omega) only [go_sem, ↓reduceIte, dk, hob, Γ45, hcall, look_upd]; done))); (simp (disch := omega) only [go_sem, ↓reduceIte, dk, hob, Γ45, hcall, look_upd] <;> with_reducible rfl))); exact same2_nil)); (simp (disch := omega) only [go_sem, ↓reduceIte, dk, hob, Γ45, hcall, look_upd] <;> with_reducible rfl))
      (repeat (first | (apply axJ; (focus ((with_reducible constructor) <;> rfl))) | ((first | apply axR hΓ | apply axG | apply ovX rfl | apply ovE rfl); (simp (disch := omega) only [go_sem, ↓reduceIte, dk] <;> with_reducible rfl); exact trivial) | rfl))
      exact ⟨(k + 1, rvs', pks', dcs'), hI, by dsimp only; omega, Weak.w⟩
    · have hcall : callLoc 17 ⟨[(0, .box [.nils, .nils, .nils, .nils]), (1, .box [.data (.list (s.l.map eE)), .data (.list (s.ids.map .str)), .data (.list (s.rk.map i64)), .data (.list (s.ps.map eB)), .data (.list (s.od.map i64))]), (2, .box [.row 3 rvs.length, .row 4 pks.length, .row 5 dcs.length, .nils]), (3, .row 147 5 (rvs.map eRw)), (4, .row 68 3 (pks.map ePk)), (5, .row 60 10 (dcs.map eDc))], 11⟩ g72 [.data (.agg [.list (s.l.map eE), .list (s.ids.map .str), .list (s.rk.map i64), .list (s.ps.map eB), .list (s.od.map i64)]), .ptr 2 0, .data (i64 o)] = some (.tup [], ⟨[(0, .box [.nils, .nils, .nils, .nils]), (1, .box [.data (.list (s.l.map eE)), .data (.list (s.ids.map .str)), .data (.list (s.rk.map i64)), .data (.list (s.ps.map eB)), .data (.list (s.od.map i64))]), (2, .box [.row 17 rvs'.length, .row 4 pks'.length, .row 5 dcs'.length, .nils]), (3, .frz (old.map eRw)), (4, .row 68 3 (pks'.map ePk)), (5, .row 60 10 (dcs'.map eDc)), (17, .row 147 5 (rvs'.map eRw))], 18⟩) := (callLoc_of (fp := [2, 3, 4, 5]) rfl rfl rfl e72 (by simp)).trans rfl
      (apply axp_regm (nst := false) (nst' := false) 6 mixedOK hΓ (by kernel_rfl); (simp (disch := omega) only [go_sem, ↓reduceIte, dk, hob, Γ45, hcall, look_upd] <;> with_reducible rfl); (simp (disch := omega) only [go_sem, ↓reduceIte] <;> with_reducible rfl); (focus rfl); (focus rfl); (simp (disch := omega) only [go_sem, ↓reduceIte, dk, hob, Γ45, hcall, look_upd] <;> with_reducible rfl); (focus (first | (simp (disch := omega) only [go_sem, ↓reduceIte, dk, hob, Γ45, hcall, look_upd]; done) | (simp (disch := omega) only [go_sem, ↓reduceIte, dk, hob, Γ45, hcall, look_upd]; omega))); (focus (dsimp only [List.take_succ_cons, List.take_zero]; (repeat (apply same2_cons; (focus (first | (left; decide) | (right; simp (disch := omega) only [go_sem, ↓reduceIte, dk, hob, Γ45, hcall, look_upd]; done))); (simp (disch := omega) only [go_sem, ↓reduceIte, dk, hob, Γ45, hcall, look_upd] <;> with_reducible rfl))); exact same2_nil)); (simp (disch := omega) only [go_sem, ↓reduceIte, dk, hob, Γ45, hcall, look_upd] <;> with_reducible rfl))
      (repeat (first | (apply axJ; (focus ((with_reducible constructor) <;> rfl))) | ((first | apply axR hΓ | apply axG | apply ovX rfl | apply ovE rfl); (simp (disch := omega) only [go_sem, ↓reduceIte, dk] <;> with_reducible rfl); exact trivial) | rfl))
      exact ⟨(k + 1, rvs', pks', dcs'), hI, by dsimp only; omega, Weak.trans (s2 := (frame 136 [(2, .ptr 0 0), (5, .ptr 1 0), (10, .ptr 2 0), (11, .data (i64 (k + 1 : Nat)))])) (H2 := ⟨[(0, .box [.nils, .nils, .nils, .nils]), (1, .box [.data (.list (s.l.map eE)), .data (.list (s.ids.map .str)), .data (.list (s.rk.map i64)), .data (.list (s.ps.map eB)), .data (.list (s.od.map i64))]), (2, .box [.row 17 rvs'.length, .row 4 pks'.length, .row 5 dcs'.length, .nils]), (4, .row 68 3 (pks'.map ePk)), (5, .row 60 10 (dcs'.map eDc)), (17, .row 147 5 (rvs'.map eRw))], 18⟩) (Weak.w) (Weak.packed (os := [.box [.nils, .nils, .nils, .nils], .box [.data (.list (s.l.map eE)), .data (.list (s.ids.map .str)), .data (.list (s.rk.map i64)), .data (.list (s.ps.map eB)), .data (.list (s.od.map i64))], .box [.row 3 rvs'.length, .row 4 pks'.length, .row 5 dcs'.length, .nils], .row 147 5 (rvs'.map eRw), .row 68 3 (pks'.map ePk), .row 60 10 (dcs'.map eDc)]) (fp := [0, 1, 2, 17, 4, 5]) rfl rfl (by simp) rfl rfl)⟩
    · have hcall : callLoc 17 ⟨[(0, .box [.nils, .nils, .nils, .nils]), (1, .box [.data (.list (s.l.map eE)), .data (.list (s.ids.map .str)), .data (.list (s.rk.map i64)), .data (.list (s.ps.map eB)), .data (.list (s.od.map i64))]), (2, .box [.row 3 rvs.length, .row 4 pks.length, .row 5 dcs.length, .nils]), (3, .row 147 5 (rvs.map eRw)), (4, .row 68 3 (pks.map ePk)), (5, .row 60 10 (dcs.map eDc))], 11⟩ g72 [.data (.agg [.list (s.l.map eE), .list (s.ids.map .str), .list (s.rk.map i64), .list (s.ps.map eB), .list (s.od.map i64)]), .ptr 2 0, .data (i64 o)] = some (.tup [], ⟨[(0, .box [.nils, .nils, .nils, .nils]), (1, .box [.data (.list (s.l.map eE)), .data (.list (s.ids.map .str)), .data (.list (s.rk.map i64)), .data (.list (s.ps.map eB)), .data (.list (s.od.map i64))]), (2, .box [.row 3 rvs'.length, .row 17 pks'.length, .row 5 dcs'.length, .nils]), (3, .row 147 5 (rvs'.map eRw)), (4, .frz (old.map ePk)), (5, .row 60 10 (dcs'.map eDc)), (17, .row 68 3 (pks'.map ePk))], 18⟩) := (callLoc_of (fp := [2, 3, 4, 5]) rfl rfl rfl e72 (by simp)).trans rfl
      (apply axp_regm (nst := false) (nst' := false) 6 mixedOK hΓ (by kernel_rfl); (simp (disch := omega) only [go_sem, ↓reduceIte, dk, hob, Γ45, hcall, look_upd] <;> with_reducible rfl); (simp (disch := omega) only [go_sem, ↓reduceIte] <;> with_reducible rfl); (focus rfl); (focus rfl); (simp (disch := omega) only [go_sem, ↓reduceIte, dk, hob, Γ45, hcall, look_upd] <;> with_reducible rfl); (focus (first | (simp (disch := omega) only [go_sem, ↓reduceIte, dk, hob, Γ45, hcall, look_upd]; done) | (simp (disch := omega) only [go_sem, ↓reduceIte, dk, hob, Γ45, hcall, look_upd]; omega))); (focus (dsimp only [List.take_succ_cons, List.take_zero]; (repeat (apply same2_cons; (focus (first | (left; decide) | (right; simp (disch := omega) only [go_sem, ↓reduceIte, dk, hob, Γ45, hcall, look_upd]; done))); (simp (disch := omega) only [go_sem, ↓reduceIte, dk, hob, Γ45, hcall, look_upd] <;> with_reducible rfl))); exact same2_nil)); (simp (disch := omega) only [go_sem, ↓reduceIte, dk, hob, Γ45, hcall, look_upd] <;> with_reducible rfl))
      (repeat (first | (apply axJ; (focus ((with_reducible constructor) <;> rfl))) | ((first | apply axR hΓ | apply axG | apply ovX rfl | apply ovE rfl); (simp (disch := omega) only [go_sem, ↓reduceIte, dk] <;> with_reducible rfl); exact trivial) | rfl))
      exact ⟨(k + 1, rvs', pks', dcs'), hI, by dsimp only; omega, Weak.trans (s2 := (frame 136 [(2, .ptr 0 0), (5, .ptr 1 0), (10, .ptr 2 0), (11, .data (i64 (k + 1 : Nat)))])) (H2 := ⟨[(0, .box [.nils, .nils, .nils, .nils]), (1, .box [.data (.list (s.l.map eE)), .data (.list (s.ids.map .str)), .data (.list (s.rk.map i64)), .data (.list (s.ps.map eB)), .data (.list (s.od.map i64))]), (2, .box [.row 3 rvs'.length, .row 17 pks'.length, .row 5 dcs'.length, .nils]), (3, .row 147 5 (rvs'.map eRw)), (5, .row 60 10 (dcs'.map eDc)), (17, .row 68 3 (pks'.map ePk))], 18⟩) (Weak.w) (Weak.packed (os := [.box [.nils, .nils, .nils, .nils], .box [.data (.list (s.l.map eE)), .data (.list (s.ids.map .str)), .data (.list (s.rk.map i64)), .data (.list (s.ps.map eB)), .data (.list (s.od.map i64))], .box [.row 3 rvs'.length, .row 4 pks'.length, .row 5 dcs'.length, .nils], .row 147 5 (rvs'.map eRw), .row 68 3 (pks'.map ePk), .row 60 10 (dcs'.map eDc)]) (fp := [0, 1, 2, 3, 17, 5]) rfl rfl (by simp) rfl rfl)⟩
  · refine axA ?_
    refine axA ?_
    (repeat (first | refine axB ?_ | (apply axK; (focus ((with_reducible constructor) <;> rfl))) | ((first | apply axR hΓ | apply axG | apply ovX rfl | apply ovE rfl); (simp (disch := omega) only [go_sem, ↓reduceIte, dk] <;> with_reducible rfl); exact trivial) | rfl))
    refine axp_weak (((Weak.freeze (o := 3) rfl).trans ((Weak.freeze (o := 4) rfl).trans (Weak.freeze (o := 5) rfl))).trans (Weak.boxConv (o := 2) (cs' := [.data (.list (rvs.map eRw)), .data (.list (pks.map ePk)), .data (.list (dcs.map eDc)), .data (.list [])]) rfl (by (repeat' (first | exact True.intro | apply And.intro | exact rfl | exact Or.inl rfl | exact Or.inr (Or.inl ⟨rfl, rfl⟩) | exact Or.inr (Or.inr ⟨_, _, rfl, rfl, by simp⟩))); done))) ?_
    exact axp_weak (Weak.v (by (simp [ConvF, lookV, Conv, ints, upd]; done)) (by (simp (disch := omega) only [TabSub, look, if_pos, if_neg, Obj.refsOK, refsOKs, AV.refsOK, decide_eq_true_eq, Bool.and_true, Bool.and_self, upd] ) <;> ((repeat' apply And.intro) <;> first | exact True.intro | omega | (simp; done) | rfl))) (f45_p (by omega) (by omega) (by omega) (h5.q hs) (h5.one hnd) Γ45p_ok)
end Go.Ab
