/-
  One text of the proof (own work): contracts of functions of the program, by the abstract machine.
-/
import Derived.Test.YtmcgfohokniepaaX21
import Derived.Test.YtmcgfohokniepaaX36
import Derived.Test.YtmcgfohokniepaaX37
import Derived.Test.YtmcgfohokniepaaX29
import Derived.Test.YtmcgfohokniepaaX20
import Derived.Test.YtmcgfohokniepaaX32
set_option linter.unusedVariables false
set_option linter.unusedSimpArgs false
namespace Go.Ab
open Go Go.RowKit Go.Proofs
set_option maxRecDepth 4000
set_option maxHeartbeats 40000000
def opn (d : Dc) : Bool := !d.w && !d.o && !d.rp
def cnd (a b : Dc) : Bool := Op.bytesLess a.id b.id && opn a && opn b && (a.q == b.q) && (a.s == b.s) && !(a.ans == b.ans)
structure RvOK (r : Rev) : Prop where
  rvs : r.rvs.length ≤ 64
  pks : r.pks.length ≤ 64
  dcs : r.dcs.length ≤ 64
  dps : r.dps.length ≤ 4096
  q : ∀ d ∈ r.dcs, d.q.length ≤ 64
  one : ∀ a ∈ r.dcs, ∀ b ∈ r.dcs, a.id = b.id → a.ans = b.ans
  dp : ∀ a ∈ r.dcs, ∀ b ∈ r.dcs, cnd a b = true → (⟨a.id, b.id⟩ : Dp) ∈ r.dps
def FoG (l : List Ev) (d : D) : Prop := ∃ (r : Rev) (i n : Int), d = .tup [eR r, i64 i, i64 n] ∧ i < l.length ∧ (n = 0 → RvOK r)
noncomputable def Γ45p : FuncId → Option CSpec := fun f => if f = 70 then some (.pure false (g70)) else if f = 71 then some (.pure true (g71)) else if f = 73 then some (.pure true (g73)) else if f = 74 then some (.pure false (g74)) else none
theorem Γ45p_ok : ∀ f s, Γ45p f = some s → SpecOK Try.prog f s := by
  intro f s h
  unfold Γ45p at h
  split at h
  · rename_i hf; cases h; subst hf; exact f70_ok
  split at h
  · rename_i hf; cases h; subst hf; exact f71_ok
  split at h
  · rename_i hf; cases h; subst hf; exact f73_ok
  split at h
  · rename_i hf; cases h; subst hf; exact f74_ok
  · cases h
structure PrI (dcs : List Dc) (i j : Nat) (p : List Dp) : Prop where
  ps : ∀ a b (ha : a < dcs.length) (hb : b < dcs.length), a < i → cnd dcs[a] dcs[b] = true → (⟨dcs[a].id, dcs[b].id⟩ : Dp) ∈ p
  p2 : ∀ b (ha : i < dcs.length) (hb : b < dcs.length), b < j → cnd dcs[i] dcs[b] = true → (⟨dcs[i].id, dcs[b].id⟩ : Dp) ∈ p
theorem PrI.more {dcs : List Dc} {i j : Nat} {p p' : List Dp} (h : PrI dcs i j p) (hs : ∀ y ∈ p, y ∈ p') (hi : i < dcs.length) (hj : j < dcs.length) (hn : cnd dcs[i] dcs[j] = true → (⟨dcs[i].id, dcs[j].id⟩ : Dp) ∈ p') : PrI dcs i (j + 1) p' where
  ps a b ha hb h1 h2 := hs _ (h.ps a b ha hb h1 h2)
  p2 b ha hb h1 h2 := by
    by_cases hbj : b < j
    · exact hs _ (h.p2 b ha hb hbj h2)
    · have : b = j := by omega
      subst this
      exact hn h2
theorem PrI.next {dcs : List Dc} {i j : Nat} {p : List Dp} (h : PrI dcs i j p) (hj : dcs.length ≤ j) : PrI dcs (i + 1) 0 p where
  ps a b ha hb h1 h2 := by
    by_cases hai : a < i
    · exact h.ps a b ha hb hai h2
    · have : a = i := by omega
      subst this
      exact h.p2 b ha hb (by omega) h2
  p2 b ha hb h1 h2 := absurd h1 (by omega)
theorem f45_p {l : List Ev} {rvs : List Rw} {pks : List Pk} {dcs : List Dc} (z1 : rvs.length ≤ 64) (z2 : pks.length ≤ 64) (z3 : dcs.length ≤ 64) (zq : ∀ d ∈ dcs, d.q.length ≤ 64) (zo : ∀ a ∈ dcs, ∀ b ∈ dcs, a.id = b.id → a.ans = b.ans) (hΓ : ∀ f s, Γ45p f = some s → SpecOK Try.prog f s) : axp Try.prog 0 (navF Try.f45 [1, 1, 1, 1, 1, 1]) (RetX Try.prog [.cell 2 30, .tmp 3, .tmp 4] (FoG l)) ((frame 136 [(2, .ptr 0 0), (10, .ptr 2 0)])) ⟨[(0, .box [.nils, .nils, .nils, .nils]), (2, .box [.data (.list (rvs.map eRw)), .data (.list (pks.map ePk)), .data (.list (dcs.map eDc)), .data (.list [])])], 6⟩ := by
  conv => arg 3; whnf
  (repeat (first | (refine axA ?_; first | (apply axR hΓ; (simp (disch := omega) only [go_sem, ↓reduceIte, dk] <;> with_reducible rfl); exact trivial) | refine axA ?_ | refine axB ?_) | refine axB ?_ | (apply axK; (focus ((with_reducible constructor) <;> rfl))) | ((first | apply axR hΓ | apply axG | apply ovX rfl | apply ovE rfl); (simp (disch := omega) only [go_sem, ↓reduceIte, dk] <;> with_reducible rfl); exact trivial) | rfl))
  refine axp_loop_at (X := Nat × List Dp) (fun x => (frame 136 [(2, .ptr 0 0), (10, .ptr 2 0), (12, .data (i64 x.1))])) (fun x => [(0, .box [.nils, .nils, .nils, .nils]), (2, .box [.data (.list (rvs.map eRw)), .data (.list (pks.map ePk)), .data (.list (dcs.map eDc)), .data (.list (x.2.map eDp))])]) 6
    (fun x => x.1 ≤ dcs.length ∧ x.2.length ≤ x.1 * 64 ∧ PrI dcs x.1 0 x.2) (fun x => dcs.length - x.1) (0, []) ⟨Nat.zero_le _, by simp, ⟨fun a b _ _ h => absurd h (by omega), fun b _ _ h => absurd h (by omega)⟩⟩ (Weak.w) ?_
  rintro ⟨i, p⟩ ⟨h1, h2, h3⟩
  dsimp only at h1 h2 h3 ⊢
  by_cases hi : i < dcs.length
  · (repeat (first | (refine axA ?_; first | (apply axR hΓ; (simp (disch := omega) only [go_sem, ↓reduceIte, dk] <;> with_reducible rfl); exact trivial) | refine axA ?_ | refine axB ?_) | refine axB ?_ | (apply axK; (focus ((with_reducible constructor) <;> rfl))) | ((first | apply axR hΓ | apply axG | apply ovX rfl | apply ovE rfl); (simp (disch := omega) only [go_sem, ↓reduceIte, dk] <;> with_reducible rfl); exact trivial) | rfl))
    refine axp_loop_at (X := Nat × List Dp) (fun x => (frame 136 [(2, .ptr 0 0), (10, .ptr 2 0), (12, .data (i64 i)), (13, .data (i64 x.1))])) (fun x => [(0, .box [.nils, .nils, .nils, .nils]), (2, .box [.data (.list (rvs.map eRw)), .data (.list (pks.map ePk)), .data (.list (dcs.map eDc)), .data (.list (x.2.map eDp))])]) 6
      (fun x => x.1 ≤ dcs.length ∧ x.2.length ≤ i * 64 + x.1 ∧ PrI dcs i x.1 x.2) (fun x => dcs.length - x.1) (0, p) ⟨Nat.zero_le _, by simpa using h2, h3⟩ (Weak.w) ?_
    rintro ⟨j, p⟩ ⟨j1, j2, j3⟩
    dsimp only at j1 j2 j3 ⊢
    by_cases hj : j < dcs.length
    · have hmo := fun p' hs hn => j3.more (p' := p') hs hi hj hn
      generalize hya : dcs[i] = a at hmo
      generalize hyb : dcs[j] = b at hmo
      have e73a := g73_eq a
      have e73b := g73_eq b
      obtain ⟨p', e74, q1, q2, q3⟩ := g74_eq (l := p) (s := ⟨a.id, b.id⟩) (by omega)
      dsimp only at e74 q3
      have hcn : cnd a b = (Op.bytesLess a.id b.id && (!a.w && !a.o && !a.rp) && (!b.w && !b.o && !b.rp) && (a.q == b.q) && (a.s == b.s) && !(a.ans == b.ans)) := rfl
      generalize hc1 : Op.bytesLess a.id b.id = c1 at hcn
      generalize ho1 : (!a.w && !a.o && !a.rp) = o1 at hcn e73a
      generalize ho2 : (!b.w && !b.o && !b.rp) = o2 at hcn e73b
      generalize hc3 : (a.q == b.q) = c3 at hcn
      generalize hc4 : (a.s == b.s) = c4 at hcn
      generalize hc5 : (a.ans == b.ans) = c5 at hcn
      (repeat (first | (refine axA ?_; first | (apply axR hΓ; (simp (disch := omega) only [go_sem, ↓reduceIte, dk] <;> with_reducible rfl); exact trivial) | refine axA ?_ | refine axB ?_) | refine axB ?_ | (apply axK; (focus ((with_reducible constructor) <;> rfl))) | ((first | apply axR hΓ | apply axG | apply ovX rfl | apply ovE rfl); (simp (disch := omega) only [go_sem, ↓reduceIte, dk] <;> with_reducible rfl); exact trivial) | rfl))
      refine axA ?_
      (apply axp_lane4 (nst := false) (nst' := false) [false, false, false, false, false, false, false, false, false, false, true, true, true] mixedOK hΓ (n1 := 13) (by kernel_rfl) 10 11 (by kernel_rfl); (focus (dsimp only [List.take_succ_cons, List.take_zero, Array.toList]; (repeat (first | (apply lane3_loud; (focus rfl); (focus rfl); (simp (disch := omega) only [go_sem, ↓reduceIte, ↓lk, dk, hya, hyb, look_upd] <;> with_reducible rfl); (focus (first | (simp (disch := omega) only [go_sem, ↓reduceIte, ↓lk, dk, hya, hyb, look_upd]; done) | (simp (disch := omega) only [go_sem, ↓reduceIte, ↓lk, dk, hya, hyb, look_upd]; omega)))) | (apply lane3_quiet; (simp (disch := omega) only [go_sem, ↓reduceIte, ↓lk, dk, hya, hyb, look_upd] <;> with_reducible rfl)))); exact lane3_nil)); (focus rfl); (focus rfl); (case hgx => ((conv => (enter [1, 6]; whnf)); (simp (disch := omega) only [go_sem, ↓reduceIte, ↓lk, dk, hya, hyb, look_upd] <;> with_reducible rfl))); (focus ((repeat' (first | exact True.intro | refine And.intro ?_ ?_)); all_goals (first | (left; decide) | (left; rfl) | (right; refine And.intro rfl ?_; simp (disch := omega) only [go_sem, ↓reduceIte, ↓lk, dk, hya, hyb, look_upd]; try with_reducible rfl)))); (focus ((repeat' (first | exact True.intro | refine And.intro ?_ ?_)); all_goals (first | (left; decide) | (left; rfl) | (right; simp (disch := omega) only [go_sem, ↓reduceIte, ↓lk, dk, hya, hyb, look_upd]; try with_reducible rfl)))); (simp (disch := omega) only [go_sem, ↓reduceIte, ↓lk, dk, hya, hyb, look_upd] <;> with_reducible rfl))
      refine axA ?_
      refine axp_mid (Y := Bool) (fun y => (frame 136 [(2, .ptr 0 0), (10, .ptr 2 0), (12, .data (i64 i)), (13, .data (i64 j)), (14, .ptr 21 0), (15, .ptr 22 0), (125, .data (.bool y))])) (fun _ => [(0, .box [.nils, .nils, .nils, .nils]), (2, .box [.data (.list (rvs.map eRw)), .data (.list (pks.map ePk)), .data (.list (dcs.map eDc)), .data (.list (p.map eDp))]), (21, .box [.data (.str a.id), .data (.str a.author), .data (.str a.q), .data (.str a.s), .data (.str a.ans), .data (.str a.dig), .data (i64 a.til), .data (.bool a.w), .data (.bool a.o), .data (.bool a.rp)]), (22, .box [.data (.str b.id), .data (.str b.author), .data (.str b.q), .data (.str b.s), .data (.str b.ans), .data (.str b.dig), .data (i64 b.til), .data (.bool b.w), .data (.bool b.o), .data (.bool b.rp)])]) (fun _ => 59) (fun y => y = cnd a b) ?_ ?_
      · ((first | apply axp_regB hΓ | (apply axp_regfB mixedOK hΓ (by kernel_rfl); (simp only [go_sem] <;> with_reducible rfl)) | (apply axp_regtB mixedOK hΓ rfl (by kernel_rfl); (simp only [go_sem] <;> with_reducible rfl))); (try simp (disch := omega) only [go_sem, ↓reduceIte, dk, Γ45p, e73a, e73b, hc1, hc3, hc4, bne, hc5]); (repeat' (first | (first | refine runs_some ?_ | (refine runsQ_some ?_; (try simp (disch := omega) only [go_sem, ↓reduceIte, dk, Γ45p, e73a, e73b, hc1, hc3, hc4, bne, hc5]); refine runs_some ?_) | refine runsQ_some ?_) | ((first | show Runs _ _ | show RunsQ _ _); (first | cases c1 | cases o1 | cases o2 | cases c3 | cases c4 | cases c5) <;> (try simp (disch := omega) only [go_sem, ↓reduceIte, dk, Γ45p, e73a, e73b, hc1, hc3, hc4, bne, hc5])))))
        all_goals (refine ⟨_, ?_, Weak.u⟩; rw [hcn]; rfl)
      rintro y hy
      cases y with
      | true =>
        (repeat (first | (apply axJ; (focus ((with_reducible constructor) <;> rfl))) | ((first | apply axR hΓ | apply axG | apply ovX rfl | apply ovE rfl); (simp (disch := omega) only [go_sem, ↓reduceIte, ↓lk, ↓ty_build99, dk, Γ45p, e74] <;> with_reducible rfl); exact trivial) | rfl))
        exact ⟨(j + 1, p'), ⟨by dsimp only; omega, by dsimp only; omega, hmo p' q2 fun _ => q3⟩, by dsimp only; omega, Weak.w⟩
      | false =>
        (repeat (first | (apply axJ; (focus ((with_reducible constructor) <;> rfl))) | ((first | apply axR hΓ | apply axG | apply ovX rfl | apply ovE rfl); (simp (disch := omega) only [go_sem, ↓reduceIte, dk] <;> with_reducible rfl); exact trivial) | rfl))
        exact ⟨(j + 1, p), ⟨by dsimp only; omega, by dsimp only; omega, hmo p (fun _ h => h) fun h => absurd h (by rw [← hy]; decide)⟩, by dsimp only; omega, Weak.w⟩
    · (repeat (first | (apply axJ; (focus ((with_reducible constructor) <;> rfl))) | ((first | apply axR hΓ | apply axG | apply ovX rfl | apply ovE rfl); (simp (disch := omega) only [go_sem, ↓reduceIte, dk] <;> with_reducible rfl); exact trivial) | rfl))
      exact ⟨(i + 1, p), ⟨by dsimp only; omega, by dsimp only; omega, j3.next (by omega)⟩, by dsimp only; omega, Weak.w⟩
  · (repeat (first | (apply axJ; (focus ((with_reducible constructor) <;> rfl))) | ((first | apply axR hΓ | apply axG | apply ovX rfl | apply ovE rfl); (simp (disch := omega) only [go_sem, ↓reduceIte, dk] <;> with_reducible rfl); exact trivial) | rfl))
    refine ⟨⟨rvs, pks, dcs, p⟩, -1, 0, rfl, by omega, fun _ => ⟨z1, z2, z3, by dsimp only; omega, zq, zo, fun a ha b hb h => ?_⟩⟩
    dsimp only at ha hb
    obtain ⟨x, hx, rfl⟩ := List.getElem_of_mem ha
    obtain ⟨y, hy, rfl⟩ := List.getElem_of_mem hb
    have hx' : x < dcs.length := hx
    exact h3.ps x y hx hy (by omega) h
end Go.Ab
namespace Go.Ab
open Go Go.RowKit Go.Proofs
set_option maxRecDepth 4000
set_option maxHeartbeats 40000000
theorem f72_2j {s : SetR} {o : Nat} {rvs r2 : List Rw} {pks w : List Pk} {dcs : List Dc} {e : Ev} {k : Nat} (hk : k < w.length) (hw : w.length ≤ pks.length + 1) (h2 : r2.length = rvs.length) (z2 : pks.length ≤ 4096) : axp Try.prog 4 (navF Try.f72 [1, 1, 1, 1, 0, 1, 1, 1, 0, 1, 1, 1]) (RetLX Try.prog [] 4 (ApG ⟨s, o, rvs, pks, dcs⟩)) ((frame 290 [(1, .ptr 0 0), (2, .data (i64 o)), (3, .ptr 4 0), (6, .ptr 10 0), (10, .data (i64 k))])) ⟨[(0, .box [.row 1 r2.length, .row 50 w.length, .row 3 dcs.length, .nils]), (1, .row 147 5 (r2.map eRw)), (2, .frz (pks.map ePk)), (3, .row 60 10 (dcs.map eDc)), (4, .box [.data (.list (s.l.map eE)), .data (.list (s.ids.map .str)), .data (.list (s.rk.map i64)), .data (.list (s.ps.map eB)), .data (.list (s.od.map i64))]), (10, .box [.data (i64 2), .data (.str e.au), .data (i64 e.n), .data (.list (e.ns.map .str)), .data (.str e.ro), .data (i64 e.kb), .data (i64 e.kh), .data (.str e.pk), .data (.str e.dg), .data (.str e.q), .data (.str e.sc), .data (.str e.an), .data (i64 e.u), .data (.list (e.tg.map .str)), .data (i64 0), .data (.list []), .data (.list []), .data (.list [])]), (50, .row 68 3 (w.map ePk))], 60⟩ := by
  have hΓ := Γ72_ok
  conv => arg 3; whnf
  generalize hy : w[k] = p
  refine axA ?_
  (apply axp_regm (nst := false) (nst' := false) 9 mixedOK hΓ (by kernel_rfl); (simp (disch := omega) only [go_sem, ↓reduceIte, dk, hy, set_ePk, look_upd] <;> with_reducible rfl); (simp (disch := omega) only [go_sem, ↓reduceIte] <;> with_reducible rfl); (focus rfl); (focus rfl); (simp (disch := omega) only [go_sem, ↓reduceIte, dk, hy, set_ePk, look_upd] <;> with_reducible rfl); (focus (first | (simp (disch := omega) only [go_sem, ↓reduceIte, dk, hy, set_ePk, look_upd]; done) | (simp (disch := omega) only [go_sem, ↓reduceIte, dk, hy, set_ePk, look_upd]; omega))); (focus (dsimp only [List.take_succ_cons, List.take_zero]; (repeat (apply same2_cons; (focus (first | (left; decide) | (right; simp (disch := omega) only [go_sem, ↓reduceIte, dk, hy, set_ePk, look_upd]; done))); (simp (disch := omega) only [go_sem, ↓reduceIte, dk, hy, set_ePk, look_upd] <;> with_reducible rfl))); exact same2_nil)); (simp (disch := omega) only [go_sem, ↓reduceIte, dk, hy, set_ePk, look_upd] <;> with_reducible rfl))
  have hk2 : k < (w.set k ⟨p.name, e.dg, p.up⟩).length := by rw [List.length_set]; exact hk
  have hy2 : (w.set k ⟨p.name, e.dg, p.up⟩)[k] = ⟨p.name, e.dg, p.up⟩ := List.getElem_set_self hk2
  have hl2 : (w.set k ⟨p.name, e.dg, p.up⟩).length = w.length := List.length_set
  generalize w.set k ⟨p.name, e.dg, p.up⟩ = w2 at *
  (repeat (first | (apply axJ; (focus ((with_reducible constructor) <;> rfl))) | ((first | apply axR hΓ | apply axG | apply ovX rfl | apply ovE rfl); (simp (disch := omega) only [go_sem, ↓reduceIte, dk, hy2, hl2, set_ePk] <;> with_reducible rfl); exact trivial) | rfl))
  refine retl_x (r := .tup []) (os := [.box [.row 1 r2.length, .row 4 (w2.set k ⟨p.name, e.dg, IntKind.wrap .i64 (p.up + 1)⟩).length, .row 3 dcs.length, .nils], .row 147 5 (r2.map eRw), .frz (pks.map ePk), .row 60 10 (dcs.map eDc), .row 68 3 ((w2.set k ⟨p.name, e.dg, IntKind.wrap .i64 (p.up + 1)⟩).map ePk)]) rfl rfl (Weak.packed (fp := [0, 1, 2, 3, 50]) rfl rfl (by decide) rfl (by rw [List.length_set, hl2]; rfl)) ⟨rfl, r2, _, dcs, by dsimp only; omega, by dsimp only; rw [List.length_set, hl2]; omega, .inl rfl, .inr (.inr ⟨pks, rfl⟩)⟩
theorem f72_2i {s : SetR} {o : Nat} {r2 : List Rw} {pks : List Pk} {dcs : List Dc} {e : Ev} {k : Nat} {K : List AV → Heap → Prop} {Q : Exit → List AV → Heap → Prop} (hk : k ≤ pks.length) (z2 : pks.length ≤ 4096)
    (hK : ∀ w : List Pk, w.length = pks.length + 1 → K ((frame 290 [(1, .ptr 0 0), (2, .data (i64 o)), (3, .ptr 4 0), (6, .ptr 10 0), (10, .data (i64 k))])) ⟨[(0, .box [.row 1 r2.length, .row 50 w.length, .row 3 dcs.length, .nils]), (1, .row 147 5 (r2.map eRw)), (2, .frz (pks.map ePk)), (3, .row 60 10 (dcs.map eDc)), (4, .box [.data (.list (s.l.map eE)), .data (.list (s.ids.map .str)), .data (.list (s.rk.map i64)), .data (.list (s.ps.map eB)), .data (.list (s.od.map i64))]), (10, .box [.data (i64 2), .data (.str e.au), .data (i64 e.n), .data (.list (e.ns.map .str)), .data (.str e.ro), .data (i64 e.kb), .data (i64 e.kh), .data (.str e.pk), .data (.str e.dg), .data (.str e.q), .data (.str e.sc), .data (.str e.an), .data (i64 e.u), .data (.list (e.tg.map .str)), .data (i64 0), .data (.list []), .data (.list []), .data (.list [])]), (50, .row 68 3 (w.map ePk))], 60⟩) : axp Try.prog 4 (navF Try.f72 [1, 1, 1, 1, 0, 1, 1, 1, 0, 1, 1, 0, 1, 0]) (thenA K Q) ((frame 290 [(1, .ptr 0 0), (2, .data (i64 o)), (3, .ptr 4 0), (6, .ptr 10 0), (10, .data (i64 k))])) ⟨[(0, .box [.row 1 r2.length, .row 2 pks.length, .row 3 dcs.length, .nils]), (1, .row 147 5 (r2.map eRw)), (2, .row 68 3 (pks.map ePk)), (3, .row 60 10 (dcs.map eDc)), (4, .box [.data (.list (s.l.map eE)), .data (.list (s.ids.map .str)), .data (.list (s.rk.map i64)), .data (.list (s.ps.map eB)), .data (.list (s.od.map i64))]), (10, .box [.data (i64 2), .data (.str e.au), .data (i64 e.n), .data (.list (e.ns.map .str)), .data (.str e.ro), .data (i64 e.kb), .data (i64 e.kh), .data (.str e.pk), .data (.str e.dg), .data (.str e.q), .data (.str e.sc), .data (.str e.an), .data (i64 e.u), .data (.list (e.tg.map .str)), .data (i64 0), .data (.list []), .data (.list []), .data (.list [])])], 26⟩ := by
  have hΓ := Γ72_ok
  conv => arg 3; whnf
  refine axp_mid (Y := List Pk) (fun _ => (frame 290 [(1, .ptr 0 0), (2, .data (i64 o)), (3, .ptr 4 0), (6, .ptr 10 0), (10, .data (i64 k))])) (fun w => [(0, .box [.row 1 r2.length, .row 50 w.length, .row 3 dcs.length, .nils]), (1, .row 147 5 (r2.map eRw)), (2, .frz (pks.map ePk)), (3, .row 60 10 (dcs.map eDc)), (4, .box [.data (.list (s.l.map eE)), .data (.list (s.ids.map .str)), .data (.list (s.rk.map i64)), .data (.list (s.ps.map eB)), .data (.list (s.od.map i64))]), (10, .box [.data (i64 2), .data (.str e.au), .data (i64 e.n), .data (.list (e.ns.map .str)), .data (.str e.ro), .data (i64 e.kb), .data (i64 e.kh), .data (.str e.pk), .data (.str e.dg), .data (.str e.q), .data (.str e.sc), .data (.str e.an), .data (i64 e.u), .data (.list (e.tg.map .str)), .data (i64 0), .data (.list []), .data (.list []), .data (.list [])]), (50, .row 68 3 (w.map ePk))]) (fun _ => 60) (fun w => w.length = pks.length + 1) ?_ hK
  refine axp_weak ((Weak.freeze (o := 2) rfl).trans (Weak.boxConv (o := 0) (cs' := [.row 1 r2.length, .data (.list (pks.map ePk)), .row 3 dcs.length, .nils]) rfl (by (repeat' (first | exact True.intro | apply And.intro | exact rfl | exact Or.inl rfl | exact Or.inr (Or.inl ⟨rfl, rfl⟩) | exact Or.inr (Or.inr ⟨_, _, rfl, rfl, by simp⟩))); done))) ?_
  refine axp_weak (sl' := (frame 290 [(1, .ptr 0 0), (2, .data (i64 o)), (3, .ptr 4 0), (6, .ptr 10 0), (10, .data (i64 k))])) (H' := ⟨[(0, .box [.row 1 r2.length, .data (.list (pks.map ePk)), .row 3 dcs.length, .nils]), (1, .row 147 5 (r2.map eRw)), (2, .frz (pks.map ePk)), (3, .row 60 10 (dcs.map eDc)), (4, .box [.data (.list (s.l.map eE)), .data (.list (s.ids.map .str)), .data (.list (s.rk.map i64)), .data (.list (s.ps.map eB)), .data (.list (s.od.map i64))]), (10, .box [.data (i64 2), .data (.str e.au), .data (i64 e.n), .data (.list (e.ns.map .str)), .data (.str e.ro), .data (i64 e.kb), .data (i64 e.kh), .data (.str e.pk), .data (.str e.dg), .data (.str e.q), .data (.str e.sc), .data (.str e.an), .data (i64 e.u), .data (.list (e.tg.map .str)), .data (i64 0), .data (.list []), .data (.list []), .data (.list [])])], 49⟩) (Weak.v (by (simp [ConvF, lookV, Conv, ints, upd]; done)) (by (simp (disch := omega) only [TabSub, look, if_pos, if_neg, Obj.refsOK, refsOKs, AV.refsOK, decide_eq_true_eq, Bool.and_true, Bool.and_self, upd] ) <;> ((repeat' apply And.intro) <;> first | exact True.intro | omega | (simp; done) | rfl))) ?_
  have a1 : List.take k (pks.map ePk) ++ [D.agg [.str e.pk, .str [], .int .i64 0]] ++ List.drop k (pks.map ePk) = (pks.take k ++ [(⟨e.pk, [], 0⟩ : Pk)] ++ pks.drop k).map ePk := by simp [ePk, List.map_take, List.map_drop]
  have l3 : (pks.take k ++ [(⟨e.pk, [], 0⟩ : Pk)] ++ pks.drop k).length = pks.length + 1 := by simp; omega
  generalize hw : pks.take k ++ [(⟨e.pk, [], 0⟩ : Pk)] ++ pks.drop k = w at *
  have hel := elemsOK_map (f := ePk) (sz := 3) (fun _ => ⟨rfl, rfl⟩) pks
  have hml : (pks.map ePk).length = pks.length := by simp
  generalize hm : pks.map ePk = m at *
  have e2 : List.take (pks.length - k) (List.drop k m) = List.drop k m := List.take_of_length_le (by simp [hml])
  have h3 : elemsOK 3 (List.take k m) = true := elemsOK_sub3 hel fun x hx => List.mem_of_mem_take hx
  have h4 : elemsOK 3 (List.drop k m) = true := elemsOK_sub3 hel fun x hx => List.mem_of_mem_drop hx
  have l1 : (List.take k m).length = k := by rw [List.length_take]; omega
  have l2 : (List.drop k m).length = pks.length - k := by rw [List.length_drop, hml]
  (apply axp_lane3 (nst := false) (nst' := false) [false, true, false, false, false, false, false, false, true, false, false, false, false, true, false, false, false, false, false, false, true, false, false, true] mixedOK hΓ (n1 := 24) (by kernel_rfl) (by kernel_rfl); (focus (dsimp only [List.take_succ_cons, List.take_zero, Array.toList]; (repeat (first | (apply lane3_loud; (focus rfl); (focus rfl); (simp (disch := omega) only [go_sem, ↓reduceIte, ↓lk, ↓ty_build68, dk, Nat.sub_zero, Nat.zero_add, e2, h3, h4, l1, l2, hml, look_upd] <;> with_reducible rfl); (focus (first | (simp (disch := omega) only [go_sem, ↓reduceIte, ↓lk, ↓ty_build68, dk, Nat.sub_zero, Nat.zero_add, e2, h3, h4, l1, l2, hml, look_upd]; done) | (simp (disch := omega) only [go_sem, ↓reduceIte, ↓lk, ↓ty_build68, dk, Nat.sub_zero, Nat.zero_add, e2, h3, h4, l1, l2, hml, look_upd]; omega)))) | (apply lane3_quiet; (simp (disch := omega) only [go_sem, ↓reduceIte, ↓lk, ↓ty_build68, dk, Nat.sub_zero, Nat.zero_add, e2, h3, h4, l1, l2, hml, look_upd] <;> with_reducible rfl)))); exact lane3_nil)); (focus ((repeat' (first | exact True.intro | refine And.intro ?_ ?_)); all_goals (first | (left; decide) | (left; rfl) | (right; simp (disch := omega) only [go_sem, ↓reduceIte, ↓lk, ↓ty_build68, dk, Nat.sub_zero, Nat.zero_add, e2, h3, h4, l1, l2, hml, look_upd]; try with_reducible rfl)))); (simp (disch := omega) only [go_sem, ↓reduceIte, ↓lk, ↓ty_build68, dk, Nat.sub_zero, Nat.zero_add, e2, h3, h4, l1, l2, hml, look_upd] <;> with_reducible rfl))
  rw [show k + 1 + (pks.length - k) = w.length by omega, a1]
  exact ⟨w, l3, Weak.w⟩
theorem f72_2 {s : SetR} {o : Nat} {rvs r2 : List Rw} {pks : List Pk} {dcs : List Dc} {e : Ev} {k : Nat} (hk : k ≤ pks.length) (h2 : r2.length = rvs.length) (z2 : pks.length ≤ 4096) : axp Try.prog 4 (navF Try.f72 [1, 1, 1, 1, 0, 1, 1, 1, 0, 1, 1]) (RetLX Try.prog [] 4 (ApG ⟨s, o, rvs, pks, dcs⟩)) ((frame 290 [(1, .ptr 0 0), (2, .data (i64 o)), (3, .ptr 4 0), (6, .ptr 10 0), (10, .data (i64 k))])) ⟨[(0, .box [.row 1 r2.length, .row 2 pks.length, .row 3 dcs.length, .nils]), (1, .row 147 5 (r2.map eRw)), (2, .row 68 3 (pks.map ePk)), (3, .row 60 10 (dcs.map eDc)), (4, .box [.data (.list (s.l.map eE)), .data (.list (s.ids.map .str)), .data (.list (s.rk.map i64)), .data (.list (s.ps.map eB)), .data (.list (s.od.map i64))]), (10, .box [.data (i64 2), .data (.str e.au), .data (i64 e.n), .data (.list (e.ns.map .str)), .data (.str e.ro), .data (i64 e.kb), .data (i64 e.kh), .data (.str e.pk), .data (.str e.dg), .data (.str e.q), .data (.str e.sc), .data (.str e.an), .data (i64 e.u), .data (.list (e.tg.map .str)), .data (i64 0), .data (.list []), .data (.list []), .data (.list [])])], 13⟩ := by
  have hΓ := Γ72_ok
  conv => arg 3; whnf
  refine axA ?_
  refine axA ?_
  by_cases hk2 : k < pks.length
  · have hb : ((k : Int) == (pks.length : Int)) = false := beq_eq_false_iff_ne.2 (by omega)
    generalize hy : pks[k] = p
    generalize hc : (p.name == e.pk) = c
    cases c with
    | true =>
      (apply axp_regf mixedOK hΓ (by kernel_rfl); (simp (disch := omega) only [go_sem, ↓reduceIte, dk, hb, hy, hc] <;> with_reducible rfl); (simp only [go_sem] <;> with_reducible rfl))
      (repeat (first | refine axB ?_ | (apply axK; (focus ((with_reducible constructor) <;> rfl))) | ((first | apply axR hΓ | apply axG | apply ovX rfl | apply ovE rfl); (simp (disch := omega) only [go_sem, ↓reduceIte, dk] <;> with_reducible rfl); exact trivial) | rfl))
      refine axA ?_
      (apply axp_regm (nst := false) (nst' := false) 9 mixedOK hΓ (by kernel_rfl); (simp (disch := omega) only [go_sem, ↓reduceIte, dk, hy, set_ePk, look_upd] <;> with_reducible rfl); (simp (disch := omega) only [go_sem, ↓reduceIte] <;> with_reducible rfl); (focus rfl); (focus rfl); (simp (disch := omega) only [go_sem, ↓reduceIte, dk, hy, set_ePk, look_upd] <;> with_reducible rfl); (focus (first | (simp (disch := omega) only [go_sem, ↓reduceIte, dk, hy, set_ePk, look_upd]; done) | (simp (disch := omega) only [go_sem, ↓reduceIte, dk, hy, set_ePk, look_upd]; omega))); (focus (dsimp only [List.take_succ_cons, List.take_zero]; (repeat (apply same2_cons; (focus (first | (left; decide) | (right; simp (disch := omega) only [go_sem, ↓reduceIte, dk, hy, set_ePk, look_upd]; done))); (simp (disch := omega) only [go_sem, ↓reduceIte, dk, hy, set_ePk, look_upd] <;> with_reducible rfl))); exact same2_nil)); (simp (disch := omega) only [go_sem, ↓reduceIte, dk, hy, set_ePk, look_upd] <;> with_reducible rfl))
      have hk3 : k < (pks.set k ⟨p.name, e.dg, p.up⟩).length := by rw [List.length_set]; exact hk2
      have hy2 : (pks.set k ⟨p.name, e.dg, p.up⟩)[k] = ⟨p.name, e.dg, p.up⟩ := List.getElem_set_self hk3
      have hl2 : (pks.set k ⟨p.name, e.dg, p.up⟩).length = pks.length := List.length_set
      generalize pks.set k ⟨p.name, e.dg, p.up⟩ = w2 at *
      (repeat (first | (apply axJ; (focus ((with_reducible constructor) <;> rfl))) | ((first | apply axR hΓ | apply axG | apply ovX rfl | apply ovE rfl); (simp (disch := omega) only [go_sem, ↓reduceIte, dk, hy2, hl2, set_ePk] <;> with_reducible rfl); exact trivial) | rfl))
      refine retl_x (r := .tup []) (os := apO ⟨s, o, r2, w2.set k ⟨p.name, e.dg, IntKind.wrap .i64 (p.up + 1)⟩, dcs⟩) rfl rfl (Weak.packed (fp := [0, 1, 2, 3]) rfl rfl (by decide) rfl (by simp only [apO, List.length_set, hl2]; rfl)) ⟨rfl, r2, _, dcs, by dsimp only; omega, by dsimp only; rw [List.length_set, hl2]; omega, .inl rfl, .inl rfl⟩
    | false =>
      (apply axp_regf mixedOK hΓ (by kernel_rfl); (simp (disch := omega) only [go_sem, ↓reduceIte, dk, hb, hy, hc] <;> with_reducible rfl); (simp only [go_sem] <;> with_reducible rfl))
      (repeat (first | refine axB ?_ | (apply axK; (focus ((with_reducible constructor) <;> rfl))) | ((first | apply axR hΓ | apply axG | apply ovX rfl | apply ovE rfl); (simp (disch := omega) only [go_sem, ↓reduceIte, dk] <;> with_reducible rfl); exact trivial) | rfl))
      exact axp_weak (Weak.w) (f72_2i (o := o) hk z2 fun w hw => axp_weak (Weak.w) (f72_2j (k := k) (by omega) (by omega) h2 z2))
  · have hkl : k = pks.length := by omega
    have hb : ((k : Int) == (pks.length : Int)) = true := by rw [hkl]; simp
    (apply axp_regf mixedOK hΓ (by kernel_rfl); (simp (disch := omega) only [go_sem, ↓reduceIte, dk, hb] <;> with_reducible rfl); (simp only [go_sem] <;> with_reducible rfl))
    (repeat (first | refine axB ?_ | (apply axK; (focus ((with_reducible constructor) <;> rfl))) | ((first | apply axR hΓ | apply axG | apply ovX rfl | apply ovE rfl); (simp (disch := omega) only [go_sem, ↓reduceIte, dk] <;> with_reducible rfl); exact trivial) | rfl))
    exact axp_weak (Weak.w) (f72_2i (o := o) hk z2 fun w hw => axp_weak (Weak.w) (f72_2j (k := k) (by omega) (by omega) h2 z2))
end Go.Ab
namespace Go.Ab
open Go Go.RowKit Go.Proofs
set_option maxRecDepth 4000
set_option maxHeartbeats 40000000
theorem f72_28 {o j a b c : Nat} {m1 m2 m3 : List D} {d0 d1 d2 d3 d4 : D} {id : List UInt8} {e y : Ev} {w v r : Bool} {K : List AV → Heap → Prop} {Q : Exit → List AV → Heap → Prop} (hy : EvOK y)
    (hK : ∀ z : Bool, K ((frame 290 [(1, .ptr 0 0), (2, .data (i64 o)), (3, .ptr 4 0), (6, .ptr 10 0), (11, .ptr 31 0), (12, .data (i64 j)), (13, .ptr 44 0)])) ⟨[(0, .box [.row 1 a, .row 2 b, .row 3 c, .nils]), (1, .row 147 5 m1), (2, .row 68 3 m2), (3, .row 60 10 m3), (4, .box [.data d0, .data d1, .data d2, .data d3, .data d4]), (10, .box [.data (i64 3), .data (.str e.au), .data (i64 e.n), .data (.list (e.ns.map .str)), .data (.str e.ro), .data (i64 e.kb), .data (i64 e.kh), .data (.str e.pk), .data (.str e.dg), .data (.str e.q), .data (.str e.sc), .data (.str e.an), .data (i64 e.u), .data (.list (e.tg.map .str)), .data (i64 0), .data (.list []), .data (.list []), .data (.list [])]), (31, .box [.data (.str id), .data (.str e.au), .data (.str e.q), .data (.str e.sc), .data (.str e.an), .data (.str e.dg), .data (i64 e.u), .data (.bool z), .data (.bool v), .data (.bool r)]), (44, .box [.data (i64 y.k), .data (.str y.au), .data (i64 y.n), .data (.list (y.ns.map .str)), .data (.str y.ro), .data (i64 y.kb), .data (i64 y.kh), .data (.str y.pk), .data (.str y.dg), .data (.str y.q), .data (.str y.sc), .data (.str y.an), .data (i64 y.u), .data (.list (y.tg.map .str)), .data (i64 0), .data (.list []), .data (.list []), .data (.list [])])], 80⟩) : axp Try.prog 4 (navF Try.f72 [1, 1, 1, 1, 0, 1, 1, 1, 1, 1, 0, 1, 0, 1, 0, 0, 1, 0, 0, 1, 0]) (thenA K Q) ((frame 290 [(1, .ptr 0 0), (2, .data (i64 o)), (3, .ptr 4 0), (6, .ptr 10 0), (11, .ptr 31 0), (12, .data (i64 j)), (13, .ptr 44 0)])) ⟨[(0, .box [.row 1 a, .row 2 b, .row 3 c, .nils]), (1, .row 147 5 m1), (2, .row 68 3 m2), (3, .row 60 10 m3), (4, .box [.data d0, .data d1, .data d2, .data d3, .data d4]), (10, .box [.data (i64 3), .data (.str e.au), .data (i64 e.n), .data (.list (e.ns.map .str)), .data (.str e.ro), .data (i64 e.kb), .data (i64 e.kh), .data (.str e.pk), .data (.str e.dg), .data (.str e.q), .data (.str e.sc), .data (.str e.an), .data (i64 e.u), .data (.list (e.tg.map .str)), .data (i64 0), .data (.list []), .data (.list []), .data (.list [])]), (31, .box [.data (.str id), .data (.str e.au), .data (.str e.q), .data (.str e.sc), .data (.str e.an), .data (.str e.dg), .data (i64 e.u), .data (.bool w), .data (.bool v), .data (.bool r)]), (44, .box [.data (i64 y.k), .data (.str y.au), .data (i64 y.n), .data (.list (y.ns.map .str)), .data (.str y.ro), .data (i64 y.kb), .data (i64 y.kh), .data (.str y.pk), .data (.str y.dg), .data (.str y.q), .data (.str y.sc), .data (.str y.an), .data (i64 y.u), .data (.list (y.tg.map .str)), .data (i64 0), .data (.list []), .data (.list []), .data (.list [])])], 60⟩ := by
  have hΓ := Γ72_ok
  conv => arg 3; whnf
  refine axp_mid (Y := Bool) (fun _ => ((frame 290 [(1, .ptr 0 0), (2, .data (i64 o)), (3, .ptr 4 0), (6, .ptr 10 0), (11, .ptr 31 0), (12, .data (i64 j)), (13, .ptr 44 0)]))) (fun z => [(0, .box [.row 1 a, .row 2 b, .row 3 c, .nils]), (1, .row 147 5 m1), (2, .row 68 3 m2), (3, .row 60 10 m3), (4, .box [.data d0, .data d1, .data d2, .data d3, .data d4]), (10, .box [.data (i64 3), .data (.str e.au), .data (i64 e.n), .data (.list (e.ns.map .str)), .data (.str e.ro), .data (i64 e.kb), .data (i64 e.kh), .data (.str e.pk), .data (.str e.dg), .data (.str e.q), .data (.str e.sc), .data (.str e.an), .data (i64 e.u), .data (.list (e.tg.map .str)), .data (i64 0), .data (.list []), .data (.list []), .data (.list [])]), (31, .box [.data (.str id), .data (.str e.au), .data (.str e.q), .data (.str e.sc), .data (.str e.an), .data (.str e.dg), .data (i64 e.u), .data (.bool z), .data (.bool v), .data (.bool r)]), (44, .box [.data (i64 y.k), .data (.str y.au), .data (i64 y.n), .data (.list (y.ns.map .str)), .data (.str y.ro), .data (i64 y.kb), .data (i64 y.kh), .data (.str y.pk), .data (.str y.dg), .data (.str y.q), .data (.str y.sc), .data (.str y.an), .data (i64 y.u), .data (.list (y.tg.map .str)), .data (i64 0), .data (.list []), .data (.list []), .data (.list [])])]) (fun _ => 80) (fun _ => True) ?_ (fun z _ => hK z)
  cases w with
  | true =>
    (apply axp_regd (nst := false) 16 mixedOK hΓ; (focus kernel_rfl); (simp (disch := omega) only [go_sem, ↓reduceIte, dk] <;> with_reducible rfl); (simp only [go_sem] <;> with_reducible rfl); (simp (disch := omega) only [go_sem, ↓reduceIte, dk] <;> with_reducible rfl))
    (repeat (first | (apply axJ; (focus ((with_reducible constructor) <;> rfl))) | ((first | apply axR hΓ | apply axG | apply ovX rfl | apply ovE rfl); (simp (disch := omega) only [go_sem, ↓reduceIte, dk] <;> with_reducible rfl); exact trivial) | rfl))
    exact ⟨true, trivial, Weak.v (by (simp [ConvF, lookV, Conv, ints, ↓reduceIte]; done)) (by (simp (disch := omega) only [TabSub, look, if_pos, if_neg, Obj.refsOK, refsOKs, AV.refsOK, decide_eq_true_eq, Bool.and_true, Bool.and_self, ↓reduceIte] ) <;> ((repeat' apply And.intro) <;> first | exact True.intro | omega | (simp; done) | rfl))⟩
  | false =>
    by_cases hk : y.k = 4
    · have hl := hy.t4 hk
      have hl0 : 0 < y.tg.length := by omega
      have hkb : (y.k == 4) = true := by rw [hk]; rfl
      generalize hx : y.tg[0] = x
      generalize hc : (x == id) = c
      (apply axp_regd (nst := false) 16 mixedOK hΓ; (focus kernel_rfl); (simp (disch := omega) only [go_sem, ↓reduceIte, dk, Int.reduceToNat, List.getElem?_cons_zero, List.getElem?_cons_succ, hkb, hx, hc] <;> with_reducible rfl); (simp only [go_sem] <;> with_reducible rfl); (simp (disch := omega) only [go_sem, ↓reduceIte, dk, Int.reduceToNat, List.getElem?_cons_zero, List.getElem?_cons_succ, hkb, hx, hc] <;> with_reducible rfl))
      (repeat (first | (apply axJ; (focus ((with_reducible constructor) <;> rfl))) | ((first | apply axR hΓ | apply axG | apply ovX rfl | apply ovE rfl); (simp (disch := omega) only [go_sem, ↓reduceIte, dk] <;> with_reducible rfl); exact trivial) | rfl))
      exact ⟨c, trivial, Weak.v (by (simp [ConvF, lookV, Conv, ints, ↓reduceIte]; done)) (by (simp (disch := omega) only [TabSub, look, if_pos, if_neg, Obj.refsOK, refsOKs, AV.refsOK, decide_eq_true_eq, Bool.and_true, Bool.and_self, ↓reduceIte] ) <;> ((repeat' apply And.intro) <;> first | exact True.intro | omega | (simp; done) | rfl))⟩
    · have hkb : (y.k == 4) = false := beq_eq_false_iff_ne.2 hk
      (apply axp_regd (nst := false) 16 mixedOK hΓ; (focus kernel_rfl); (simp (disch := omega) only [go_sem, ↓reduceIte, dk, hkb] <;> with_reducible rfl); (simp only [go_sem] <;> with_reducible rfl); (simp (disch := omega) only [go_sem, ↓reduceIte, dk, hkb] <;> with_reducible rfl))
      (repeat (first | (apply axJ; (focus ((with_reducible constructor) <;> rfl))) | ((first | apply axR hΓ | apply axG | apply ovX rfl | apply ovE rfl); (simp (disch := omega) only [go_sem, ↓reduceIte, dk] <;> with_reducible rfl); exact trivial) | rfl))
      exact ⟨false, trivial, Weak.v (by (simp [ConvF, lookV, Conv, ints, ↓reduceIte]; done)) (by (simp (disch := omega) only [TabSub, look, if_pos, if_neg, Obj.refsOK, refsOKs, AV.refsOK, decide_eq_true_eq, Bool.and_true, Bool.and_self, ↓reduceIte] ) <;> ((repeat' apply And.intro) <;> first | exact True.intro | omega | (simp; done) | rfl))⟩
end Go.Ab
