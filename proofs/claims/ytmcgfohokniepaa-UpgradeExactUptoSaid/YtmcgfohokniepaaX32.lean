/-
  One text of the proof (own work): contracts of functions of the program, by the abstract machine.
-/
import Derived.Test.YtmcgfohokniepaaX21
import Derived.Test.YtmcgfohokniepaaX26
import Derived.Test.YtmcgfohokniepaaX29
import Derived.Test.YtmcgfohokniepaaX19
import Derived.Test.YtmcgfohokniepaaX30
import Derived.Test.YtmcgfohokniepaaX31
import Derived.Test.YtmcgfohokniepaaX18
set_option linter.unusedVariables false
set_option linter.unusedSimpArgs false
namespace Go.Ab
open Go Go.RowKit Go.Proofs
set_option maxRecDepth 4000
set_option maxHeartbeats 4000000
theorem dmap_inj {α : Type} {e : α → D} (he : ∀ a b, e a = e b → a = b) {l m : List α} (h : l.map e = m.map e) : l = m := List.map_inj_right he |>.1 h
structure SetR where
  l : List Ev
  ids : List (List UInt8)
  rk : List Int
  ps : List (List Bool)
  od : List Int
def eB (l : List Bool) : D := .list (l.map .bool)
theorem eB_inj (a b : List Bool) (h : eB a = eB b) : a = b := by
  simp only [eB, D.list.injEq] at h
  exact dmap_inj (fun x y h => by simpa using h) h
def eSet (s : SetR) : D := .agg [.list (s.l.map eE), .list (s.ids.map .str), .list (s.rk.map i64), .list (s.ps.map eB), .list (s.od.map i64)]
theorem ints_inj {a b : List Int} (h : a.map i64 = b.map i64) : a = b := dmap_inj (fun x y h => by simpa using h) h
theorem eSet_inj (a b : SetR) (h : eSet a = eSet b) : a = b := by
  obtain ⟨a1, a2, a3, a4, a5⟩ := a
  obtain ⟨b1, b2, b3, b4, b5⟩ := b
  simp only [eSet, D.agg.injEq, List.cons.injEq, D.list.injEq, and_true] at h
  obtain ⟨h1, h2, h3, h4, h5⟩ := h
  rw [dmap_inj eE_inj h1, strs_inj h2, ints_inj h3, dmap_inj eB_inj h4, ints_inj h5]
structure SetOK (s : SetR) : Prop where
  n : s.l.length ≤ 64
  ids : s.ids.length = s.l.length
  rk : s.rk.length = s.l.length
  ps : s.ps.length = s.l.length
  pss : ∀ p ∈ s.ps, p.length = s.l.length
  ev : ∀ e ∈ s.l, EvOK e
  od : s.od.length ≤ 64
  ods : ∀ o ∈ s.od, 0 ≤ o ∧ o < s.l.length
theorem f96_ex : ∃ g, PureOK Try.prog 96 true g ∧ ∀ x : Ev × Ev, True → ∃ d, (∃ b : Bool, d = .bool b) ∧ g [eE x.1, eE x.2] = some d := by
  have hΓ := Γ0_ok
  refine pure_ex (enc := fun x : Ev × Ev => [eE x.1, eE x.2]) (dom := fun _ => True) (good := fun _ d => ∃ b : Bool, d = .bool b) (n := 17) (rs := [.tmp 4]) Try.func96 (by kernel_rfl) rfl (by kernel_rfl) (by kernel_rfl) (fun a b h => by
    simp only [List.cons.injEq, and_true] at h
    exact Prod.ext (eE_inj _ _ h.1) (eE_inj _ _ h.2)) ?_
  rintro ⟨a, b⟩ _
  refine ⟨fun _ d ⟨n, hd⟩ => hd ▸ .bool _, ?_⟩
  dsimp only
  unfold eE
  generalize h1 : (a.q == b.q) = c1
  generalize h2 : (a.sc == b.sc) = c2
  rw [start_frame (by simp)]; simp only [enumV, go_sem, emptyH]
  (repeat (first | (apply axJ; (focus ((with_reducible constructor) <;> rfl))) | ((first | apply axR hΓ | apply axG | apply ovX rfl | apply ovE rfl); (simp (disch := omega) only [go_sem, ↓reduceIte, dk] <;> with_reducible rfl); exact trivial) | rfl))
  ((first | apply axp_regB hΓ | (apply axp_regfB mixedOK hΓ (by kernel_rfl); (simp only [go_sem] <;> with_reducible rfl)) | (apply axp_regtB mixedOK hΓ rfl (by kernel_rfl); (simp only [go_sem] <;> with_reducible rfl))); (try simp (disch := omega) only [go_sem, ↓reduceIte, dk, h1, h2]); (repeat' (first | (first | refine runs_some ?_ | (refine runsQ_some ?_; (try simp (disch := omega) only [go_sem, ↓reduceIte, dk, h1, h2]); refine runs_some ?_) | refine runsQ_some ?_) | ((first | show Runs _ _ | show RunsQ _ _); (first | cases c1 | cases c2) <;> (try simp (disch := omega) only [go_sem, ↓reduceIte, dk, h1, h2])))))
  all_goals (repeat (first | (apply axJ; (focus ((with_reducible constructor) <;> rfl))) | ((first | apply axR hΓ | apply axG | apply ovX rfl | apply ovE rfl); (simp (disch := omega) only [go_sem, ↓reduceIte, dk] <;> with_reducible rfl); exact trivial) | (exact ⟨_, rfl⟩) | (apply axp_regf mixedOK hΓ (by kernel_rfl); (simp (disch := omega) only [go_sem, ↓reduceIte, dk] <;> with_reducible rfl); (simp only [go_sem] <;> with_reducible rfl)) | (apply axp_regt mixedOK hΓ rfl; (focus kernel_rfl); (simp (disch := omega) only [go_sem, ↓reduceIte, dk] <;> with_reducible rfl); (simp only [go_sem] <;> with_reducible rfl); (simp (disch := omega) only [go_sem, ↓reduceIte, dk] <;> with_reducible rfl)) | (refine axp_cond (by simp (disch := omega) only [go_sem, ↓reduceIte, dk]; rfl) (fun hc => ?_) (fun hc => ?_)) | rfl))
noncomputable def g96 := f96_ex.choose
theorem f96_ok : PureOK Try.prog 96 true g96 := f96_ex.choose_spec.1
theorem g96_eq (a b : Ev) : ∃ r : Bool, g96 [eE a, eE b] = some (.bool r) := by
  obtain ⟨d, ⟨r, rfl⟩, h2⟩ := f96_ex.choose_spec.2 (a, b) trivial
  exact ⟨r, h2⟩
structure BefOK (s : SetR) (i k : Int) : Prop where
  i0 : 0 ≤ i
  k0 : 0 ≤ k
  ir : i < s.rk.length
  kr : k < s.rk.length
  ii : i < s.ids.length
  ki : k < s.ids.length
  n : s.ids.length ≤ 64
  n2 : s.rk.length ≤ 64
theorem f92_ex : ∃ g, PureOK Try.prog 92 true g ∧ ∀ x : SetR × Int × Int, BefOK x.1 x.2.1 x.2.2 → ∃ d, (∃ b : Bool, d = .bool b) ∧ g [eSet x.1, i64 x.2.1, i64 x.2.2] = some d := by
  have hΓ := Γ0_ok
  refine pure_ex (enc := fun x : SetR × Int × Int => [eSet x.1, i64 x.2.1, i64 x.2.2]) (dom := fun x => BefOK x.1 x.2.1 x.2.2) (good := fun _ d => ∃ b : Bool, d = .bool b) (n := 40) (rs := [.tmp 6]) Try.func92 (by kernel_rfl) rfl (by kernel_rfl) (by kernel_rfl) (fun a b h => by
    simp only [List.cons.injEq, and_true, D.int.injEq, true_and] at h
    exact Prod.ext (eSet_inj _ _ h.1) (Prod.ext h.2.1 h.2.2)) ?_
  rintro ⟨s, i, k⟩ ⟨h1, h2, h3, h4, h5, h6, h7, h8⟩
  refine ⟨fun _ d ⟨n, hd⟩ => hd ▸ .bool _, ?_⟩
  dsimp only at h1 h2 h3 h4 h5 h6 h7 h8 ⊢
  obtain ⟨i, rfl⟩ := Int.eq_ofNat_of_zero_le h1
  obtain ⟨k, rfl⟩ := Int.eq_ofNat_of_zero_le h2
  unfold eSet
  rw [start_frame (by simp)]; simp only [enumV, go_sem, emptyH]
  (repeat (first | (apply axJ; (focus ((with_reducible constructor) <;> rfl))) | ((first | apply axR hΓ | apply axG | apply ovX rfl | apply ovE rfl); (simp (disch := omega) only [go_sem, ↓reduceIte, dk] <;> with_reducible rfl); exact trivial) | (exact ⟨_, rfl⟩) | (apply axp_regf mixedOK hΓ (by kernel_rfl); (simp (disch := omega) only [go_sem, ↓reduceIte, dk] <;> with_reducible rfl); (simp only [go_sem] <;> with_reducible rfl)) | (apply axp_regt mixedOK hΓ rfl; (focus kernel_rfl); (simp (disch := omega) only [go_sem, ↓reduceIte, dk] <;> with_reducible rfl); (simp only [go_sem] <;> with_reducible rfl); (simp (disch := omega) only [go_sem, ↓reduceIte, dk] <;> with_reducible rfl)) | (refine axp_cond (by simp (disch := omega) only [go_sem, ↓reduceIte, dk]; rfl) (fun hc => ?_) (fun hc => ?_)) | rfl))
noncomputable def g92 := f92_ex.choose
theorem f92_ok : PureOK Try.prog 92 true g92 := f92_ex.choose_spec.1
theorem g92_eq {s : SetR} {i k : Int} (h : BefOK s i k) : ∃ r : Bool, g92 [eSet s, i64 i, i64 k] = some (.bool r) := by
  obtain ⟨d, ⟨r, rfl⟩, h2⟩ := f92_ex.choose_spec.2 (s, i, k) h
  exact ⟨r, h2⟩
noncomputable def Γ94 : FuncId → Option CSpec := fun f => if f = 69 then some (.pure true (g69)) else none
theorem Γ94_ok : ∀ f s, Γ94 f = some s → SpecOK Try.prog f s := by
  intro f s h
  unfold Γ94 at h
  split at h
  · rename_i hf; cases h; subst hf; exact f69_ok
  · cases h
theorem f94_ex : ∃ g, PureOK Try.prog 94 true g ∧ ∀ x : SetR × Int × List UInt8, SetOK x.1 ∧ 0 ≤ x.2.1 ∧ x.2.1 < x.1.l.length → ∃ d, (∃ n : Int, d = i64 n ∧ n < x.1.l.length) ∧ g [eSet x.1, i64 x.2.1, .str x.2.2] = some d := by
  have hΓ := Γ94_ok
  refine pure_ex (enc := fun x : SetR × Int × List UInt8 => [eSet x.1, i64 x.2.1, .str x.2.2]) (dom := fun x => SetOK x.1 ∧ 0 ≤ x.2.1 ∧ x.2.1 < x.1.l.length) (good := fun x d => ∃ n : Int, d = i64 n ∧ n < x.1.l.length) (n := 35) (rs := [.tmp 6]) Try.func94 (by kernel_rfl) rfl (by kernel_rfl) (by kernel_rfl) (fun a b h => by
    simp only [List.cons.injEq, and_true, D.int.injEq, D.str.injEq, true_and] at h
    exact Prod.ext (eSet_inj _ _ h.1) (Prod.ext h.2.1 h.2.2)) ?_
  rintro ⟨s, i, id⟩ ⟨⟨z1, z2, z3, z4, z5, z6, z7, z8⟩, h1, h2⟩
  refine ⟨fun _ d ⟨n, hd, _⟩ => hd ▸ .int _ _, ?_⟩
  dsimp only at z1 z2 z3 z4 z5 z6 z7 z8 h1 h2 ⊢
  obtain ⟨i, rfl⟩ := Int.eq_ofNat_of_zero_le h1
  have hi : i < s.ps.length := by omega
  have hp := z5 _ (List.getElem_mem hi)
  generalize hpy : s.ps[i] = p at hp
  have e69 := g69_eq (l := s.ids) (s := id) (by omega)
  have hf := fnd_lt (l := s.ids) (s := id)
  generalize fnd s.ids id = f at e69 hf
  unfold eSet
  rw [start_frame (by simp)]; simp only [enumV, go_sem, emptyH]
  (repeat (first | (apply axJ; (focus ((with_reducible constructor) <;> rfl))) | ((first | apply axR hΓ | apply axG | apply ovX rfl | apply ovE rfl); (simp (disch := omega) only [go_sem, ↓reduceIte, dk, Γ94, e69] <;> with_reducible rfl); exact trivial) | rfl))
  by_cases hf0 : f < 0
  · (repeat (first | (apply axJ; (focus ((with_reducible constructor) <;> rfl))) | ((first | apply axR hΓ | apply axG | apply ovX rfl | apply ovE rfl); (simp (disch := omega) only [go_sem, ↓reduceIte, dk] <;> with_reducible rfl); exact trivial) | rfl))
    ((repeat (first | (apply axJ; (focus ((with_reducible constructor) <;> rfl))) | (apply axT mixedOK hΓ (by kernel_rfl); (simp (disch := omega) only [go_sem, ↓reduceIte, dk] <;> with_reducible rfl)) | ((first | apply axR hΓ | apply axG | apply axH mixedOK hΓ rfl (by kernel_rfl) | apply ovX rfl | apply ovE rfl); (simp (disch := omega) only [go_sem, ↓reduceIte, dk] <;> with_reducible rfl); exact trivial) | rfl)); (exact ⟨_, rfl, by omega⟩))
  obtain ⟨f, rfl⟩ := Int.eq_ofNat_of_zero_le (show 0 ≤ f by omega)
  have hfl : f < p.length := by omega
  have hfe : f < s.l.length := by omega
  generalize hb : p[f] = b
  generalize hk : ((s.l[f]).k != 3) = c
  ((first | apply axp_regB hΓ | (apply axp_regfB mixedOK hΓ (by kernel_rfl); (simp only [go_sem] <;> with_reducible rfl)) | (apply axp_regtB mixedOK hΓ rfl (by kernel_rfl); (simp only [go_sem] <;> with_reducible rfl))); (try simp (disch := omega) only [go_sem, ↓reduceIte, dk, eB, eE, hpy, hb, hk]); (repeat' (first | (first | refine runs_some ?_ | (refine runsQ_some ?_; (try simp (disch := omega) only [go_sem, ↓reduceIte, dk, eB, eE, hpy, hb, hk]); refine runs_some ?_) | refine runsQ_some ?_) | ((first | show Runs _ _ | show RunsQ _ _); (first | cases b | cases c) <;> (try simp (disch := omega) only [go_sem, ↓reduceIte, dk, eB, eE, hpy, hb, hk])))))
  all_goals (repeat (first | (apply axJ; (focus ((with_reducible constructor) <;> rfl))) | ((first | apply axR hΓ | apply axG | apply ovX rfl | apply ovE rfl); (simp (disch := omega) only [go_sem, ↓reduceIte, dk] <;> with_reducible rfl); exact trivial) | (exact ⟨_, rfl, by omega⟩) | (apply axp_regf mixedOK hΓ (by kernel_rfl); (simp (disch := omega) only [go_sem, ↓reduceIte, dk] <;> with_reducible rfl); (simp only [go_sem] <;> with_reducible rfl)) | (apply axp_regt mixedOK hΓ rfl; (focus kernel_rfl); (simp (disch := omega) only [go_sem, ↓reduceIte, dk] <;> with_reducible rfl); (simp only [go_sem] <;> with_reducible rfl); (simp (disch := omega) only [go_sem, ↓reduceIte, dk] <;> with_reducible rfl)) | (refine axp_cond (by simp (disch := omega) only [go_sem, ↓reduceIte, dk]; rfl) (fun hc => ?_) (fun hc => ?_)) | rfl))
noncomputable def g94 := f94_ex.choose
theorem f94_ok : PureOK Try.prog 94 true g94 := f94_ex.choose_spec.1
theorem g94_eq {s : SetR} {i : Int} {id : List UInt8} (h : SetOK s) (h0 : 0 ≤ i) (h1 : i < s.l.length) : ∃ n : Int, g94 [eSet s, i64 i, .str id] = some (i64 n) ∧ n < s.l.length := by
  obtain ⟨d, ⟨n, rfl, hn⟩, h2⟩ := f94_ex.choose_spec.2 (s, i, id) ⟨h, h0, h1⟩
  exact ⟨n, h2, hn⟩
end Go.Ab
namespace Go.Ab
open Go Go.RowKit Go.Proofs
set_option maxRecDepth 4000
set_option maxHeartbeats 40000000
structure ApX where
  s : SetR
  o : Nat
  rvs : List Rw
  pks : List Pk
  dcs : List Dc
structure ApOK (x : ApX) : Prop where
  s : SetOK x.s
  o : x.o < x.s.l.length
  rvs : x.rvs.length ≤ 4096
  pks : x.pks.length ≤ 4096
  dcs : x.dcs.length ≤ 4096
def apA (x : ApX) : List AV := [.data (eSet x.s), .ptr 0 0, .data (i64 x.o)]
def apO (x : ApX) : List Obj := [.box [.row 1 x.rvs.length, .row 2 x.pks.length, .row 3 x.dcs.length, .nils], .row 147 5 (x.rvs.map eRw), .row 68 3 (x.pks.map ePk), .row 60 10 (x.dcs.map eDc)]
theorem ap_inj (x y : ApX) (h : apA x = apA y) (h2 : apO x = apO y) : x = y := by
  obtain ⟨a1, a2, a3, a4, a5⟩ := x
  obtain ⟨b1, b2, b3, b4, b5⟩ := y
  simp only [apA, apO, List.cons.injEq, AV.data.injEq, D.int.injEq, Obj.row.injEq, true_and, and_true] at h h2
  obtain ⟨h1, h3⟩ := h
  obtain ⟨-, h4, h5, h6⟩ := h2
  have h3 : a2 = b2 := by exact_mod_cast h3
  rw [eSet_inj _ _ h1, h3, dmap_inj eRw_inj h4, dmap_inj ePk_inj h5, dmap_inj eDc_inj h6]
def ApG (x : ApX) (r : AV) (os : List Obj) : Prop := r = .tup [] ∧ ∃ (rvs : List Rw) (pks : List Pk) (dcs : List Dc), rvs.length ≤ x.rvs.length + 1 ∧ pks.length ≤ x.pks.length + 1 ∧ (dcs = x.dcs ∨ ∃ d : Dc, dcs = x.dcs ++ [d] ∧ some d.id = x.s.ids[x.o]? ∧ ∃ e, x.s.l[x.o]? = some e ∧ d.q = e.q ∧ d.s = e.sc ∧ d.ans = e.an) ∧
  (os = apO ⟨x.s, x.o, rvs, pks, dcs⟩ ∨
   (∃ old : List Rw, os = [.box [.row 4 rvs.length, .row 2 pks.length, .row 3 dcs.length, .nils], .frz (old.map eRw), .row 68 3 (pks.map ePk), .row 60 10 (dcs.map eDc), .row 147 5 (rvs.map eRw)]) ∨
   ∃ old : List Pk, os = [.box [.row 1 rvs.length, .row 4 pks.length, .row 3 dcs.length, .nils], .row 147 5 (rvs.map eRw), .frz (old.map ePk), .row 60 10 (dcs.map eDc), .row 68 3 (pks.map ePk)])
theorem set_eRw (l : List Rw) (i : Nat) (a b : List UInt8) (c d n : Int) : (l.map eRw).set i (.agg [.str a, .str b, .int .i64 c, .int .i64 d, .int .i64 n]) = (l.set i ⟨a, b, c, d, n⟩).map eRw := by rw [List.map_set]; rfl
theorem set_ePk (l : List Pk) (i : Nat) (a b : List UInt8) (n : Int) : (l.map ePk).set i (.agg [.str a, .str b, .int .i64 n]) = (l.set i ⟨a, b, n⟩).map ePk := by rw [List.map_set]; rfl
noncomputable def Γ72 : FuncId → Option CSpec := fun f => if f = 96 then some (.pure true (g96)) else none
theorem Γ72_ok : ∀ f s, Γ72 f = some s → SpecOK Try.prog f s := by
  intro f s h
  unfold Γ72 at h
  split at h
  · rename_i hf; cases h; subst hf; exact f96_ok
  · cases h
theorem Weak.packed {b : Nat} {sl sl' : List AV} {H : Heap} {fp : List Nat} {objs os : List Obj} (hobj : getAll H fp = some objs) (hnd : nodupB fp = true) (hfst : ∀ i, i < b → fp[i]? = some i) (h1 : rens H (idxOf fp) sl = sl') (h2 : objs.map (renO H (idxOf fp)) = os) : Weak b sl H sl' ⟨enumO 0 os, os.length⟩ := by
  subst h1 h2
  rw [List.length_map]
  exact Weak.pack hobj hnd hfst
theorem elemsOK_sub3 {sz : Nat} {l m : List D} (h : elemsOK sz l = true) (hs : ∀ x ∈ m, x ∈ l) : elemsOK sz m = true := by
  unfold elemsOK at *
  rw [List.all_eq_true] at *
  exact fun x hx => h x (hs x hx)
theorem f72_1 {s : SetR} {o : Nat} {rvs r2 : List Rw} {pks : List Pk} {dcs : List Dc} {e : Ev} {k : Nat} (hk : k ≤ r2.length) (h2 : r2.length = rvs.length) (z1 : rvs.length ≤ 4096) : axp Try.prog 4 (navF Try.f72 [1, 1, 1, 1, 0, 1, 0, 1, 1]) (RetLX Try.prog [] 4 (ApG ⟨s, o, rvs, pks, dcs⟩)) ((frame 290 [(1, .ptr 0 0), (2, .data (i64 o)), (3, .ptr 4 0), (6, .ptr 10 0), (8, .data (i64 k))])) ⟨[(0, .box [.row 1 r2.length, .row 2 pks.length, .row 3 dcs.length, .nils]), (1, .row 147 5 (r2.map eRw)), (2, .row 68 3 (pks.map ePk)), (3, .row 60 10 (dcs.map eDc)), (4, .box [.data (.list (s.l.map eE)), .data (.list (s.ids.map .str)), .data (.list (s.rk.map i64)), .data (.list (s.ps.map eB)), .data (.list (s.od.map i64))]), (10, .box [.data (i64 1), .data (.str e.au), .data (i64 e.n), .data (.list (e.ns.map .str)), .data (.str e.ro), .data (i64 e.kb), .data (i64 e.kh), .data (.str e.pk), .data (.str e.dg), .data (.str e.q), .data (.str e.sc), .data (.str e.an), .data (i64 e.u), .data (.list (e.tg.map .str)), .data (i64 0), .data (.list []), .data (.list []), .data (.list [])])], 13⟩ := by
  have hΓ := Γ72_ok
  conv => arg 3; whnf
  refine axp_weak ((Weak.freeze (o := 1) rfl).trans (Weak.boxConv (o := 0) (cs' := [.data (.list (r2.map eRw)), .row 2 pks.length, .row 3 dcs.length, .nils]) rfl (by (repeat' (first | exact True.intro | apply And.intro | exact rfl | exact Or.inl rfl | exact Or.inr (Or.inl ⟨rfl, rfl⟩) | exact Or.inr (Or.inr ⟨_, _, rfl, rfl, by simp⟩))); done))) ?_
  refine axp_weak (sl' := (frame 290 [(1, .ptr 0 0), (2, .data (i64 o)), (3, .ptr 4 0), (6, .ptr 10 0), (8, .data (i64 k))])) (H' := ⟨[(0, .box [.data (.list (r2.map eRw)), .row 2 pks.length, .row 3 dcs.length, .nils]), (1, .frz (r2.map eRw)), (2, .row 68 3 (pks.map ePk)), (3, .row 60 10 (dcs.map eDc)), (4, .box [.data (.list (s.l.map eE)), .data (.list (s.ids.map .str)), .data (.list (s.rk.map i64)), .data (.list (s.ps.map eB)), .data (.list (s.od.map i64))]), (10, .box [.data (i64 1), .data (.str e.au), .data (i64 e.n), .data (.list (e.ns.map .str)), .data (.str e.ro), .data (i64 e.kb), .data (i64 e.kh), .data (.str e.pk), .data (.str e.dg), .data (.str e.q), .data (.str e.sc), .data (.str e.an), .data (i64 e.u), .data (.list (e.tg.map .str)), .data (i64 0), .data (.list []), .data (.list []), .data (.list [])])], 13⟩) (Weak.v (by (simp [ConvF, lookV, Conv, ints, upd]; done)) (by (simp (disch := omega) only [TabSub, look, if_pos, if_neg, Obj.refsOK, refsOKs, AV.refsOK, decide_eq_true_eq, Bool.and_true, Bool.and_self, upd] ) <;> ((repeat' apply And.intro) <;> first | exact True.intro | omega | (simp; done) | rfl))) ?_
  have a1 : List.take k (r2.map eRw) ++ [D.agg [.str e.au, .str e.ro, .int .i64 e.kb, .int .i64 e.kh, .int .i64 1]] ++ List.drop k (r2.map eRw) = (r2.take k ++ [(⟨e.au, e.ro, e.kb, e.kh, 1⟩ : Rw)] ++ r2.drop k).map eRw := by simp [eRw, List.map_take, List.map_drop]
  have l3 : (r2.take k ++ [(⟨e.au, e.ro, e.kb, e.kh, 1⟩ : Rw)] ++ r2.drop k).length = r2.length + 1 := by simp; omega
  generalize hw : r2.take k ++ [(⟨e.au, e.ro, e.kb, e.kh, 1⟩ : Rw)] ++ r2.drop k = w at *
  have hel := elemsOK_map (f := eRw) (sz := 5) (fun _ => ⟨rfl, rfl⟩) r2
  have hml : (r2.map eRw).length = r2.length := by simp
  generalize hm : r2.map eRw = m at *
  have e2 : List.take (r2.length - k) (List.drop k m) = List.drop k m := List.take_of_length_le (by simp [hml])
  have h3 : elemsOK 5 (List.take k m) = true := elemsOK_sub3 hel fun x hx => List.mem_of_mem_take hx
  have h4 : elemsOK 5 (List.drop k m) = true := elemsOK_sub3 hel fun x hx => List.mem_of_mem_drop hx
  have l1 : (List.take k m).length = k := by rw [List.length_take]; omega
  have l2 : (List.drop k m).length = r2.length - k := by rw [List.length_drop, hml]
  (repeat (first | (refine axA ?_; first | (apply axR hΓ; (simp (disch := omega) only [go_sem, ↓reduceIte, ↓lk, ↓ty_build147, dk] <;> with_reducible rfl); exact trivial) | refine axA ?_ | refine axB ?_) | refine axB ?_ | (apply axK; (focus ((with_reducible constructor) <;> rfl))) | ((first | apply axR hΓ | apply axG | apply ovX rfl | apply ovE rfl); (simp (disch := omega) only [go_sem, ↓reduceIte, ↓lk, ↓ty_build147, dk] <;> with_reducible rfl); exact trivial) | rfl))
  (apply axp_lane3 (nst := false) (nst' := false) [false, true, false, false, false, false, false, false, true, false, false, true, false, false, false, false, false, false, true, false, false, true] mixedOK hΓ (n1 := 22) (by kernel_rfl) (by kernel_rfl); (focus (dsimp only [List.take_succ_cons, List.take_zero, Array.toList]; (repeat (first | (apply lane3_loud; (focus rfl); (focus rfl); (simp (disch := omega) only [go_sem, ↓reduceIte, ↓lk, dk, Nat.sub_zero, Nat.zero_add, e2, h3, h4, l1, l2, hml, look_upd] <;> with_reducible rfl); (focus (first | (simp (disch := omega) only [go_sem, ↓reduceIte, ↓lk, dk, Nat.sub_zero, Nat.zero_add, e2, h3, h4, l1, l2, hml, look_upd]; done) | (simp (disch := omega) only [go_sem, ↓reduceIte, ↓lk, dk, Nat.sub_zero, Nat.zero_add, e2, h3, h4, l1, l2, hml, look_upd]; omega)))) | (apply lane3_quiet; (simp (disch := omega) only [go_sem, ↓reduceIte, ↓lk, dk, Nat.sub_zero, Nat.zero_add, e2, h3, h4, l1, l2, hml, look_upd] <;> with_reducible rfl)))); exact lane3_nil)); (focus ((repeat' (first | exact True.intro | refine And.intro ?_ ?_)); all_goals (first | (left; decide) | (left; rfl) | (right; simp (disch := omega) only [go_sem, ↓reduceIte, ↓lk, dk, Nat.sub_zero, Nat.zero_add, e2, h3, h4, l1, l2, hml, look_upd]; try with_reducible rfl)))); (simp (disch := omega) only [go_sem, ↓reduceIte, ↓lk, dk, Nat.sub_zero, Nat.zero_add, e2, h3, h4, l1, l2, hml, look_upd] <;> with_reducible rfl))
  rw [show k + 1 + (r2.length - k) = w.length by omega, a1]
  refine retl_x (r := .tup []) (os := [.box [.row 4 w.length, .row 2 pks.length, .row 3 dcs.length, .nils], .frz m, .row 68 3 (pks.map ePk), .row 60 10 (dcs.map eDc), .row 147 5 (w.map eRw)]) rfl rfl (Weak.packed (fp := [0, 1, 2, 3, 23]) rfl rfl (by decide) rfl rfl) ⟨rfl, w, pks, dcs, by dsimp only; omega, by dsimp only; omega, .inl rfl, .inr (.inl ⟨r2, by rw [hm]⟩)⟩
end Go.Ab
namespace Go.Ab
open Go Go.RowKit Go.Proofs
set_option maxRecDepth 4000
set_option maxHeartbeats 40000000
def EkOK (x : Now) : Prop := x.q ∈ [[108, 105, 99, 101, 110, 115, 101, 58, 97, 112, 112, 47, 97, 46, 115, 114, 99], [108, 105, 99, 101, 110, 115, 101, 58, 108, 105, 98, 47, 98, 46, 115, 114, 99], ([114, 101, 108, 97, 116, 105, 111, 110, 58, 97, 112, 112, 47, 97, 46, 115, 114, 99] : List UInt8)] ∧ x.s ∈ [[], ([97, 112, 112, 47] : List UInt8)]
def EvdG (d : D) : Prop := ∃ l : List Now, d = .list (l.map eN) ∧ l.length ≤ 14 ∧ ∀ x ∈ l, EkOK x
theorem pick2K {a : Int} (h : 0 ≤ a) (x y : List UInt8) : ∃ z, [D.str x, D.str y][(a.tmod 2).toNat]? = some (.str z) ∧ z ∈ [x, y] := by
  have := tm2 h
  rcases (show a.tmod 2 = 0 ∨ a.tmod 2 = 1 by omega) with h | h <;> rw [h]
  · exact ⟨x, rfl, by simp⟩
  · exact ⟨y, rfl, by simp⟩
theorem pick3K {a : Int} (h : 0 ≤ a) (x y z : List UInt8) : ∃ w, [D.str x, D.str y, D.str z][(a.tmod 3).toNat]? = some (.str w) ∧ w ∈ [x, y, z] := by
  have := tm3 h
  rcases (show a.tmod 3 = 0 ∨ a.tmod 3 = 1 ∨ a.tmod 3 = 2 by omega) with h | h | h <;> rw [h]
  · exact ⟨x, rfl, by simp⟩
  · exact ⟨y, rfl, by simp⟩
  · exact ⟨z, rfl, by simp⟩
noncomputable def Γ25p : FuncId → Option CSpec := fun f => if f = 36 then some (.pure true (g36)) else if f = 46 then some (.pure true (g46)) else none
theorem Γ25p_ok : ∀ f s, Γ25p f = some s → SpecOK Try.prog f s := by
  intro f s h
  unfold Γ25p at h
  split at h
  · rename_i hf; cases h; subst hf; exact f36_ok
  split at h
  · rename_i hf; cases h; subst hf; exact f46_ok
  · cases h
noncomputable def Γ25 : FuncId → Option CSpec := fun f => if f = 47 then some (.own g47) else Γ25p f
theorem Γ25_ok : ∀ f s, Γ25 f = some s → SpecOK Try.prog f s := by
  intro f s h
  unfold Γ25 at h
  split at h
  · rename_i hf; cases h; subst hf; exact f47_ok
  · exact Γ25p_ok f s h
theorem wrap_u8 {n : Int} (h : 0 ≤ n) (h2 : n < 256) : IntKind.wrap .u8 n = n := by
  show n % 256 = n
  omega
structure NsOK (l : List Int) : Prop where
  n : l.length ≤ 1099511627776
  b : ∀ n ∈ l, 0 ≤ n ∧ n < 256
theorem f25_ex : ∃ g, PureOK Try.prog 25 false g ∧ ∀ l : List Int, NsOK l → ∃ d, EvdG d ∧ g [.list (l.map u8)] = some d := by
  have hΓ := Γ25_ok
  refine pure_ex (enc := fun l : List Int => [.list (l.map u8)]) (dom := NsOK) (good := fun _ => EvdG) (n := 58) (rs := [.tmp 2]) Try.func25 (by kernel_rfl) rfl (by kernel_rfl) (by kernel_rfl) (fun a b h => by
    simp only [List.cons.injEq, and_true, D.list.injEq] at h
    exact dmap_inj (fun x y h => by simpa using h) h) ?_
  rintro ns ⟨hn, hb⟩
  refine ⟨fun h => (by cases h), ?_⟩
  rw [start_frame (by simp)]; simp only [enumV, go_sem, emptyH]
  (repeat (first | (refine axA ?_; first | (apply axR hΓ; (simp (disch := omega) only [go_sem, ↓reduceIte, dk] <;> with_reducible rfl); exact trivial) | refine axA ?_ | refine axB ?_) | refine axB ?_ | (apply axK; (focus ((with_reducible constructor) <;> rfl))) | ((first | apply axR hΓ | apply axG | apply ovX rfl | apply ovE rfl); (simp (disch := omega) only [go_sem, ↓reduceIte, dk] <;> with_reducible rfl); exact trivial) | rfl))
  refine axp_loop_at (X := Nat × List Now) (fun x => (frame 58 [(0, .data (.list (ns.map u8))), (3, .row 0 x.2.length), (4, .data (i64 x.1))])) (fun x => [(0, .row 39 3 (x.2.map eN))]) 1
    (fun x => x.1 ≤ ns.length ∧ x.1 ≤ 12 ∧ x.2.length ≤ x.1 ∧ ∀ y ∈ x.2, EkOK y) (fun x => ns.length - x.1) (0, []) ⟨Nat.zero_le _, by simp, by simp, by simp⟩ ((Weak.nilrowF (i := 3) 39 (sz := 3) (by omega) (by omega) rfl).trans (Weak.trans (s2 := (frame 58 [(0, .data (.list (ns.map u8))), (3, .row 3 0), (4, .data (i64 0))])) (H2 := ⟨[(3, .row 39 3 [])], 4⟩) (Weak.v (by (simp [ConvF, lookV, Conv, ints, upd]; done)) (by (simp (disch := omega) only [TabSub, look, if_pos, if_neg, Obj.refsOK, refsOKs, AV.refsOK, decide_eq_true_eq, Bool.and_true, Bool.and_self, upd] ) <;> ((repeat' apply And.intro) <;> first | exact True.intro | omega | (simp; done) | rfl))) (Weak.packed (os := [.row 39 3 (([] : List Now).map eN)]) (fp := [3]) rfl rfl (by simp) rfl rfl))) ?_
  rintro ⟨i, out⟩ ⟨h1, h2, h3, h4⟩
  dsimp only at h1 h2 h3 h4 ⊢
  by_cases hi : i < ns.length ∧ i < 12
  · obtain ⟨hi, h12⟩ := hi
    have hy := hb _ (List.getElem_mem hi)
    generalize hyy : ns[i] = n at hy
    obtain ⟨n0, n1⟩ := hy
    have d3 : n.tdiv 3 = n / 3 := Int.tdiv_eq_ediv_of_nonneg n0
    have d6 : n.tdiv 6 = n / 6 := Int.tdiv_eq_ediv_of_nonneg n0
    have w3 : IntKind.wrap .u8 (n.tdiv 3) = n.tdiv 3 := by rw [d3]; exact wrap_u8 (by omega) (by omega)
    have w6 : IntKind.wrap .u8 (n.tdiv 6) = n.tdiv 6 := by rw [d6]; exact wrap_u8 (by omega) (by omega)
    have t3 := tm3 n0
    have t2 := tm2 (show 0 ≤ n.tdiv 3 by omega)
    have t6 := tm3 (show 0 ≤ n.tdiv 6 by omega)
    have t32 : 0 ≤ n.tmod 32 ∧ n.tmod 32 < 32 := by rw [Int.tmod_eq_emod_of_nonneg n0]; omega
    obtain ⟨qs, hq, hqm⟩ := pick3K n0 [108, 105, 99, 101, 110, 115, 101, 58, 97, 112, 112, 47, 97, 46, 115, 114, 99] [108, 105, 99, 101, 110, 115, 101, 58, 108, 105, 98, 47, 98, 46, 115, 114, 99] [114, 101, 108, 97, 116, 105, 111, 110, 58, 97, 112, 112, 47, 97, 46, 115, 114, 99]
    obtain ⟨ps, hp, hpm⟩ := pick2K (show 0 ≤ n.tdiv 3 by omega) [] [97, 112, 112, 47]
    have e46 := g46_eq ((n.tdiv 6).tmod 3)
    have l46 := numB_len ((n.tdiv 6).tmod 3)
    generalize numB ((n.tdiv 6).tmod 3) = m at e46 l46
    have e36 := g36_2 (a := [101, 118, 105, 100, 101, 110, 99, 101]) (b := m) (by simp) (by omega)
    have hl := hsh_len [[101, 118, 105, 100, 101, 110, 99, 101], m]
    generalize hsh [[101, 118, 105, 100, 101, 110, 99, 101], m] = h at e36 hl
    (repeat (first | (refine axA ?_; first | (apply axR hΓ; (simp (disch := omega) only [go_sem, ↓reduceIte, dk, hyy] <;> with_reducible rfl); exact trivial) | refine axA ?_ | refine axB ?_) | refine axB ?_ | (apply axK; (focus ((with_reducible constructor) <;> rfl))) | ((first | apply axR hΓ | apply axG | apply ovX rfl | apply ovE rfl); (simp (disch := omega) only [go_sem, ↓reduceIte, dk, hyy] <;> with_reducible rfl); exact trivial) | rfl))
    refine axA ?_
    (apply axp_lane3 (nst := false) (nst' := false) [false, false, false, false, false, false, false, false, false, false, false, false, false, false, false, false, false, false, false, true] mixedOK hΓ (n1 := 20) (by kernel_rfl) (by kernel_rfl); (focus (dsimp only [List.take_succ_cons, List.take_zero, Array.toList]; (repeat (first | (apply lane3_loud; (focus rfl); (focus rfl); (simp (disch := omega) only [go_sem, ↓reduceIte, ↓lk, ↓ty_build39, dk, w3, w6, hq, hp, Γ25, Γ25p, e46, e36, look_upd] <;> with_reducible rfl); (focus (first | (simp (disch := omega) only [go_sem, ↓reduceIte, ↓lk, ↓ty_build39, dk, w3, w6, hq, hp, Γ25, Γ25p, e46, e36, look_upd]; done) | (simp (disch := omega) only [go_sem, ↓reduceIte, ↓lk, ↓ty_build39, dk, w3, w6, hq, hp, Γ25, Γ25p, e46, e36, look_upd]; omega)))) | (apply lane3_quiet; (simp (disch := omega) only [go_sem, ↓reduceIte, ↓lk, ↓ty_build39, dk, w3, w6, hq, hp, Γ25, Γ25p, e46, e36, look_upd] <;> with_reducible rfl)))); exact lane3_nil)); (focus ((repeat' (first | exact True.intro | refine And.intro ?_ ?_)); all_goals (first | (left; decide) | (left; rfl) | (right; simp (disch := omega) only [go_sem, ↓reduceIte, ↓lk, ↓ty_build39, dk, w3, w6, hq, hp, Γ25, Γ25p, e46, e36, look_upd]; try with_reducible rfl)))); (simp (disch := omega) only [go_sem, ↓reduceIte, ↓lk, ↓ty_build39, dk, w3, w6, hq, hp, Γ25, Γ25p, e46, e36, look_upd] <;> with_reducible rfl))
    by_cases h216 : 216 ≤ n
    · (repeat (first | (refine axA ?_; first | (apply axR hΓ; (simp (disch := omega) only [go_sem, ↓reduceIte, ↓lk, dk] <;> with_reducible rfl); exact trivial) | refine axA ?_ | refine axB ?_) | refine axB ?_ | (apply axK; (focus ((with_reducible constructor) <;> rfl))) | ((first | apply axR hΓ | apply axG | apply ovX rfl | apply ovE rfl); (simp (disch := omega) only [go_sem, ↓reduceIte, ↓lk, dk] <;> with_reducible rfl); exact trivial) | rfl))
      refine axA ?_
      (apply axp_lane3 (nst := false) (nst' := false) [false, false, false, false, false, false, false, false, false, false, false, true] mixedOK hΓ (n1 := 12) (by kernel_rfl) (by kernel_rfl); (focus (dsimp only [List.take_succ_cons, List.take_zero, Array.toList]; (repeat (first | (apply lane3_loud; (focus rfl); (focus rfl); (simp (disch := omega) only [go_sem, ↓reduceIte, ↓lk, ↓ty_build39, dk, hl, look_upd] <;> with_reducible rfl); (focus (first | (simp (disch := omega) only [go_sem, ↓reduceIte, ↓lk, ↓ty_build39, dk, hl, look_upd]; done) | (simp (disch := omega) only [go_sem, ↓reduceIte, ↓lk, ↓ty_build39, dk, hl, look_upd]; omega)))) | (apply lane3_quiet; (simp (disch := omega) only [go_sem, ↓reduceIte, ↓lk, ↓ty_build39, dk, hl, look_upd] <;> with_reducible rfl)))); exact lane3_nil)); (focus ((repeat' (first | exact True.intro | refine And.intro ?_ ?_)); all_goals (first | (left; decide) | (left; rfl) | (right; simp (disch := omega) only [go_sem, ↓reduceIte, ↓lk, ↓ty_build39, dk, hl, look_upd]; try with_reducible rfl)))); (simp (disch := omega) only [go_sem, ↓reduceIte, ↓lk, ↓ty_build39, dk, hl, look_upd] <;> with_reducible rfl))
      (repeat (first | (apply axJ; (focus ((with_reducible constructor) <;> rfl))) | ((first | apply axR hΓ | apply axG | apply ovX rfl | apply ovE rfl); (simp (disch := omega) only [go_sem, ↓reduceIte, dk] <;> with_reducible rfl); exact trivial) | rfl))
      refine ⟨out ++ [⟨qs, [], _⟩, ⟨qs, ps, h⟩], by rw [List.map_append]; rfl, by simp; omega, fun x hx => ?_⟩
      simp only [List.mem_append, List.mem_cons, List.not_mem_nil, or_false] at hx
      rcases hx with hx | rfl | rfl
      · exact h4 x hx
      · exact ⟨hqm, by simp⟩
      · exact ⟨hqm, hpm⟩
    · obtain ⟨out', e47, k1, k2⟩ := g47_eq (l := out) (x := ⟨qs, ps, h⟩) (by omega)
      (repeat (first | (apply axJ; (focus ((with_reducible constructor) <;> rfl))) | ((first | apply axR hΓ | apply axG | apply ovX rfl | apply ovE rfl); (simp (disch := omega) only [go_sem, ↓reduceIte, ↓lk, dk, Γ25, e47] <;> with_reducible rfl); exact trivial) | rfl))
      exact ⟨(i + 1, out'), ⟨by dsimp only; omega, by dsimp only; omega, by dsimp only; omega, fun y hy => (k2 y hy).elim (h4 y) fun h => by subst h; exact ⟨hqm, hpm⟩⟩, by dsimp only; omega, Weak.trans (s2 := (frame 58 [(0, .data (.list (ns.map u8))), (3, .row 39 out'.length), (4, .data (i64 (i + 1 : Nat)))])) (H2 := ⟨[(39, .row 39 3 (out'.map eN))], 40⟩) (Weak.w) (Weak.packed (os := [.row 39 3 (out'.map eN)]) (fp := [39]) rfl rfl (by simp) rfl rfl)⟩
  · by_cases ha : i < ns.length
    · have hb : ¬ i < 12 := fun h => hi ⟨ha, h⟩
      (repeat (first | (apply axJ; (focus ((with_reducible constructor) <;> rfl))) | ((first | apply axR hΓ | apply axG | apply ovX rfl | apply ovE rfl); (simp (disch := omega) only [go_sem, ↓reduceIte, dk] <;> with_reducible rfl); exact trivial) | rfl))
      exact ⟨out, rfl, by omega, h4⟩
    · (repeat (first | (apply axJ; (focus ((with_reducible constructor) <;> rfl))) | ((first | apply axR hΓ | apply axG | apply ovX rfl | apply ovE rfl); (simp (disch := omega) only [go_sem, ↓reduceIte, dk] <;> with_reducible rfl); exact trivial) | rfl))
      exact ⟨out, rfl, by omega, h4⟩
noncomputable def g25 := f25_ex.choose
theorem f25_ok : PureOK Try.prog 25 false g25 := f25_ex.choose_spec.1
theorem g25_eq {l : List Int} (h : NsOK l) : ∃ m : List Now, g25 [.list (l.map u8)] = some (.list (m.map eN)) ∧ m.length ≤ 14 ∧ ∀ x ∈ m, EkOK x := by
  obtain ⟨d, ⟨m, rfl, h3, h4⟩, h5⟩ := f25_ex.choose_spec.2 l h
  exact ⟨m, h5, h3, h4⟩
end Go.Ab
namespace Go.Ab
open Go Go.RowKit Go.Proofs
set_option maxRecDepth 4000
def tyDd : Ty := .struct [.int .u8, .int .u8, .int .u8, .int .u8, .int .u8, .int .u16, .arr [.int .u8, .int .u8]]
theorem wf_u8 {x : Int} (h : (Lit.int .u8 x).wf = true) : 0 ≤ x ∧ x ≤ 255 := by
  have : (decide (0 ≤ x) && decide (x ≤ 255)) = true := h
  simpa using this
theorem wf_u16 {x : Int} (h : (Lit.int .u16 x).wf = true) : 0 ≤ x := by
  have : (decide (0 ≤ x) && decide (x ≤ 65535)) = true := h
  simp at this
  exact this.1
theorem list_chooseP {α β γ : Type} {f : α → γ} {g : β → γ} {p : β → Prop} : ∀ (ls : List α), (∀ c ∈ ls, ∃ x, f c = g x ∧ p x) → ∃ l : List β, ls.map f = l.map g ∧ l.length = ls.length ∧ ∀ x ∈ l, p x
  | [], _ => ⟨[], rfl, rfl, fun x hx => by cases hx⟩
  | c :: ls, h => by
    obtain ⟨x, hx, hp⟩ := h c List.mem_cons_self
    obtain ⟨l, h1, h2, h3⟩ := list_chooseP ls fun c hc => h c (List.mem_cons_of_mem _ hc)
    exact ⟨x :: l, by simp [hx, h1], by simp [h2], fun y hy => by
      rcases List.mem_cons.1 hy with rfl | hy
      · exact hp
      · exact h3 y hy⟩
theorem has_dd {n : Nat} {cs : List D} (h : HasTy n tyDd cs) : ∃ d : Dd, tyDd.pack cs = eDd d ∧ DdOK d := by
  simp only [tyDd, HasTy, HasTyL] at h
  obtain ⟨_, _, ⟨a, wa, rfl⟩, ⟨_, _, ⟨b, wb, rfl⟩, ⟨_, _, ⟨c, wc, rfl⟩, ⟨_, _, ⟨d, wd, rfl⟩, ⟨_, _, ⟨e, we, rfl⟩, ⟨_, _, ⟨f, wf, rfl⟩, ⟨_, _, ⟨_, _, ⟨i, wi, rfl⟩, ⟨_, _, ⟨j, wj, rfl⟩, rfl, rfl⟩, rfl⟩, rfl, rfl⟩, rfl⟩, rfl⟩, rfl⟩, rfl⟩, rfl⟩, rfl⟩ := h
  have ha := wf_u8 wa
  have hb := wf_u8 wb
  have hc := wf_u8 wc
  have hd := wf_u8 wd
  have he := wf_u8 we
  have hf := wf_u16 wf
  have hi := wf_u8 wi
  have hj := wf_u8 wj
  exact ⟨⟨a, b, c, d, e, f, i, j⟩, rfl, ⟨ha.1, hb.1, hc.1, hd.1, he.1, hi.1, hj.1, hf, ha.2, hi.2, hj.2⟩⟩
theorem has_dds {n : Nat} {cs : List D} (h : HasTy n (.slice tyDd) cs) : ∃ l : List Dd, (Ty.slice tyDd).pack cs = .list (l.map eDd) ∧ l.length ≤ n ∧ ∀ d ∈ l, DdOK d := by
  simp only [HasTy] at h
  obtain ⟨ls, hl, hs, rfl⟩ := h
  obtain ⟨m, e, k, hp⟩ := list_chooseP (f := tyDd.pack) (g := eDd) (p := DdOK) ls fun c hc => has_dd (hs c hc)
  exact ⟨m, by simp only [Ty.pack, List.headD_cons, e], by omega, hp⟩
theorem has_u8s {n : Nat} {cs : List D} (h : HasTy n (.slice (.int .u8)) cs) (hn : n ≤ 1099511627776) : ∃ l : List Int, (Ty.slice (.int .u8)).pack cs = .list (l.map u8) ∧ NsOK l := by
  simp only [HasTy] at h
  obtain ⟨ls, hl, hs, rfl⟩ := h
  obtain ⟨m, e, k, hp⟩ := list_chooseP (f := (Ty.int .u8).pack) (g := fun x : Int => u8 x) (p := fun x => 0 ≤ x ∧ x < 256) ls fun c hc => by
    obtain ⟨x, hw, rfl⟩ := hs c hc
    have := wf_u8 hw
    exact ⟨x, rfl, this.1, by omega⟩
  exact ⟨m, by simp only [Ty.pack, List.headD_cons, e], ⟨by omega, hp⟩⟩
theorem has_dn {n : Nat} {xs : List D} (h : HasTys n [.slice tyDd, .slice (.int .u8)] xs) (hn : n ≤ 1099511627776) : ∃ (a : List Dd) (b : List Int), xs = [.list (a.map eDd), .list (b.map u8)] ∧ (a.length ≤ 1099511627776 ∧ ∀ d ∈ a, DdOK d) ∧ NsOK b := by
  simp only [HasTys] at h
  obtain ⟨c1, _, h1, ⟨c2, _, h2, rfl, rfl⟩, rfl⟩ := h
  obtain ⟨a, e1, b1, b2⟩ := has_dds h1
  obtain ⟨b, e2, b3⟩ := has_u8s h2 hn
  exact ⟨a, b, by rw [e1, e2], ⟨by omega, b2⟩, b3⟩
theorem has_dnn {n : Nat} {xs : List D} (h : HasTys n [.slice tyDd, .slice (.int .u8), .slice (.int .u8)] xs) (hn : n ≤ 1099511627776) : ∃ (a : List Dd) (b c : List Int), xs = [.list (a.map eDd), .list (b.map u8), .list (c.map u8)] ∧ (a.length ≤ 1099511627776 ∧ ∀ d ∈ a, DdOK d) ∧ NsOK b ∧ NsOK c := by
  simp only [HasTys] at h
  obtain ⟨c1, _, h1, ⟨c2, _, h2, ⟨c3, _, h3, rfl, rfl⟩, rfl⟩, rfl⟩ := h
  obtain ⟨a, e1, b1, b2⟩ := has_dds h1
  obtain ⟨b, e2, b3⟩ := has_u8s h2 hn
  obtain ⟨c, e3, b4⟩ := has_u8s h3 hn
  exact ⟨a, b, c, by rw [e1, e2, e3], ⟨by omega, b2⟩, b3, b4⟩
theorem has_dnss {n : Nat} {xs : List D} (h : HasTys n [.slice tyDd, .slice (.int .u8), .str, .str] xs) (hn : n ≤ 1099511627776) : ∃ (a : List Dd) (b : List Int) (s t : List UInt8), xs = [.list (a.map eDd), .list (b.map u8), .str s, .str t] ∧ (a.length ≤ 1099511627776 ∧ ∀ d ∈ a, DdOK d) ∧ NsOK b := by
  simp only [HasTys] at h
  obtain ⟨c1, _, h1, ⟨c2, _, h2, ⟨c3, _, h3, ⟨c4, _, h4, rfl, rfl⟩, rfl⟩, rfl⟩, rfl⟩ := h
  obtain ⟨a, e1, b1, b2⟩ := has_dds h1
  obtain ⟨b, e2, b3⟩ := has_u8s h2 hn
  obtain ⟨s, _, e3⟩ := has_str h3
  obtain ⟨t, _, e4⟩ := has_str h4
  exact ⟨a, b, s, t, by rw [e1, e2, e3, e4], ⟨by omega, b2⟩, b3⟩
end Go.Ab
