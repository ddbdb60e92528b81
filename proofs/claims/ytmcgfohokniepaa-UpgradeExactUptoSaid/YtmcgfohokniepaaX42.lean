/-
  One text of the proof (own work): contracts of functions of the program, by the abstract machine.
-/
import Derived.Test.YtmcgfohokniepaaX21
import Derived.Test.YtmcgfohokniepaaX41
import Derived.Test.YtmcgfohokniepaaX35
import Derived.Test.YtmcgfohokniepaaX31
import Derived.Test.YtmcgfohokniepaaX19
set_option linter.unusedVariables false
set_option linter.unusedSimpArgs false
namespace Go.Ab
open Go Go.RowKit Go.Proofs
set_option maxRecDepth 4000
set_option maxHeartbeats 40000000
def EvsG (d : D) : Prop := ∃ l : List Ev, d = .list (l.map eE) ∧ l.length ≤ 12 ∧ ∀ e ∈ l, EvOK e
noncomputable def Γ44p : FuncId → Option CSpec := fun f => if f = 65 then some (.pure true (g65)) else if f = 66 then some (.pure false (g66)) else if f = 68 then some (.pure true (g68)) else if f = 69 then some (.pure true (g69)) else none
theorem Γ44p_ok : ∀ f s, Γ44p f = some s → SpecOK Try.prog f s := by
  intro f s h
  unfold Γ44p at h
  split at h
  · rename_i hf; cases h; subst hf; exact f65_ok
  split at h
  · rename_i hf; cases h; subst hf; exact f66_ok
  split at h
  · rename_i hf; cases h; subst hf; exact f68_ok
  split at h
  · rename_i hf; cases h; subst hf; exact f69_ok
  · cases h
noncomputable def Γ44 : FuncId → Option CSpec := fun f => if f = 67 then some (.loc g67) else Γ44p f
theorem Γ44_ok : ∀ f s, Γ44 f = some s → SpecOK Try.prog f s := by
  intro f s h
  unfold Γ44 at h
  split at h
  · rename_i hf; cases h; subst hf; exact f67_ok
  · exact Γ44p_ok f s h
structure Acc where
  i : Nat
  l : List Ev
  ids : List (List UInt8)
structure AccOK (n : Nat) (x : Acc) : Prop where
  i1 : x.i ≤ n
  i2 : x.i ≤ 12
  l : x.l.length ≤ x.i
  ids : x.ids.length = x.l.length
  ev : ∀ e ∈ x.l, EvOK e
  idss : ∀ s ∈ x.ids, s.length ≤ 64
structure Inn where
  j : Nat
  n : Int
  ns : List (List UInt8)
  r : Int
structure InnOK (n : Nat) (x : Inn) : Prop where
  j : x.j ≤ n
  n0 : 0 ≤ x.n
  n1 : x.n ≤ x.j
  ns : x.ns.length ≤ x.j
  nss : ∀ s ∈ x.ns, s.length ≤ 64
  r0 : -1 ≤ x.r
  r1 : x.r < n
abbrev evB (k : Int) (au : List UInt8) (n : Int) (ns : List (List UInt8)) : Obj := .box [.data (i64 k), .data (.str au), .data (i64 n), .data (.list (ns.map .str)), .data (.str []), .data (i64 0), .data (i64 0), .data (.str []), .data (.str []), .data (.str []), .data (.str []), .data (.str []), .data (i64 0), .nils, .data (i64 0), .nils, .nils, .nils]
abbrev ddB (d : Dd) : Obj := .box [.data (u8 d.k), .data (u8 d.a), .data (u8 d.q), .data (u8 d.an), .data (u8 d.u), .data (.int .u16 d.f), .data (u8 d.t0), .data (u8 d.t1)]
theorem shr16 (f : Int) (j : Nat) (h : j ≤ 1000) : ∃ v, ashift .shr .u16 f (IntKind.wrap .u64 j) = some v := by
  rw [wrapu_in (by omega) (by omega)]
  exact ⟨_, if_neg (by omega)⟩
theorem f44_ex : ∃ g, PureOK Try.prog 44 false g ∧ ∀ ds : List Dd, ds.length ≤ 4096 ∧ (∀ d ∈ ds, DdOK d) → ∃ d, EvsG d ∧ g [.list (ds.map eDd)] = some d := by
  have hΓ := Γ44_ok
  refine pure_ex (enc := fun ds : List Dd => [.list (ds.map eDd)]) (dom := fun ds => ds.length ≤ 4096 ∧ ∀ d ∈ ds, DdOK d) (good := fun _ => EvsG) (n := 118) (rs := [.tmp 2]) Try.func44 (by kernel_rfl) rfl (by kernel_rfl) (by kernel_rfl) (fun a b h => by
    simp only [List.cons.injEq, and_true, D.list.injEq] at h
    exact fmap_inj eDd_inj h) ?_
  rintro ds ⟨hn, hds⟩
  refine ⟨fun h => (by cases h), ?_⟩
  rw [start_frame (by simp)]; simp only [enumV, go_sem, emptyH]
  (repeat (first | (refine axA ?_; first | (apply axR hΓ; (simp (disch := omega) only [go_sem, ↓reduceIte, dk] <;> with_reducible rfl); exact trivial) | refine axA ?_ | refine axB ?_) | refine axB ?_ | (apply axK; (focus ((with_reducible constructor) <;> rfl))) | ((first | apply axR hΓ | apply axG | apply ovX rfl | apply ovE rfl); (simp (disch := omega) only [go_sem, ↓reduceIte, dk] <;> with_reducible rfl); exact trivial) | rfl))
  refine axp_loop_at (X := Acc) (fun y => (frame 118 [(0, .data (.list (ds.map eDd))), (3, .row 4 y.l.length), (4, .row 5 y.ids.length), (5, .data (i64 y.i))])) (fun y => [(4, .row 113 18 (y.l.map eE)), (5, .row 9 1 (y.ids.map .str))]) 6
    (AccOK ds.length) (fun y => ds.length - y.i) ⟨0, [], []⟩ ⟨Nat.zero_le _, Nat.zero_le _, Nat.zero_le _, rfl, by simp, by simp⟩ ((Weak.nilrowF (i := 3) 113 (sz := 18) (by omega) (by omega) rfl).trans ((Weak.nilrowF (i := 4) 9 (sz := 1) (by omega) (by omega) rfl).trans (Weak.v (by (simp [ConvF, lookV, Conv, ints, upd]; done)) (by (simp (disch := omega) only [TabSub, look, if_pos, if_neg, Obj.refsOK, refsOKs, AV.refsOK, decide_eq_true_eq, Bool.and_true, Bool.and_self, upd] ) <;> ((repeat' apply And.intro) <;> first | exact True.intro | omega | (simp; done) | rfl))))) ?_
  rintro ⟨i, l, ids⟩ hy
  have hy' := hy
  obtain ⟨h1, h2, h3, h4, h5, h6⟩ := hy'
  dsimp only at h1 h2 h3 h4 h5 h6 ⊢
  have hfin : EvsG (.list (l.map eE)) := ⟨l, rfl, by omega, h5⟩
  by_cases hi : i < ds.length
  · by_cases hi2 : i < 12
    · have hd := hds _ (List.getElem_mem hi)
      generalize hdd : ds[i] = d at hd
      have t5 := tm5 hd.k
      have e65 := g65_eq hd.a
      have l65 := authB_len d.a
      generalize authB d.a = au at e65 l65
      (repeat (first | (refine axA ?_; first | (apply axR hΓ; (simp (disch := omega) only [go_sem, ↓reduceIte, ↓lk, dk, hdd, eDd] <;> with_reducible rfl); exact trivial) | refine axA ?_ | refine axB ?_) | refine axB ?_ | (apply axK; (focus ((with_reducible constructor) <;> rfl))) | ((first | apply axR hΓ | apply axG | apply ovX rfl | apply ovE rfl); (simp (disch := omega) only [go_sem, ↓reduceIte, ↓lk, dk, hdd, eDd] <;> with_reducible rfl); exact trivial) | rfl))
      refine axA ?_
      (apply axp_regm (nst := false) (nst' := false) 9 mixedOK hΓ (by kernel_rfl); (simp (disch := omega) only [go_sem, ↓reduceIte, ↓lk, ↓ty_build113, dk, Γ44, Γ44p, e65, look_upd] <;> with_reducible rfl); (simp (disch := omega) only [go_sem, ↓reduceIte] <;> with_reducible rfl); (focus rfl); (focus rfl); (simp (disch := omega) only [go_sem, ↓reduceIte, ↓lk, ↓ty_build113, dk, Γ44, Γ44p, e65, look_upd] <;> with_reducible rfl); (focus (first | (simp (disch := omega) only [go_sem, ↓reduceIte, ↓lk, ↓ty_build113, dk, Γ44, Γ44p, e65, look_upd]; done) | (simp (disch := omega) only [go_sem, ↓reduceIte, ↓lk, ↓ty_build113, dk, Γ44, Γ44p, e65, look_upd]; omega))); (focus (dsimp only [List.take_succ_cons, List.take_zero]; (repeat (apply same2_cons; (focus (first | (left; decide) | (right; simp (disch := omega) only [go_sem, ↓reduceIte, ↓lk, ↓ty_build113, dk, Γ44, Γ44p, e65, look_upd]; done))); (simp (disch := omega) only [go_sem, ↓reduceIte, ↓lk, ↓ty_build113, dk, Γ44, Γ44p, e65, look_upd] <;> with_reducible rfl))); exact same2_nil)); (simp (disch := omega) only [go_sem, ↓reduceIte, ↓lk, ↓ty_build113, dk, Γ44, Γ44p, e65, look_upd] <;> with_reducible rfl))
      (repeat (first | (refine axA ?_; first | (apply axR hΓ; (simp (disch := omega) only [go_sem, ↓reduceIte, dk] <;> with_reducible rfl); exact trivial) | refine axA ?_ | refine axB ?_) | refine axB ?_ | (apply axK; (focus ((with_reducible constructor) <;> rfl))) | ((first | apply axR hΓ | apply axG | apply ovX rfl | apply ovE rfl); (simp (disch := omega) only [go_sem, ↓reduceIte, dk] <;> with_reducible rfl); exact trivial) | rfl))
      refine axp_loop_at (X := Inn) (fun y => (frame 118 [(0, .data (.list (ds.map eDd))), (3, .row 4 l.length), (4, .row 5 ids.length), (5, .data (i64 i)), (6, .ptr 18 0), (7, .ptr 29 0), (8, .data (i64 y.r)), (9, .data (i64 y.j))])) (fun y => [(4, .row 113 18 (l.map eE)), (5, .row 9 1 (ids.map .str)), (18, ddB d), (29, evB (d.k.tmod 5 + 1) au y.n y.ns)]) 33
        (InnOK l.length) (fun y => l.length - y.j) ⟨0, 0, [], -1⟩ ⟨by simp, by simp, by simp, by simp, by simp, by simp, by dsimp only; omega⟩ ((Weak.boxConv (o := 29) (cs' := [.data (i64 (d.k.tmod 5 + 1)), .data (.str au), .data (i64 0), .data (.list []), .data (.str []), .data (i64 0), .data (i64 0), .data (.str []), .data (.str []), .data (.str []), .data (.str []), .data (.str []), .data (i64 0), .nils, .data (i64 0), .nils, .nils, .nils]) rfl (by (repeat' (first | exact True.intro | apply And.intro | exact rfl | exact Or.inl rfl | exact Or.inr (Or.inl ⟨rfl, rfl⟩) | exact Or.inr (Or.inr ⟨_, _, rfl, rfl, by simp⟩))); done)).trans (Weak.v (by (simp [ConvF, lookV, Conv, ints, upd]; done)) (by (simp (disch := omega) only [TabSub, look, if_pos, if_neg, Obj.refsOK, refsOKs, AV.refsOK, decide_eq_true_eq, Bool.and_true, Bool.and_self, upd] ) <;> ((repeat' apply And.intro) <;> first | exact True.intro | omega | (simp; done) | rfl)))) ?_
      rintro ⟨j, n, ns, r⟩ hz
      obtain ⟨j1, n0, n1, s1, s2, r0, r1⟩ := hz
      dsimp only at j1 n0 n1 s1 s2 r0 r1 ⊢
      unfold evB ddB
      by_cases hj : j < l.length
      · have hji : j < ids.length := by omega
        have hsl := h6 _ (List.getElem_mem hji)
        generalize hid : ids[j] = s at hsl
        generalize hyy : l[j] = y
        obtain ⟨ns', e66, l66, m66⟩ := g66_eq (l := ns) (s := s) (by omega)
        generalize hc : (y.au == au) = c
        obtain ⟨v, hv⟩ := shr16 d.f j (by omega)
        obtain ⟨v2, hv2⟩ : ∃ v2, abits .and .u16 v 1 = some v2 := ⟨_, rfl⟩
        generalize hb : (v2 == 1) = b
        (repeat (first | (refine axA ?_; first | (apply axR hΓ; (simp (disch := omega) only [go_sem, ↓reduceIte, dk] <;> with_reducible rfl); exact trivial) | refine axA ?_ | refine axB ?_) | refine axB ?_ | (apply axK; (focus ((with_reducible constructor) <;> rfl))) | ((first | apply axR hΓ | apply axG | apply ovX rfl | apply ovE rfl); (simp (disch := omega) only [go_sem, ↓reduceIte, dk] <;> with_reducible rfl); exact trivial) | rfl))
        (apply axp_regf mixedOK hΓ (by kernel_rfl); (simp (disch := omega) only [go_sem, ↓reduceIte, dk, hyy, eE, hc] <;> with_reducible rfl); (simp only [go_sem] <;> with_reducible rfl))
        cases c with
        | true =>
          cases b with
          | true =>
            (repeat (first | (refine axA ?_; first | (apply axR hΓ; (simp (disch := omega) only [go_sem, ↓reduceIte, dk, hv, hv2, hb] <;> with_reducible rfl); exact trivial) | refine axA ?_ | refine axB ?_) | refine axB ?_ | (apply axK; (focus ((with_reducible constructor) <;> rfl))) | ((first | apply axR hΓ | apply axG | apply ovX rfl | apply ovE rfl); (simp (disch := omega) only [go_sem, ↓reduceIte, dk, hv, hv2, hb] <;> with_reducible rfl); exact trivial) | rfl))
            (apply axp_regd (nst := false) 7 mixedOK hΓ; (focus kernel_rfl); (simp (disch := omega) only [go_sem, ↓reduceIte, dk, hid, Γ44, Γ44p, e66] <;> with_reducible rfl); (simp only [go_sem] <;> with_reducible rfl); (simp (disch := omega) only [go_sem, ↓reduceIte, dk, hid, Γ44, Γ44p, e66] <;> with_reducible rfl))
            (repeat (first | (apply axJ; (focus ((with_reducible constructor) <;> rfl))) | ((first | apply axR hΓ | apply axG | apply ovX rfl | apply ovE rfl); (simp (disch := omega) only [go_sem, ↓reduceIte, dk] <;> with_reducible rfl); exact trivial) | rfl))
            exact ⟨⟨j + 1, n + 1, ns', j⟩, ⟨by dsimp only; omega, by dsimp only; omega, by dsimp only; omega, by dsimp only; omega, (fun z hz => (m66 z hz).elim (s2 z) (fun h => h ▸ hsl)), by dsimp only; omega, by dsimp only; omega⟩, by dsimp only; omega, Weak.w⟩
          | false =>
            (repeat (first | (apply axJ; (focus ((with_reducible constructor) <;> rfl))) | ((first | apply axR hΓ | apply axG | apply ovX rfl | apply ovE rfl); (simp (disch := omega) only [go_sem, ↓reduceIte, dk, hv, hv2, hb] <;> with_reducible rfl); exact trivial) | rfl))
            exact ⟨⟨j + 1, n + 1, ns, j⟩, ⟨by dsimp only; omega, by dsimp only; omega, by dsimp only; omega, by dsimp only; omega, s2, by dsimp only; omega, by dsimp only; omega⟩, by dsimp only; omega, Weak.w⟩
        | false =>
          cases b with
          | true =>
            (repeat (first | (refine axA ?_; first | (apply axR hΓ; (simp (disch := omega) only [go_sem, ↓reduceIte, dk, hv, hv2, hb] <;> with_reducible rfl); exact trivial) | refine axA ?_ | refine axB ?_) | refine axB ?_ | (apply axK; (focus ((with_reducible constructor) <;> rfl))) | ((first | apply axR hΓ | apply axG | apply ovX rfl | apply ovE rfl); (simp (disch := omega) only [go_sem, ↓reduceIte, dk, hv, hv2, hb] <;> with_reducible rfl); exact trivial) | rfl))
            (apply axp_regd (nst := false) 7 mixedOK hΓ; (focus kernel_rfl); (simp (disch := omega) only [go_sem, ↓reduceIte, dk, hid, Γ44, Γ44p, e66] <;> with_reducible rfl); (simp only [go_sem] <;> with_reducible rfl); (simp (disch := omega) only [go_sem, ↓reduceIte, dk, hid, Γ44, Γ44p, e66] <;> with_reducible rfl))
            (repeat (first | (apply axJ; (focus ((with_reducible constructor) <;> rfl))) | ((first | apply axR hΓ | apply axG | apply ovX rfl | apply ovE rfl); (simp (disch := omega) only [go_sem, ↓reduceIte, dk] <;> with_reducible rfl); exact trivial) | rfl))
            exact ⟨⟨j + 1, n, ns', r⟩, ⟨by dsimp only; omega, by dsimp only; omega, by dsimp only; omega, by dsimp only; omega, (fun z hz => (m66 z hz).elim (s2 z) (fun h => h ▸ hsl)), by dsimp only; omega, by dsimp only; omega⟩, by dsimp only; omega, Weak.w⟩
          | false =>
            (repeat (first | (apply axJ; (focus ((with_reducible constructor) <;> rfl))) | ((first | apply axR hΓ | apply axG | apply ovX rfl | apply ovE rfl); (simp (disch := omega) only [go_sem, ↓reduceIte, dk, hv, hv2, hb] <;> with_reducible rfl); exact trivial) | rfl))
            exact ⟨⟨j + 1, n, ns, r⟩, ⟨by dsimp only; omega, by dsimp only; omega, by dsimp only; omega, by dsimp only; omega, s2, by dsimp only; omega, by dsimp only; omega⟩, by dsimp only; omega, Weak.w⟩
      (repeat (first | (refine axA ?_; first | (apply axR hΓ; (simp (disch := omega) only [go_sem, ↓reduceIte, dk] <;> with_reducible rfl); exact trivial) | refine axA ?_ | refine axB ?_) | refine axB ?_ | (apply axK; (focus ((with_reducible constructor) <;> rfl))) | ((first | apply axR hΓ | apply axG | apply ovX rfl | apply ovE rfl); (simp (disch := omega) only [go_sem, ↓reduceIte, dk] <;> with_reducible rfl); exact trivial) | rfl))
      refine axp_mid (Y := List (List UInt8)) (fun _ => (frame 118 [(0, .data (.list (ds.map eDd))), (3, .row 4 l.length), (4, .row 5 ids.length), (5, .data (i64 i)), (6, .ptr 18 0), (7, .ptr 29 0)])) (fun ns => [(4, .row 113 18 (l.map eE)), (5, .row 9 1 (ids.map .str)), (18, ddB d), (29, evB (d.k.tmod 5 + 1) au n ns)]) (fun _ => 33) (fun ns => ns.length ≤ 64 ∧ ∀ s ∈ ns, s.length ≤ 64) ?_ ?_
      · by_cases hr : 0 ≤ r
        · obtain ⟨m, rfl⟩ := Int.eq_ofNat_of_zero_le hr
          have hm : m < ids.length := by omega
          have hsl := h6 _ (List.getElem_mem hm)
          generalize hid : ids[m] = s at hsl
          obtain ⟨ns', e66, l66, m66⟩ := g66_eq (l := ns) (s := s) (by omega)
          (repeat (first | (refine axA ?_; first | (apply axR hΓ; (simp (disch := omega) only [go_sem, ↓reduceIte, dk] <;> with_reducible rfl); exact trivial) | refine axA ?_ | refine axB ?_) | refine axB ?_ | (apply axK; (focus ((with_reducible constructor) <;> rfl))) | ((first | apply axR hΓ | apply axG | apply ovX rfl | apply ovE rfl); (simp (disch := omega) only [go_sem, ↓reduceIte, dk] <;> with_reducible rfl); exact trivial) | rfl))
          (apply axp_regd (nst := false) 7 mixedOK hΓ; (focus kernel_rfl); (simp (disch := omega) only [go_sem, ↓reduceIte, dk, hid, Γ44, Γ44p, e66] <;> with_reducible rfl); (simp only [go_sem] <;> with_reducible rfl); (simp (disch := omega) only [go_sem, ↓reduceIte, dk, hid, Γ44, Γ44p, e66] <;> with_reducible rfl))
          (repeat (first | (apply axJ; (focus ((with_reducible constructor) <;> rfl))) | ((first | apply axR hΓ | apply axG | apply ovX rfl | apply ovE rfl); (simp (disch := omega) only [go_sem, ↓reduceIte, dk] <;> with_reducible rfl); exact trivial) | rfl))
          exact ⟨ns', ⟨by omega, (fun z hz => (m66 z hz).elim (s2 z) (fun h => h ▸ hsl))⟩, Weak.w⟩
        · (repeat (first | (apply axJ; (focus ((with_reducible constructor) <;> rfl))) | ((first | apply axR hΓ | apply axG | apply ovX rfl | apply ovE rfl); (simp (disch := omega) only [go_sem, ↓reduceIte, dk] <;> with_reducible rfl); exact trivial) | rfl))
          exact ⟨ns, ⟨by omega, s2⟩, Weak.w⟩
      rintro ns ⟨s1, s2⟩
      unfold evB ddB
      (repeat (first | (refine axA ?_; first | (apply axR hΓ; (simp (disch := omega) only [go_sem, ↓reduceIte, dk] <;> with_reducible rfl); exact trivial) | refine axA ?_ | refine axB ?_) | refine axB ?_ | (apply axK; (focus ((with_reducible constructor) <;> rfl))) | ((first | apply axR hΓ | apply axG | apply ovX rfl | apply ovE rfl); (simp (disch := omega) only [go_sem, ↓reduceIte, dk] <;> with_reducible rfl); exact trivial) | rfl))
      refine axp_mid (Y := Int) (fun _ => (frame 118 [(0, .data (.list (ds.map eDd))), (3, .row 4 l.length), (4, .row 5 ids.length), (5, .data (i64 i)), (6, .ptr 18 0), (7, .ptr 29 0)])) (fun k => [(4, .row 113 18 (l.map eE)), (5, .row 9 1 (ids.map .str)), (18, ddB d), (29, evB k au n ns)]) (fun _ => 33) (fun k => 1 ≤ k ∧ k ≤ 5) ?_ ?_
      · refine axp_cond (by simp (disch := omega) only [go_sem, ↓reduceIte, dk]; rfl) (fun hc => ?_) (fun hc => ?_)
        · (repeat (first | (refine axA ?_; first | (apply axR hΓ; (simp (disch := omega) only [go_sem, ↓reduceIte, dk] <;> with_reducible rfl); exact trivial) | refine axA ?_ | refine axB ?_) | refine axB ?_ | (apply axK; (focus ((with_reducible constructor) <;> rfl))) | ((first | apply axR hΓ | apply axG | apply ovX rfl | apply ovE rfl); (simp (disch := omega) only [go_sem, ↓reduceIte, dk] <;> with_reducible rfl); exact trivial) | rfl))
          refine axp_cond (by simp (disch := omega) only [go_sem, ↓reduceIte, dk]; rfl) (fun hc => ?_) (fun hc => ?_)
          · (repeat (first | (apply axJ; (focus ((with_reducible constructor) <;> rfl))) | ((first | apply axR hΓ | apply axG | apply ovX rfl | apply ovE rfl); (simp (disch := omega) only [go_sem, ↓reduceIte, dk] <;> with_reducible rfl); exact trivial) | rfl))
            exact ⟨1, ⟨by omega, by omega⟩, Weak.w⟩
          · (repeat (first | (apply axJ; (focus ((with_reducible constructor) <;> rfl))) | ((first | apply axR hΓ | apply axG | apply ovX rfl | apply ovE rfl); (simp (disch := omega) only [go_sem, ↓reduceIte, dk] <;> with_reducible rfl); exact trivial) | rfl))
            exact ⟨3, ⟨by omega, by omega⟩, Weak.w⟩
        · (repeat (first | (apply axJ; (focus ((with_reducible constructor) <;> rfl))) | ((first | apply axR hΓ | apply axG | apply ovX rfl | apply ovE rfl); (simp (disch := omega) only [go_sem, ↓reduceIte, dk] <;> with_reducible rfl); exact trivial) | rfl))
          exact ⟨d.k.tmod 5 + 1, ⟨by omega, by omega⟩, Weak.w⟩
      rintro k ⟨k1, k5⟩
      unfold evB ddB
      obtain ⟨e, he, e67⟩ := g67_eq (x := ⟨k, au, n, ns, d, l, ids⟩) ⟨k1, k5, by dsimp only; omega, s1, s2, hd, by dsimp only; omega, by dsimp only; omega, h6⟩
      obtain ⟨s, r, e68, hs⟩ := g68_eq he
      unfold fiA fiO evA eDd at e67
      dsimp only at e67
      rw [eE_eq e] at e67 e68
      have e69 := g69_eq (l := ids) (s := s) (by omega)
      have a1 : l.map eE ++ [eE e] = (l ++ [e]).map eE := by simp
      rw [eE_eq e] at a1
      have a2 : ids.map D.str ++ [.str s] = (ids ++ [s]).map D.str := by simp
      have hcall : ∀ k' n', callLoc k' ⟨[(4, .row 113 18 (l.map eE)), (5, .row 9 1 (ids.map .str)), (18, .box [.data (u8 d.k), .data (u8 d.a), .data (u8 d.q), .data (u8 d.an), .data (u8 d.u), .data (.int .u16 d.f), .data (u8 d.t0), .data (u8 d.t1)]), (29, .box [.data (i64 k), .data (.str au), .data (i64 n), .data (.list (ns.map .str)), .data (.str []), .data (i64 0), .data (i64 0), .data (.str []), .data (.str []), .data (.str []), .data (.str []), .data (.str []), .data (i64 0), .nils, .data (i64 0), .nils, .nils, .nils])], n'⟩ g67 [.agg [.data (i64 k), .data (.str au), .data (i64 n), .data (.list (ns.map .str)), .data (.str []), .data (i64 0), .data (i64 0), .data (.str []), .data (.str []), .data (.str []), .data (.str []), .data (.str []), .data (i64 0), .nils, .data (i64 0), .nils, .nils, .nils], .data (.agg [u8 d.k, u8 d.a, u8 d.q, u8 d.an, u8 d.u, .int .u16 d.f, u8 d.t0, u8 d.t1]), .row 4 l.length, .row 5 ids.length] = some (.data (.agg [i64 e.k, .str e.au, i64 e.n, .list (e.ns.map .str), .str e.ro, i64 e.kb, i64 e.kh, .str e.pk, .str e.dg, .str e.q, .str e.sc, .str e.an, i64 e.u, .list (e.tg.map .str), i64 0, .list [], .list [], .list []]), ⟨[(4, .row 113 18 (l.map eE)), (5, .row 9 1 (ids.map .str)), (18, .box [.data (u8 d.k), .data (u8 d.a), .data (u8 d.q), .data (u8 d.an), .data (u8 d.u), .data (.int .u16 d.f), .data (u8 d.t0), .data (u8 d.t1)]), (29, .box [.data (i64 k), .data (.str au), .data (i64 n), .data (.list (ns.map .str)), .data (.str []), .data (i64 0), .data (i64 0), .data (.str []), .data (.str []), .data (.str []), .data (.str []), .data (.str []), .data (i64 0), .nils, .data (i64 0), .nils, .nils, .nils])], k'⟩) := fun k' n' => (callLoc_of (fp := [4, 5]) rfl rfl rfl e67 (Nat.le_refl _)).trans rfl
      generalize hr : (r == 0) = c1
      generalize hf : decide (fnd ids s < 0) = c2
      cases c1 with
      | true =>
        cases c2 with
        | true =>
          (repeat (first | (apply axJ; (focus ((with_reducible constructor) <;> rfl))) | ((first | apply axR hΓ | apply axG | apply ovX rfl | apply ovE rfl); (simp (disch := omega) only [go_sem, ↓reduceIte, ↓lk, dk, Γ44, hcall, Γ44p, e68, e69, hr, hf, a1, a2] <;> with_reducible rfl); exact trivial) | rfl))
          exact ⟨⟨i + 1, l ++ [e], ids ++ [s]⟩, ⟨by dsimp only; omega, by dsimp only; omega, by dsimp only; rw [List.length_append]; simp only [List.length_cons, List.length_nil]; omega, by dsimp only; rw [List.length_append, List.length_append, h4]; rfl, fun z hz => (List.mem_append.1 hz).elim (h5 z) (fun h => List.mem_singleton.1 h ▸ he), fun z hz => (List.mem_append.1 hz).elim (h6 z) (fun h => by rw [List.mem_singleton.1 h]; omega)⟩, by dsimp only; omega, Weak.v (by (simp [ConvF, lookV, Conv, ints, List.length_append, List.length_cons, List.length_nil]; done)) (by (simp (disch := omega) only [TabSub, look, if_pos, if_neg, Obj.refsOK, refsOKs, AV.refsOK, decide_eq_true_eq, Bool.and_true, Bool.and_self, List.length_append, List.length_cons, List.length_nil] ) <;> ((repeat' apply And.intro) <;> first | exact True.intro | omega | (simp; done) | rfl))⟩
        | false =>
          (repeat (first | (apply axJ; (focus ((with_reducible constructor) <;> rfl))) | ((first | apply axR hΓ | apply axG | apply ovX rfl | apply ovE rfl); (simp (disch := omega) only [go_sem, ↓reduceIte, ↓lk, dk, Γ44, hcall, Γ44p, e68, e69, hr, hf] <;> with_reducible rfl); exact trivial) | rfl))
          exact ⟨⟨i + 1, l, ids⟩, ⟨by dsimp only; omega, by dsimp only; omega, by dsimp only; omega, h4, h5, h6⟩, by dsimp only; omega, Weak.w⟩
      | false =>
        (repeat (first | (apply axJ; (focus ((with_reducible constructor) <;> rfl))) | ((first | apply axR hΓ | apply axG | apply ovX rfl | apply ovE rfl); (simp (disch := omega) only [go_sem, ↓reduceIte, ↓lk, dk, Γ44, hcall, Γ44p, e68, hr] <;> with_reducible rfl); exact trivial) | rfl))
        exact ⟨⟨i + 1, l, ids⟩, ⟨by dsimp only; omega, by dsimp only; omega, by dsimp only; omega, h4, h5, h6⟩, by dsimp only; omega, Weak.w⟩
    · (repeat (first | (apply axJ; (focus ((with_reducible constructor) <;> rfl))) | ((first | apply axR hΓ | apply axG | apply ovX rfl | apply ovE rfl); (simp (disch := omega) only [go_sem, ↓reduceIte, dk] <;> with_reducible rfl); exact trivial) | rfl))
      exact hfin
  · (repeat (first | (apply axJ; (focus ((with_reducible constructor) <;> rfl))) | ((first | apply axR hΓ | apply axG | apply ovX rfl | apply ovE rfl); (simp (disch := omega) only [go_sem, ↓reduceIte, dk] <;> with_reducible rfl); exact trivial) | rfl))
    exact hfin
noncomputable def g44 := f44_ex.choose
theorem f44_ok : PureOK Try.prog 44 false g44 := f44_ex.choose_spec.1
theorem g44_eq {ds : List Dd} (h : ds.length ≤ 4096) (h2 : ∀ d ∈ ds, DdOK d) : ∃ l : List Ev, g44 [.list (ds.map eDd)] = some (.list (l.map eE)) ∧ l.length ≤ 12 ∧ ∀ e ∈ l, EvOK e := by
  obtain ⟨d, ⟨l, rfl, h3, h4⟩, h5⟩ := f44_ex.choose_spec.2 ds ⟨h, h2⟩
  exact ⟨l, h5, h3, h4⟩
end Go.Ab
namespace Go.Ab
open Go Go.RowKit Go.Proofs
set_option maxRecDepth 4000
set_option maxHeartbeats 40000000
def StaG (d : D) : Prop := ∃ (r : Rev) (b : Bool), d = .tup [eR r, .bool b] ∧ RvOK r
noncomputable def Γ24 : FuncId → Option CSpec := fun f => if f = 44 then some (.pure false (g44)) else if f = 45 then some (.pure false (g45)) else none
theorem Γ24_ok : ∀ f s, Γ24 f = some s → SpecOK Try.prog f s := by
  intro f s h
  unfold Γ24 at h
  split at h
  · rename_i hf; cases h; subst hf; exact f44_ok
  split at h
  · rename_i hf; cases h; subst hf; exact f45_ok
  · cases h
theorem f24_ex : ∃ g, PureOK Try.prog 24 false g ∧ ∀ l : List Dd, (l.length ≤ 1099511627776 ∧ ∀ d ∈ l, DdOK d) → ∃ d, StaG d ∧ g [.list (l.map eDd)] = some d := by
  have hΓ := Γ24_ok
  refine pure_ex (enc := fun l : List Dd => [.list (l.map eDd)]) (dom := fun l => l.length ≤ 1099511627776 ∧ ∀ d ∈ l, DdOK d) (good := fun _ => StaG) (n := 33) (rs := [.cell 2 30, .tmp 3]) Try.func24 (by kernel_rfl) rfl (by kernel_rfl) (by kernel_rfl) (fun a b h => by
    simp only [List.cons.injEq, and_true, D.list.injEq] at h
    exact dmap_inj eDd_inj h) ?_
  rintro ds ⟨hn, hd⟩
  refine ⟨fun h => (by cases h), ?_⟩
  have herr : ∀ b, StaG (.tup [.agg [.list [], .list [], .list [], .list []], .bool b]) := fun b => ⟨⟨[], [], [], []⟩, b, rfl, ⟨by simp, by simp, by simp, by simp, by simp, by simp, by simp⟩⟩
  rw [start_frame (by simp)]; simp only [enumV, go_sem, emptyH]
  by_cases h12 : 12 < ds.length
  · (repeat (first | (apply axJ; (focus ((with_reducible constructor) <;> rfl))) | ((first | apply axR hΓ | apply axG | apply ovX rfl | apply ovE rfl); (simp (disch := omega) only [go_sem, ↓reduceIte, ↓lk, ↓ty_build30, dk] <;> with_reducible rfl); exact trivial) | rfl))
    exact herr false
  obtain ⟨l, e44, hl, hle⟩ := g44_eq (by omega) hd
  (repeat (first | (refine axA ?_; first | (apply axR hΓ; (simp (disch := omega) only [go_sem, ↓reduceIte, dk, Γ24, e44] <;> with_reducible rfl); exact trivial) | refine axA ?_ | refine axB ?_) | refine axB ?_ | (apply axK; (focus ((with_reducible constructor) <;> rfl))) | ((first | apply axR hΓ | apply axG | apply ovX rfl | apply ovE rfl); (simp (disch := omega) only [go_sem, ↓reduceIte, dk, Γ24, e44] <;> with_reducible rfl); exact trivial) | rfl))
  refine axp_loop_at (X := List Ev) (fun l => (frame 33 [(2, .ptr 0 0), (4, .data (.list (l.map eE)))])) (fun _ => [(0, .box [.nils, .nils, .nils, .nils])]) 1
    (fun l => l.length ≤ 12 ∧ ∀ e ∈ l, EvOK e) (fun l => l.length) l ⟨hl, hle⟩ (Weak.w) ?_
  rintro l ⟨h1, h2⟩
  by_cases hl0 : 0 < l.length
  · obtain ⟨r, i, n, e45, hi, hr⟩ := g45_eq (by omega) h2
    have hel := elemsOK_map (f := eE) (sz := 18) (fun _ => ⟨rfl, rfl⟩) l
    generalize hc : (n == 0) = c
    cases c with
    | true =>
      have hn0 : n = 0 := by simpa using hc
      (repeat (first | (apply axJ; (focus ((with_reducible constructor) <;> rfl))) | ((first | apply axR hΓ | apply axG | apply ovX rfl | apply ovE rfl); (simp (disch := omega) only [go_sem, ↓reduceIte, dk, Γ24, e45, hc] <;> with_reducible rfl); exact trivial) | rfl))
      exact ⟨r, true, rfl, hr hn0⟩
    | false =>
      by_cases hi0 : i < 0
      · (repeat (first | (apply axJ; (focus ((with_reducible constructor) <;> rfl))) | ((first | apply axR hΓ | apply axG | apply ovX rfl | apply ovE rfl); (simp (disch := omega) only [go_sem, ↓reduceIte, ↓lk, ↓ty_build30, dk, Γ24, e45, hc] <;> with_reducible rfl); exact trivial) | rfl))
        exact herr false
      · obtain ⟨i, rfl⟩ := Int.eq_ofNat_of_zero_le (show 0 ≤ i by omega)
        (repeat (first | (apply axJ; (focus ((with_reducible constructor) <;> rfl))) | ((first | apply axR hΓ | apply axG | apply ovX rfl | apply ovE rfl); (simp (disch := omega) only [go_sem, ↓reduceIte, dk, Γ24, e45, hc, hel] <;> with_reducible rfl); exact trivial) | rfl))
        exact ⟨l.take i, ⟨by rw [List.length_take]; omega, fun e he => h2 e (List.mem_of_mem_take he)⟩, by rw [List.length_take]; omega, Weak.v (by (simp [ConvF, lookV, Conv, ints, List.map_take]; done)) (by (simp (disch := omega) only [TabSub, look, if_pos, if_neg, Obj.refsOK, refsOKs, AV.refsOK, decide_eq_true_eq, Bool.and_true, Bool.and_self, List.map_take] ) <;> ((repeat' apply And.intro) <;> first | exact True.intro | omega | (simp; done) | rfl))⟩
  · (repeat (first | (apply axJ; (focus ((with_reducible constructor) <;> rfl))) | ((first | apply axR hΓ | apply axG | apply ovX rfl | apply ovE rfl); (simp (disch := omega) only [go_sem, ↓reduceIte, ↓lk, ↓ty_build30, dk] <;> with_reducible rfl); exact trivial) | rfl))
    exact herr true
noncomputable def g24 := f24_ex.choose
theorem f24_ok : PureOK Try.prog 24 false g24 := f24_ex.choose_spec.1
theorem g24_eq {l : List Dd} (h : l.length ≤ 1099511627776) (h2 : ∀ d ∈ l, DdOK d) : ∃ (r : Rev) (b : Bool), g24 [.list (l.map eDd)] = some (.tup [eR r, .bool b]) ∧ RvOK r := by
  obtain ⟨d, ⟨r, b, rfl, h3⟩, h4⟩ := f24_ex.choose_spec.2 l ⟨h, h2⟩
  exact ⟨r, b, h4, h3⟩
end Go.Ab
