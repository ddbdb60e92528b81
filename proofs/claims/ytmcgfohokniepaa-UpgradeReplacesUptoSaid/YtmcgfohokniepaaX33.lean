/-
  One text of the proof (own work): contracts of functions of the program, by the abstract machine.
-/
import Derived.Test.YtmcgfohokniepaaX25
import Derived.Test.YtmcgfohokniepaaX32
import Derived.Test.YtmcgfohokniepaaX29
import Derived.Test.YtmcgfohokniepaaX24
set_option linter.unusedVariables false
set_option linter.unusedSimpArgs false
namespace Go.Ab
open Go Go.RowKit Go.Proofs
set_option maxRecDepth 4000
set_option maxHeartbeats 4000000
def idx {α : Type} (p : α → Bool) (l : List α) : Int := match l.findIdx? p with
  | some i => i
  | none => -1
theorem idx_at {α : Type} {p : α → Bool} {l : List α} {i : Nat} (hi : i < l.length) (hp : p l[i] = true) (hb : (l.take i).any p = false) : idx p l = i := by
  have h : l.findIdx? p = some i := by
    rw [List.findIdx?_eq_some_iff_getElem]
    refine ⟨hi, hp, fun j hj => ?_⟩
    have h1 := List.any_eq_false.1 hb (l[j]) (by
      rw [List.mem_take_iff_getElem]
      exact ⟨j, by omega, rfl⟩)
    exact h1
  simp [idx, h]
theorem idx_none {α : Type} {p : α → Bool} {l : List α} (h : l.any p = false) : idx p l = -1 := by
  have : l.findIdx? p = none := by
    rw [List.findIdx?_eq_none_iff]
    intro x hx
    have := List.any_eq_false.1 h x hx
    simpa using this
  simp [idx, this]
theorem idx_nonneg {α : Type} {p : α → Bool} {l : List α} : decide (0 ≤ idx p l) = l.any p := by
  unfold idx
  cases h : l.findIdx? p with
  | none =>
    rw [List.findIdx?_eq_none_iff] at h
    have h2 : l.any p = false := List.any_eq_false.2 fun x hx => by simp [h x hx]
    rw [h2]; rfl
  | some i =>
    obtain ⟨h1, h2, _⟩ := List.findIdx?_eq_some_iff_getElem.1 h
    have h3 : l.any p = true := List.any_eq_true.2 ⟨_, List.getElem_mem h1, h2⟩
    rw [h3]
    simp
theorem any_next {α : Type} {p : α → Bool} {l : List α} {i : Nat} (hi : i < l.length) (hb : (l.take i).any p = false) (hp : p l[i] = false) : (l.take (i + 1)).any p = false := by
  rw [List.take_add_one, List.any_append, hb, List.getElem?_eq_getElem hi]
  simp [hp]
noncomputable def Γc (f : FuncId) (g : List D → Option D) : FuncId → Option CSpec := fun x => if x = f then some (.pure true g) else none
theorem Γc_ok {f : FuncId} {g : List D → Option D} (h : PureOK Try.prog f true g) : ∀ x s, Γc f g x = some s → SpecOK Try.prog x s := by
  intro x s hx
  unfold Γc at hx
  split at hx
  · rename_i hf; cases hx; subst hf; exact h
  · cases hx
structure Rw where
  name : List UInt8
  root : List UInt8
  bits : Int
  height : Int
  next : Int
structure Pk where
  name : List UInt8
  dig : List UInt8
  up : Int
structure Dc where
  id : List UInt8
  author : List UInt8
  q : List UInt8
  s : List UInt8
  ans : List UInt8
  dig : List UInt8
  til : Int
  w : Bool
  o : Bool
  rp : Bool
structure Dp where
  l : List UInt8
  r : List UInt8
structure Rev where
  rvs : List Rw
  pks : List Pk
  dcs : List Dc
  dps : List Dp
@[go_sem] def eRw (x : Rw) : D := .agg [.str x.name, .str x.root, i64 x.bits, i64 x.height, i64 x.next]
@[go_sem] def ePk (x : Pk) : D := .agg [.str x.name, .str x.dig, i64 x.up]
@[go_sem] def eDc (x : Dc) : D := .agg [.str x.id, .str x.author, .str x.q, .str x.s, .str x.ans, .str x.dig, i64 x.til, .bool x.w, .bool x.o, .bool x.rp]
@[go_sem] def eDp (x : Dp) : D := .agg [.str x.l, .str x.r]
@[go_sem] def eR (x : Rev) : D := .agg [.list (x.rvs.map eRw), .list (x.pks.map ePk), .list (x.dcs.map eDc), .list (x.dps.map eDp)]
@[go_sem] def eV (x : Rev) (l : List Now) : D := .agg [.list (x.rvs.map eRw), .list (x.pks.map ePk), .list (x.dcs.map eDc), .list (x.dps.map eDp), .list (l.map eN)]
structure SzR (r : Rev) : Prop where
  rvs : r.rvs.length ≤ 1099511627776
  pks : r.pks.length ≤ 1099511627776
  dcs : r.dcs.length ≤ 1099511627776
  dps : r.dps.length ≤ 1099511627776
theorem eq39 (a b : Now) : eqAgg Try.prog 39 [.str a.q, .str a.s, .str a.d] [.str b.q, .str b.s, .str b.d] = some (decide (a = b)) := by
  have hu : Program.underlying Try.prog 39 = some (.struct #[⟨"Question", 9, 0, false, "", "", 0⟩, ⟨"Scope", 9, 1, false, "", "", 16⟩, ⟨"Digest", 9, 2, false, "", "", 32⟩]) := by kernel_rfl
  have hg : (Try.prog.stoodInHeld 39 || Try.prog.eqGuardType Try.prog.depth 39) = false := by kernel_rfl
  have e : decide (a = b) = ((a.q == b.q) && ((a.s == b.s) && ((a.d == b.d) && true))) := by
    rw [Bool.eq_iff_iff]
    cases a; cases b
    simp
  unfold eqAgg
  rw [hu]
  simp only [hg, Bool.false_eq_true, if_false, e]
  simp [eqFlds, keyKind, keyEq, ty_und9, ty_agg9]
def has (l : List Now) (x : Now) : Bool := l.any fun y => decide (y = x)
end Go.Ab
namespace Go.Ab
open Go Go.RowKit Go.Proofs
set_option maxRecDepth 4000
set_option maxHeartbeats 40000000
theorem elemsOK_sub' {sz : Nat} {l m : List D} (h : elemsOK sz l = true) (hs : ∀ x ∈ m, x ∈ l) : elemsOK sz m = true := by
  unfold elemsOK at *
  rw [List.all_eq_true] at *
  exact fun x hx => h x (hs x hx)
end Go.Ab
namespace Go.Ab
open Go Go.RowKit Go.Proofs
set_option maxRecDepth 4000
set_option maxHeartbeats 40000000
def InG (x : List Now × Now) (d : List D) : Prop := ∃ l' : List Now, d = l'.map eN ∧ l'.length ≤ x.1.length + 1 ∧ ∀ y ∈ l', y ∈ x.1 ∨ y = x.2
theorem in_good (l : List Now) (x : Now) (i : Nat) : InG (l, x) ((l.map eN).take i ++ [.agg [.str x.q, .str x.s, .str x.d]] ++ (l.map eN).drop i) := by
  refine ⟨l.take i ++ [x] ++ l.drop i, by simp [eN], ?_, fun y hy => ?_⟩
  · simp only [List.length_append, List.length_take, List.length_drop, List.length_cons, List.length_nil]
    omega
  · simp only [List.mem_append, List.mem_singleton] at hy
    rcases hy with (h | h) | h
    · exact .inl (List.mem_of_mem_take h)
    · exact .inr h
    · exact .inl (List.mem_of_mem_drop h)
theorem in_set (l : List Now) (x : Now) (i : Nat) : InG (l, x) ((l.map eN).set i (.agg [.str x.q, .str x.s, .str x.d])) := by
  refine ⟨l.set i x, by rw [List.map_set]; rfl, by simp, fun y hy => (List.mem_or_eq_of_mem_set hy)⟩
theorem f47_r {l : List Now} {x : Now} (hn : l.length ≤ 64) {i : Nat} (hi : i ≤ l.length) (hΓ : ∀ f s, Γ23 f = some s → SpecOK Try.prog f s) : axp Try.prog 0 (navF Try.f47 [1, 1, 1, 1]) (RetOX Try.prog [.tmp 4] 39 3 (InG (l, x))) ((frame 54 [(0, .data (.list (l.map eN))), (3, .ptr 0 0), (5, .data (i64 i))])) ⟨[(0, .box [.data (.str x.q), .data (.str x.s), .data (.str x.d)])], 2⟩ := by
  conv => arg 3; whnf
  have hg := in_good l x i
  have hel := elemsOK_map (f := eN) (sz := 3) (fun _ => ⟨rfl, rfl⟩) l
  have hml : (l.map eN).length = l.length := by simp
  generalize l.map eN = m at *
  have e2 : List.take (m.length - i) (List.drop i m) = List.drop i m := List.take_of_length_le (by simp)
  have h1 : elemsOK 3 (List.take i m) = true := elemsOK_sub' hel fun x hx => List.mem_of_mem_take hx
  have h2 : elemsOK 3 (List.drop i m) = true := elemsOK_sub' hel fun x hx => List.mem_of_mem_drop hx
  have l1 : (List.take i m).length = i := by rw [List.length_take]; omega
  have l2 : (List.drop i m).length = m.length - i := List.length_drop
  refine axA ?_
  (apply axp_lane3 (nst := false) (nst' := false) [true, false, false, false, true, false, false, true, false, false, false, true] mixedOK hΓ (n1 := 12) (by kernel_rfl) (by kernel_rfl); (focus (dsimp only [List.take_succ_cons, List.take_zero, Array.toList]; (repeat (first | (apply lane3_loud; (focus rfl); (focus rfl); (simp (disch := omega) only [go_sem, ↓reduceIte, ↓lk, dk, Nat.sub_zero, Nat.zero_add, e2, h1, h2, l1, l2, look_upd] <;> with_reducible rfl); (focus (first | (simp (disch := omega) only [go_sem, ↓reduceIte, ↓lk, dk, Nat.sub_zero, Nat.zero_add, e2, h1, h2, l1, l2, look_upd]; done) | (simp (disch := omega) only [go_sem, ↓reduceIte, ↓lk, dk, Nat.sub_zero, Nat.zero_add, e2, h1, h2, l1, l2, look_upd]; omega)))) | (apply lane3_quiet; (simp (disch := omega) only [go_sem, ↓reduceIte, ↓lk, dk, Nat.sub_zero, Nat.zero_add, e2, h1, h2, l1, l2, look_upd] <;> with_reducible rfl)))); exact lane3_nil)); (focus ((repeat' (first | exact True.intro | refine And.intro ?_ ?_)); all_goals (first | (left; decide) | (left; rfl) | (right; simp (disch := omega) only [go_sem, ↓reduceIte, ↓lk, dk, Nat.sub_zero, Nat.zero_add, e2, h1, h2, l1, l2, look_upd]; try with_reducible rfl)))); (simp (disch := omega) only [go_sem, ↓reduceIte, ↓lk, dk, Nat.sub_zero, Nat.zero_add, e2, h1, h2, l1, l2, look_upd] <;> with_reducible rfl))
  have hlen : (List.take i m ++ [D.agg [.str x.q, .str x.s, .str x.d]] ++ List.drop i m).length = i + 1 + (m.length - i) := by simp only [List.length_append, List.length_cons, List.length_nil, l1, l2]
  generalize (List.take i m ++ [D.agg [.str x.q, .str x.s, .str x.d]] ++ List.drop i m) = r at *
  (repeat (first | refine axB ?_ | (apply axK; (focus ((with_reducible constructor) <;> rfl))) | ((first | apply axR hΓ | apply axG | apply ovX rfl | apply ovE rfl); (simp (disch := omega) only [go_sem, ↓reduceIte, dk, hlen] <;> with_reducible rfl); exact trivial) | rfl))
  rw [← hlen]
  exact reto_x (o := 2) (l := r) rfl rfl rfl hg
theorem f47_ex : ∃ g, OwnOK Try.prog 47 g ∧ ∀ x : List Now × Now, x.1.length ≤ 64 → ∃ l, InG x l ∧ g [.list (x.1.map eN), eN x.2] = some (39, 3, l) := by
  have hΓ := Γ23_ok
  refine own_ex (enc := fun x : List Now × Now => [.list (x.1.map eN), eN x.2]) (dom := fun x => x.1.length ≤ 64) (good := InG) (t := 39) (sz := 3) (n := 54) (rs := [.tmp 4]) (by omega) Try.func47 (by kernel_rfl) rfl (by kernel_rfl) (by kernel_rfl) (fun a b h => by
    simp only [List.cons.injEq, and_true, D.list.injEq] at h
    exact Prod.ext (map_inj eN_inj h.1) (eN_inj _ _ h.2)) ?_
  rintro ⟨l, x⟩ hn
  dsimp only at hn ⊢
  refine ⟨fun l' ⟨m, hm, _⟩ => hm ▸ elemsOK_map (f := eN) (sz := 3) (fun _ => ⟨rfl, rfl⟩) m, ?_⟩
  rw [show eN x = .agg [.str x.q, .str x.s, .str x.d] from rfl]
  rw [start_frame (by simp)]; simp only [enumV, go_sem, emptyH]
  (repeat (first | (apply axJ; (focus ((with_reducible constructor) <;> rfl))) | ((first | apply axR hΓ | apply axG | apply ovX rfl | apply ovE rfl); (simp (disch := omega) only [go_sem, ↓reduceIte, dk] <;> with_reducible rfl); exact trivial) | rfl))
  refine axp_loop_at (X := Nat) (fun i => (frame 54 [(0, .data (.list (l.map eN))), (3, .ptr 0 0), (5, .data (i64 i))])) (fun _ => [(0, .box [.data (.str x.q), .data (.str x.s), .data (.str x.d)])]) 2
    (fun i => i ≤ l.length) (fun i => l.length - i) 0 (Nat.zero_le _) (Weak.w) ?_
  intro i hi
  have hpost : ∀ (k : Nat), k ≤ l.length → axp Try.prog 0 (navF Try.f47 [1, 1, 1]) (RetOX Try.prog [.tmp 4] 39 3 (InG (l, x))) ((frame 54 [(0, .data (.list (l.map eN))), (3, .ptr 0 0), (5, .data (i64 k))])) ⟨[(0, .box [.data (.str x.q), .data (.str x.s), .data (.str x.d)])], 2⟩ := fun i hi => by
    conv => arg 3; whnf
    by_cases hi2 : i < l.length
    · generalize hy : l[i] = y
      have e43 := g43_eq x y
      generalize hc : nLt x y = c at e43
      cases c with
      | true =>
        (repeat (first | (refine axA ?_; first | (apply axR hΓ; (simp (disch := omega) only [go_sem, ↓reduceIte, dk] <;> with_reducible rfl); exact trivial) | refine axA ?_ | refine axB ?_) | refine axB ?_ | (apply axK; (focus ((with_reducible constructor) <;> rfl))) | ((first | apply axR hΓ | apply axG | apply ovX rfl | apply ovE rfl); (simp (disch := omega) only [go_sem, ↓reduceIte, dk] <;> with_reducible rfl); exact trivial) | rfl))
        (apply axp_regf mixedOK hΓ (by kernel_rfl); (simp (disch := omega) only [go_sem, ↓reduceIte, dk, eN, hy, Γ23, e43] <;> with_reducible rfl); (simp only [go_sem] <;> with_reducible rfl))
        (repeat (first | refine axB ?_ | (apply axK; (focus ((with_reducible constructor) <;> rfl))) | ((first | apply axR hΓ | apply axG | apply ovX rfl | apply ovE rfl); (simp (disch := omega) only [go_sem, ↓reduceIte, dk] <;> with_reducible rfl); exact trivial) | rfl))
        exact axp_weak (Weak.w) (f47_r hn hi hΓ)
      | false =>
        (repeat (first | (refine axA ?_; first | (apply axR hΓ; (simp (disch := omega) only [go_sem, ↓reduceIte, dk] <;> with_reducible rfl); exact trivial) | refine axA ?_ | refine axB ?_) | refine axB ?_ | (apply axK; (focus ((with_reducible constructor) <;> rfl))) | ((first | apply axR hΓ | apply axG | apply ovX rfl | apply ovE rfl); (simp (disch := omega) only [go_sem, ↓reduceIte, dk] <;> with_reducible rfl); exact trivial) | rfl))
        (apply axp_regf mixedOK hΓ (by kernel_rfl); (simp (disch := omega) only [go_sem, ↓reduceIte, dk, eN, hy, Γ23, e43] <;> with_reducible rfl); (simp only [go_sem] <;> with_reducible rfl))
        have hel := elemsOK_map (f := eN) (sz := 3) (fun _ => ⟨rfl, rfl⟩) l
        have hs := in_set l x i
        have hml : (l.map eN).length = l.length := by simp
        have hmi : ∀ h, (l.map eN)[i]'h = .agg [.str y.q, .str y.s, .str y.d] := fun h => by rw [List.getElem_map, hy]; rfl
        generalize l.map eN = m at *
        (repeat (first | (apply axJ; (focus ((with_reducible constructor) <;> rfl))) | ((first | apply axR hΓ | apply axG | apply ovX rfl | apply ovE rfl); (simp (disch := omega) only [go_sem, ↓reduceIte, ↓lk, dk, hel, hml, Nat.zero_add, hmi] <;> with_reducible rfl); exact trivial) | rfl))
        have hml2 : (m.set i (.agg [.str x.q, .str x.s, .str x.d])).length = l.length := by simp [hml]
        exact reto_x (o := 15) rfl (by rw [hml2]; rfl) rfl hs
    · (repeat (first | (refine axA ?_; first | (apply axR hΓ; (simp (disch := omega) only [go_sem, ↓reduceIte, dk] <;> with_reducible rfl); exact trivial) | refine axA ?_ | refine axB ?_) | refine axB ?_ | (apply axK; (focus ((with_reducible constructor) <;> rfl))) | ((first | apply axR hΓ | apply axG | apply ovX rfl | apply ovE rfl); (simp (disch := omega) only [go_sem, ↓reduceIte, dk] <;> with_reducible rfl); exact trivial) | rfl))
      (apply axp_regf mixedOK hΓ (by kernel_rfl); (simp (disch := omega) only [go_sem, ↓reduceIte, dk] <;> with_reducible rfl); (simp only [go_sem] <;> with_reducible rfl))
      (repeat (first | refine axB ?_ | (apply axK; (focus ((with_reducible constructor) <;> rfl))) | ((first | apply axR hΓ | apply axG | apply ovX rfl | apply ovE rfl); (simp (disch := omega) only [go_sem, ↓reduceIte, dk] <;> with_reducible rfl); exact trivial) | rfl))
      exact axp_weak (Weak.w) (f47_r hn hi hΓ)
  by_cases hi2 : i < l.length
  · generalize hy : l[i] = y
    have e43 := g43_eq y x
    generalize hc : nLt y x = c at e43
    refine axA ?_
    refine axA ?_
    cases c with
    | true =>
      (apply axp_regf mixedOK hΓ (by kernel_rfl); (simp (disch := omega) only [go_sem, ↓reduceIte, dk, eN, hy, Γ23, e43] <;> with_reducible rfl); (simp only [go_sem] <;> with_reducible rfl))
      (repeat (first | (apply axJ; (focus ((with_reducible constructor) <;> rfl))) | ((first | apply axR hΓ | apply axG | apply ovX rfl | apply ovE rfl); (simp (disch := omega) only [go_sem, ↓reduceIte, dk] <;> with_reducible rfl); exact trivial) | rfl))
      exact ⟨i + 1, by omega, by omega, Weak.w⟩
    | false =>
      (apply axp_regf mixedOK hΓ (by kernel_rfl); (simp (disch := omega) only [go_sem, ↓reduceIte, dk, eN, hy, Γ23, e43] <;> with_reducible rfl); (simp only [go_sem] <;> with_reducible rfl))
      (repeat (first | refine axB ?_ | (apply axK; (focus ((with_reducible constructor) <;> rfl))) | ((first | apply axR hΓ | apply axG | apply ovX rfl | apply ovE rfl); (simp (disch := omega) only [go_sem, ↓reduceIte, dk] <;> with_reducible rfl); exact trivial) | rfl))
      exact axp_weak (Weak.w) (hpost i hi)
  · refine axA ?_
    refine axA ?_
    (apply axp_regf mixedOK hΓ (by kernel_rfl); (simp (disch := omega) only [go_sem, ↓reduceIte, dk] <;> with_reducible rfl); (simp only [go_sem] <;> with_reducible rfl))
    (repeat (first | refine axB ?_ | (apply axK; (focus ((with_reducible constructor) <;> rfl))) | ((first | apply axR hΓ | apply axG | apply ovX rfl | apply ovE rfl); (simp (disch := omega) only [go_sem, ↓reduceIte, dk] <;> with_reducible rfl); exact trivial) | rfl))
    exact axp_weak (Weak.w) (hpost i hi)
noncomputable def g47 := f47_ex.choose
theorem f47_ok : OwnOK Try.prog 47 g47 := f47_ex.choose_spec.1
theorem g47_eq {l : List Now} {x : Now} (h : l.length ≤ 64) : ∃ l' : List Now, g47 [.list (l.map eN), .agg [.str x.q, .str x.s, .str x.d]] = some (39, 3, l'.map eN) ∧ l'.length ≤ l.length + 1 ∧ ∀ y ∈ l', y ∈ l ∨ y = x := by
  obtain ⟨d, ⟨l', rfl, h1, h2⟩, h3⟩ := f47_ex.choose_spec.2 (l, x) h
  exact ⟨l', h3, h1, h2⟩
end Go.Ab
namespace Go.Ab
open Go Go.RowKit Go.Proofs
set_option maxRecDepth 4000
set_option maxHeartbeats 40000000
structure Dd where
  k : Int
  a : Int
  q : Int
  an : Int
  u : Int
  f : Int
  t0 : Int
  t1 : Int
structure DdOK (d : Dd) : Prop where
  k : 0 ≤ d.k
  a : 0 ≤ d.a
  q : 0 ≤ d.q
  an : 0 ≤ d.an
  u : 0 ≤ d.u
  t0 : 0 ≤ d.t0
  t1 : 0 ≤ d.t1
  f : 0 ≤ d.f
  kl : d.k ≤ 255
  t0l : d.t0 ≤ 255
  t1l : d.t1 ≤ 255
structure FillX where
  k : Int
  au : List UInt8
  n : Int
  ns : List (List UInt8)
  d : Dd
  bs : List Ev
  ids : List (List UInt8)
structure FillOK (x : FillX) : Prop where
  k1 : 1 ≤ x.k
  k5 : x.k ≤ 5
  au : x.au.length ≤ 64
  ns : x.ns.length ≤ 64
  nss : ∀ s ∈ x.ns, s.length ≤ 64
  d : DdOK x.d
  bs : x.bs.length ≤ 64
  ids : x.ids.length ≤ 64
  idss : ∀ s ∈ x.ids, s.length ≤ 64
theorem tm2 {a : Int} (h : 0 ≤ a) : 0 ≤ a.tmod 2 ∧ a.tmod 2 < 2 ∧ a.tmod 2 ≤ a := by rw [Int.tmod_eq_emod_of_nonneg h]; omega
theorem tm3 {a : Int} (h : 0 ≤ a) : 0 ≤ a.tmod 3 ∧ a.tmod 3 < 3 ∧ a.tmod 3 ≤ a := by rw [Int.tmod_eq_emod_of_nonneg h]; omega
end Go.Ab
namespace Go.Ab
open Go Go.RowKit Go.Proofs
set_option maxRecDepth 4000
set_option maxHeartbeats 4000000
theorem dmap_inj {α : Type} {e : α → D} (he : ∀ a b, e a = e b → a = b) {l m : List α} (h : l.map e = m.map e) : l = m := List.map_inj_right he |>.1 h
structure SetR where
  l : List Ev
  ids : List (List UInt8)
  rk : List Int
  ps : List (List Bool)
  od : List Int
structure SetOK (s : SetR) : Prop where
  n : s.l.length ≤ 64
  ids : s.ids.length = s.l.length
  rk : s.rk.length = s.l.length
  ps : s.ps.length = s.l.length
  pss : ∀ p ∈ s.ps, p.length = s.l.length
  ev : ∀ e ∈ s.l, EvOK e
  od : s.od.length ≤ 64
  ods : ∀ o ∈ s.od, 0 ≤ o ∧ o < s.l.length
structure BefOK (s : SetR) (i k : Int) : Prop where
  i0 : 0 ≤ i
  k0 : 0 ≤ k
  ir : i < s.rk.length
  kr : k < s.rk.length
  ii : i < s.ids.length
  ki : k < s.ids.length
  n : s.ids.length ≤ 64
  n2 : s.rk.length ≤ 64
end Go.Ab
namespace Go.Ab
open Go Go.RowKit Go.Proofs
set_option maxRecDepth 4000
set_option maxHeartbeats 40000000
structure ApX where
  s : SetR
  o : Nat
  rvs : List Rw
  pks : List Pk
  dcs : List Dc
structure ApOK (x : ApX) : Prop where
  s : SetOK x.s
  o : x.o < x.s.l.length
  rvs : x.rvs.length ≤ 4096
  pks : x.pks.length ≤ 4096
  dcs : x.dcs.length ≤ 4096
theorem Weak.packed {b : Nat} {sl sl' : List AV} {H : Heap} {fp : List Nat} {objs os : List Obj} (hobj : getAll H fp = some objs) (hnd : nodupB fp = true) (hfst : ∀ i, i < b → fp[i]? = some i) (h1 : rens H (idxOf fp) sl = sl') (h2 : objs.map (renO H (idxOf fp)) = os) : Weak b sl H sl' ⟨enumO 0 os, os.length⟩ := by
  subst h1 h2
  rw [List.length_map]
  exact Weak.pack hobj hnd hfst
end Go.Ab
