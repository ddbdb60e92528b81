/-
  One text of the proof (own work): contracts of functions of the program, by the abstract machine.
-/
import Derived.Test.YtpecnbkfahekdaaA27
import Derived.Test.YtpecnbkfahekdaaA18
import Derived.Test.YtpecnbkfahekdaaI1
set_option linter.unusedVariables false
set_option linter.unusedSimpArgs false
namespace Go.Ab
open Go Go.RowKit Go.Proofs
set_option maxRecDepth 4000
set_option maxHeartbeats 4000000

/-! ### The closure of ends -/
noncomputable def g50 (t : List (List Int)) (a : Int) : List D → Option D := encSpec (fun n : Int => [i64 n, .ref [.list (t.map ints)], .ref [i64 a]]) (fun n => 0 ≤ n ∧ n.toNat < t.length) (fun n => .bool ((t.getD n.toNat []).contains a))
theorem g50_eq {t : List (List Int)} {a : Int} (n : Int) (h : 0 ≤ n ∧ n.toNat < t.length) : g50 t a (i64 n :: [.ref [.list (t.map ints)], .ref [.int .i64 a]]) = some (.bool ((t.getD n.toNat []).contains a)) := encSpec_eq (x := n) h fun y hy => by
  simp only [List.cons.injEq, and_true] at hy
  rw [i64_inj _ _ hy]
noncomputable def Γ50 : FuncId → Option CSpec := fun f => if f = 21 then some (.pure true g21) else none
theorem Γ50_ok : ∀ f s, Γ50 f = some s → SpecOK Try.prog f s := by
  intro f s h
  unfold Γ50 at h
  split at h
  · rename_i hf; cases h; subst hf; exact f21_ok
  · cases h
theorem f50_ok {t : List (List Int)} {a : Int} (hr : ∀ r ∈ t, r.length ≤ 1099511627776) : PureOK Try.prog 50 true (g50 t a) := by
  have hΓ := Γ50_ok
  refine pure_enc (n := 11) (rs := [.tmp 4]) Try.func50 (by kernel_rfl) rfl (by kernel_rfl) (by kernel_rfl) ?_
  rintro n ⟨h2, h3⟩
  refine ⟨fun _ => .bool _, fun c hz0 => ?_⟩
  have hrow : (t.map ints)[n.toNat]? = some (ints (t.getD n.toNat [])) := by
    rw [List.getElem?_map, List.getElem?_eq_getElem (by omega), List.getD_eq_getElem?_getD, List.getElem?_eq_getElem (by omega)]
    rfl
  have hrmem : t.getD n.toNat [] ∈ t := by
    rw [List.getD_eq_getElem?_getD, List.getElem?_eq_getElem (by omega)]
    exact List.getElem_mem _
  have e21 := g21_eq (l := t.getD n.toNat []) (n := a) (hr _ hrmem)
  generalize t.getD n.toNat [] = row at hrow e21
  simp only [start, go_sem, emptyH, List.replicate_succ, List.replicate_zero]
  repeat (first
    | refine awp_seq ?_ | refine awp_block ?_ | refine awp_ret ?_ | refine awp_skip ?_ | refine awp_exit ?_ | refine awp_label ?_
    | refine then_normal ?_ | refine then_ret ?_ | refine then_exit ?_ | refine block_normal ?_ | refine block_ret ?_ | refine block_exit ?_ | refine block_out rfl ?_
    | (apply awp_reg hΓ; (focus (simp (disch := omega) only [go_sem, decide_eq_true, decide_eq_false, if_pos, if_neg, wrap_in, maxLen, hrow, ints, Γ50, e21]; with_reducible rfl)))
    | (apply awp_regf mixedOK hΓ (by kernel_rfl); (focus (simp (disch := omega) only [go_sem, decide_eq_true, decide_eq_false, if_pos, if_neg, wrap_in, maxLen, hrow, ints, Γ50, e21]; with_reducible rfl)); (focus (simp only [go_sem]; with_reducible rfl)))
    | (apply awp_regt mixedOK hΓ rfl; (focus kernel_rfl); (focus (simp (disch := omega) only [go_sem, decide_eq_true, decide_eq_false, if_pos, if_neg, wrap_in, maxLen, hrow, ints, Γ50, e21]; with_reducible rfl)); (focus (simp only [go_sem]; with_reducible rfl)); (focus (simp (disch := omega) only [go_sem, decide_eq_true, decide_eq_false, if_pos, if_neg, wrap_in, maxLen, hrow, ints, Γ50, e21]; with_reducible rfl)))
    | (apply awp_cond_t; (focus (simp (disch := omega) only [go_sem, decide_eq_true, decide_eq_false, if_pos, if_neg, wrap_in, maxLen, hrow, ints, Γ50, e21]; done))) | (apply awp_cond_f; (focus (simp (disch := omega) only [go_sem, decide_eq_true, decide_eq_false, if_pos, if_neg, wrap_in, maxLen, hrow, ints, Γ50, e21]; done)))
    | (apply ret_e; (focus (simp (disch := omega) only [go_sem, decide_eq_true, decide_eq_false, if_pos, if_neg, wrap_in, maxLen, hrow, ints, Γ50, e21]; with_reducible rfl)); (focus (simp (disch := omega) only [go_sem, decide_eq_true, decide_eq_false, if_pos, if_neg, wrap_in, maxLen, hrow, ints, Γ50, e21]; with_reducible rfl))) | (apply end_e; (focus (simp (disch := omega) only [go_sem, decide_eq_true, decide_eq_false, if_pos, if_neg, wrap_in, maxLen, hrow, ints, Γ50, e21]; with_reducible rfl)); (focus (simp (disch := omega) only [go_sem, decide_eq_true, decide_eq_false, if_pos, if_neg, wrap_in, maxLen, hrow, ints, Γ50, e21]; with_reducible rfl)))
    | rfl)
structure Dom51 (t : List (List Int)) (l : List Int) : Prop where
  rows : ∀ r ∈ t, r.length ≤ 1099511627776
  len : l.length ≤ 1099511627776
  inr : ∀ n ∈ l, 0 ≤ n ∧ n.toNat < t.length
noncomputable def g51 : List D → Option D := encSpec (fun x : List (List Int) × Int × List Int => [.list (x.2.2.map i64), .clo 50 [.ref [.list (x.1.map ints)], .ref [i64 x.2.1]]]) (fun x => Dom51 x.1 x.2.2) (fun x => .bool (x.2.2.any fun n => (x.1.getD n.toNat []).contains x.2.1))
theorem ints_map_inj {t t' : List (List Int)} (h : t'.map ints = t.map ints) : t' = t := List.map_inj_right (fun _ _ hab => ints_inj hab) |>.1 h
theorem g51_eq {t : List (List Int)} {a : Int} {l : List Int} (h : Dom51 t l) : g51 [.list (l.map i64), .clo 50 [.ref [.list (t.map ints)], .ref [.int .i64 a]]] = some (.bool (l.any fun n => (t.getD n.toNat []).contains a)) :=
  encSpec_eq (x := (t, a, l)) h fun y hy => by
    obtain ⟨y1, y2, y3⟩ := y
    simp only [List.cons.injEq, and_true, D.clo.injEq, D.ref.injEq, true_and, D.list.injEq] at hy
    have h1 : y3 = l := List.map_inj_right i64_inj |>.1 hy.1
    have h2 : y1 = t := ints_map_inj hy.2.1
    have h3 : y2 = a := i64_inj _ _ hy.2.2
    rw [h1, h2, h3]
theorem f51_all : PureOK Try.prog 51 true g51 := pure_union fun ds r hd => by
  obtain ⟨⟨t, a, l⟩, rfl, h, rfl⟩ := encSpec_some hd
  exact ⟨_, f51d_ok (f50_ok h.rows) (fun x hx => g50_eq x hx), gAnyD_eq i64_inj h.len h.inr⟩
noncomputable def g50' : List D → Option D := encSpec (fun x : List (List Int) × Int × Int => [i64 x.2.2, .ref [.list (x.1.map ints)], .ref [i64 x.2.1]]) (fun x => (∀ r ∈ x.1, r.length ≤ 1099511627776) ∧ 0 ≤ x.2.2 ∧ x.2.2.toNat < x.1.length) (fun x => .bool ((x.1.getD x.2.2.toNat []).contains x.2.1))
theorem g50'_eq {t : List (List Int)} {a n : Int} (h : ∀ r ∈ t, r.length ≤ 1099511627776) (h0 : 0 ≤ n) (h1 : n.toNat < t.length) : g50' [.int .i64 n, .ref [.list (t.map ints)], .ref [.int .i64 a]] = some (.bool ((t.getD n.toNat []).contains a)) :=
  encSpec_eq (x := (t, a, n)) ⟨h, h0, h1⟩ fun y hy => by
    obtain ⟨y1, y2, y3⟩ := y
    simp only [List.cons.injEq, and_true, D.ref.injEq, D.list.injEq] at hy
    have h1 : y3 = n := i64_inj _ _ hy.1
    have h2 : y1 = t := ints_map_inj hy.2.1
    have h3 : y2 = a := i64_inj _ _ hy.2.2
    rw [h1, h2, h3]
theorem f50_all : PureOK Try.prog 50 true g50' := pure_union fun ds r hd => by
  obtain ⟨⟨t, a, n⟩, rfl, ⟨h, h0, h1⟩, rfl⟩ := encSpec_some hd
  exact ⟨_, f50_ok h, g50_eq n ⟨h0, h1⟩⟩

/-! ### A region with one call whose run is known by an equation -/
section
variable {P : Program} {Γ : FuncId → Option CSpec} {c : Ctx} {nst : Bool} {ops : Array Oper}
def runTo (P : Program) (Γ : FuncId → Option CSpec) (nst : Bool) (ops : Array Oper) : Nat → List Oper → List AV → Heap → Option (Nat × List AV × Heap)
  | k, [], sl, H => some (k, sl, H)
  | k, o :: l, sl, H => match runOp P Γ nst k ops o sl H with
    | some (sl', H') => runTo P Γ nst ops (nextK k H') l sl' H'
    | none => none
theorem runTo_split : ∀ {a b : List Oper} {k k1 : Nat} {sl sl1 : List AV} {H H1 : Heap}, runTo P Γ nst ops k a sl H = some (k1, sl1, H1) → runOps P Γ nst ops k (a ++ b) sl H = runOps P Γ nst ops k1 b sl1 H1
  | [], b, k, k1, sl, sl1, H, H1, h => by
    simp only [runTo, Option.some.injEq, Prod.mk.injEq] at h
    obtain ⟨rfl, rfl, rfl⟩ := h
    rfl
  | o :: a, b, k, k1, sl, sl1, H, H1, h => by
    simp only [runTo] at h
    simp only [List.cons_append, runOps]
    split at h
    · rename_i h1
      rw [h1]
      exact runTo_split h
    · cases h
theorem awp_reg_call {id n k1 m1 m2 m d f : Nat} (i : Nat) {args : Array Operand} {ts : Array TypeId} {t : TypeId} {ps : String} {af : Array Go.Edge} {sl sl1 sl' : List AV} {tab tab1 tab2 tab' : List (Nat × Obj)} {r : AV} {s : CSpec} {Q : Exit → List AV → Heap → Prop}
    (hΓ : ∀ f s, Γ f = some s → SpecOK P f s) (ho : ops.toList = ops.toList.take i ++ ⟨some d, .call { callee := .value (.func f), args := args, argTypes := ts }, t, ps, af, none⟩ :: ops.toList.drop (i + 1))
    (h1 : runTo P Γ nst ops n (ops.toList.take i) sl ⟨tab, n⟩ = some (k1, sl1, ⟨tab1, m1⟩)) (hf : Γ f = some s) (h2 : acall k1 ⟨tab1, m1⟩ s (args.toList.map (aev sl1)) = some (r, ⟨tab2, m2⟩))
    (h3 : runOps P Γ nst ops (nextK k1 ⟨tab2, m2⟩) (ops.toList.drop (i + 1)) (sl1.set d r) ⟨tab2, m2⟩ = some (sl', ⟨tab', m⟩)) (hQ : Q .normal sl' ⟨tab', m⟩) : awp P c (.region id ops false) Q sl ⟨tab, n⟩ := by
  refine awp_region (nst := nst) hΓ ?_ hQ
  rw [ho, runTo_split h1]
  simp only [runOps]
  have : runOp P Γ nst k1 ops ⟨some d, .call { callee := .value (.func f), args := args, argTypes := ts }, t, ps, af, none⟩ sl1 ⟨tab1, m1⟩ = some (sl1.set d r, ⟨tab2, m2⟩) := by
    simp only [runOp, wantedA, astep, aev, callee, hf, List.map_nil, List.append_nil, h2, putA]
  rw [this]
  exact h3
end

/-! ### ends -/
def ins : CSpec := .loc g53
noncomputable def Γ43 : FuncId → Option CSpec := fun f => if f = 33 then some (.pure true g33) else if f = 29 then some (.pure false g29) else if f = 34 then some (.pure false g34) else if f = 50 then some (.pure true g50') else if f = 51 then some (.pure true g51) else if f = 52 then some (.pure true g52) else if f = 53 then some ins else none
theorem Γ43_ok : ∀ f s, Γ43 f = some s → SpecOK Try.prog f s := by
  intro f s h
  unfold Γ43 at h
  split at h
  · rename_i hf; cases h; subst hf; exact f33_ok
  split at h
  · rename_i hf; cases h; subst hf; exact f29_ok
  split at h
  · rename_i hf; cases h; subst hf; exact f34_ok
  split at h
  · rename_i hf; cases h; subst hf; exact f50_all
  split at h
  · rename_i hf; cases h; subst hf; exact f51_all
  split at h
  · rename_i hf; cases h; subst hf; exact f52_ok
  split at h
  · rename_i hf; cases h; subst hf; exact f53_ok
  · cases h
noncomputable def gEnds (g : Graph) (a : Int) (b : Bool) : List Int := if b then Ab.back g a else reach g a
noncomputable def g43 : List D → Option D := encSpec (fun x : Graph × Int × Bool => [gD x.1, i64 x.2.1, .bool x.2.2]) (fun x => Sized x.1) (fun x => ints (gEnds x.1 x.2.1 x.2.2))
theorem g43_eq {g : Graph} {a : Int} {b : Bool} (h : Sized g) : g43 [.agg [.list (g.nodes.map .str), .list (g.edges.map eD)], .int .i64 a, .bool b] = some (.list ((gEnds g a b).map i64)) :=
  encSpec_eq (x := (g, a, b)) h fun y hy => by
    obtain ⟨y1, y2, y3⟩ := y
    simp only [List.cons.injEq, and_true, D.bool.injEq] at hy
    rw [gD_inj hy.1, i64_inj _ _ hy.2.1, hy.2.2]
theorem farAll_at {g : Graph} (h : InRange g) {back : Bool} {a : Int} (h0 : 0 ≤ a) : ∃ d : List Int, farAll (nbs g back) (-1) a = d ∧ d.length = g.nodes.length ∧ ∀ (i : Nat) (hi : i < d.length), d[i] = farD g back a i := by
  cases back with
  | true =>
    refine ⟨_, farAll_back h h0, distTo_len g a (-1), fun i hi => ?_⟩
    have := distTo_get (g := g) (to := a) (without := -1) (v := (i : Int)) (by omega) (by simpa using hi)
    simpa [farD] using this
  | false =>
    refine ⟨_, farAll_fwd h h0, distFrom_len g a (-1), fun i hi => ?_⟩
    have := distFrom_get (g := g) (a := a) (w := -1) (v := (i : Int)) (by omega) (by simpa using hi)
    simpa [farD] using this
theorem g53_eq {l : List Int} {k : Nat} {x : Int} (h : k ≤ l.length) (hl : l.length ≤ 1024) :
    g53 [.row 0 l.length, .data (.int .i64 (k : Int)), .row 1 1] [.row 3 1 (l.map i64), .row 3 1 [.int .i64 x]] = some (.row 0 (l.length + 1), [.row 3 1 ((l.take k ++ x :: l.drop k).map i64), .row 3 1 [.int .i64 x]]) := by
  show (if (l.map i64).length = l.length ∧ (0 : Int) ≤ k ∧ (k : Int) ≤ l.length ∧ (l.length + 1) * 8 ≤ 140737488355328 ∧ isInts (l.map i64) = true then _ else none) = _
  rw [if_pos ⟨by simp, by omega, by omega, by omega, isInts_map l⟩]
  simp [List.map_take, List.map_drop]
theorem ins_call {l : List Int} {k : Nat} {x : Int} (h : k ≤ l.length) (hl : l.length ≤ 1024) {A B : Obj} {K K' nm : Nat} (hnm : 18 < nm) :
    acall K ⟨[(1, A), (10, B), (18, .row 3 1 (l.map i64)), (nm, .row 3 1 [.int .i64 x])], K'⟩ ins [.row 18 l.length, .data (.int .i64 (k : Int)), .row nm 1] =
      some (.row 18 (l.length + 1), ⟨[(1, A), (10, B), (18, .row 3 1 ((l.take k ++ x :: l.drop k).map i64)), (nm, .row 3 1 [.int .i64 x])], K⟩) := by
  have h1 : ¬ nm = 1 := by omega
  have h2 : ¬ nm = 10 := by omega
  have h3 : ¬ nm = 18 := by omega
  have h4 : ¬ 18 = nm := by omega
  have h5 : (nm == 18) = false := by simpa using h3
  have h6 : (18 == nm) = false := by simpa using h4
  have hf : [AV.row 18 l.length, .data (.int .i64 (k : Int)), .row nm 1].foldl (foot ⟨[(1, A), (10, B), (18, .row 3 1 (l.map i64)), (nm, .row 3 1 [.int .i64 x])], K'⟩ 6) [] = [18, nm] := by
    simp [foot, Heap.get, look, h1, h2, h3]
  unfold ins acall callLoc
  rw [hf]
  simp [getAll, Heap.get, look, h1, h2, h3, h4, nodupB, idxOf, rens, ren, renO, g53_eq h hl, putAll, upd, backTo]
end Go.Ab
