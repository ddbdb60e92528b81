/-
  One text of the proof (own work): contracts of functions of the program, by the abstract machine.
-/
import Derived.RangeFuncNested
import Derived.RangeFuncBound
import Derived.RangeFuncCalls
import Derived.RangeFuncLeaves
import Derived.Shelf.Abstract
import Derived.OwnWalkIn
import Derived.TacticsInMore
import Derived.LoopNIn
import Derived.LoopIn
import Derived.Test.YtlfmbcjjojedgaaGreatDoorX26
set_option linter.unusedVariables false
set_option linter.unusedSimpArgs false
namespace Go.Ab
open Go Go.RowKit Go.Proofs Go.Shelf
set_option maxRecDepth 100000
set_option maxHeartbeats 4000000
attribute [local go_sem] Oper.semAt_some
mutual
def preX : LX → List LX
  | .mk k n e l => .mk k n e l :: preXs l
def preXs : List LX → List LX
  | [] => []
  | x :: l => preX x ++ preXs l
end
theorem preX_eq (x : LX) : preX x = x :: preXs x.kids := by cases x; rw [preX]; rfl
theorem preXs_append : ∀ a b : List LX, preXs (a ++ b) = preXs a ++ preXs b
  | [], b => by simp [preXs]
  | x :: a, b => by simp only [List.cons_append, preXs, preXs_append a b, List.append_assoc]
theorem preX_len (x : LX) : (preX x).length = x.size := by
  refine LX.ind (p := fun x => (preX x).length = x.size) (fun k n e l ih => ?_) x
  rw [preX, LX.size, List.length_cons]
  congr 1
  induction l with
  | nil => rfl
  | cons y l il => rw [preXs, List.length_append, LX.size.sizes, ih y (by simp), il (fun z hz => ih z (by simp [hz]))]
structure Kp (cb N1 : Nat) (W W' : World) : Prop where
  b : Below N1 W W'
  c : ∀ b o, b ≠ cb → W.heap[b]? = some o → o.isCells = true → W'.heap[b]? = some o
theorem Kp.size {cb N1 : Nat} {W W' : World} (h : Kp cb N1 W W') : W.heap.size ≤ W'.heap.size := h.b.size
theorem Kp.refl (cb N1 : Nat) (W : World) : Kp cb N1 W W := ⟨.refl _ _, fun _ _ _ h _ => h⟩
theorem Kp.trans {cb N1 : Nat} {A B C : World} (h : Kp cb N1 A B) (k : Kp cb N1 B C) : Kp cb N1 A C := ⟨h.b.trans k.b, fun b o hb ho hc => k.c b o hb (h.c b o hb ho hc) hc⟩
theorem Kp.alloc {cb N1 : Nat} {A B : World} (h : Kp cb N1 A B) (hn : N1 ≤ A.heap.size) (o : Go.Obj) : Kp cb N1 A (B.alloc o) := ⟨h.b.alloc (Nat.le_trans hn h.size) o, fun b o' hb ho hc => (Below.heap_alloc B o b (heap_lt (h.c b o' hb ho hc))).trans (h.c b o' hb ho hc)⟩
theorem Kp.putObj {cb N1 : Nat} {A B : World} (h : Kp cb N1 A B) {l : Nat} (hl : N1 ≤ l) {o : Go.Obj} (ho : B.heap[l]? = some o) (hc : o.isCells = false) (o' : Go.Obj) : Kp cb N1 A (B.putObj l o') :=
  ⟨h.b.grown (grownBy_putObj' B l o') (by have := heap_lt ho; omega) (fun k e => by cases e; exact hl), fun b o2 hb ho2 hc2 => by
    have h1 := h.c b o2 hb ho2 hc2
    by_cases e : b = l
    · subst e
      rw [ho] at h1
      cases h1
      rw [hc] at hc2
      cases hc2
    · exact ((grownBy_putObj' B l o').block b (heap_lt h1) (fun e2 => e (by cases e2; rfl))).trans h1⟩
theorem Kp.setCell {cb N1 : Nat} {A B : World} (h : Kp cb N1 A B) (hn : N1 ≤ cb) (o : Nat) (u : Value) : Kp cb N1 A (B.setCell ⟨cb, o, none⟩ u) :=
  ⟨h.b.setCell hn u, fun b o2 hb ho2 hc2 => (Below.heap_setCell _ _ _ _ hb).trans (h.c b o2 hb ho2 hc2)⟩
theorem Kp.below {cb N1 n : Nat} {A B : World} (h : Below n A B) (hn : A.heap.size ≤ n) (h1 : N1 ≤ n) : Kp cb N1 A B := ⟨h.mono h1, fun b o _ ho _ => (h.block b (by have := heap_lt ho; omega)).trans ho⟩
theorem Kp.cell {cb N1 : Nat} {A B : World} (h : Kp cb N1 A B) {a : Addr} {v : Value} (hb : a.block ≠ cb) (hc : A.cell? a = some v) : B.cell? a = some v := by
  obtain ⟨o, ho, hoc⟩ := cells_of_cell hc
  rw [World.cell?_of_block (w := A) (w' := B) (a := a) (by rw [h.c a.block o hb ho hoc, ho])]
  exact hc
def intV : Value → Int
  | .int _ n => n
  | _ => 0
structure Nd (W0 : World) (B : Nat → Prop) where
  x : LX
  v : Value
  h : DR W0 B (eX x) v
  bd : x.Bd 1099511627776
theorem add_off (a : Addr) (k j : Nat) : a.add (k + (j + 1)) = ⟨(a.add k).block, (a.add k).off + (j + 1), none⟩ := by
  rw [← add_add]
  unfold Addr.add
  rw [if_neg (by omega)]
theorem eX_cells (y : LX) : (eX y).cells = [.int .i64 y.kind, .str y.name, .str y.exc, .list (y.kids.map eX)] := by rw [eX_eq]; rfl
abbrev nodeV (x : LX) (ao : Option Addr) (cap : Nat) : Value := .agg #[.int .i64 x.kind, .string ⟨x.name.toArray⟩, .string ⟨x.exc.toArray⟩, .slice ao x.kids.length cap]
theorem node_inv {W0 : World} {B : Nat → Prop} {x : LX} {v : Value} (h : DR W0 B (eX x) v) : ∃ ao cap, v = nodeV x ao cap ∧ (x.kids = [] ∨ ∃ a, ao = some a ∧ B a.block ∧ x.kids.length ≤ cap ∧ ∀ i (hi : i < x.kids.length), ∃ ao' cap',
    W0.cell? (a.add (i * 4)) = some (.int .i64 (x.kids[i]).kind) ∧ W0.cell? ⟨(a.add (i * 4)).block, (a.add (i * 4)).off + 1, none⟩ = some (.string ⟨(x.kids[i]).name.toArray⟩) ∧ W0.cell? ⟨(a.add (i * 4)).block, (a.add (i * 4)).off + 2, none⟩ = some (.string ⟨(x.kids[i]).exc.toArray⟩) ∧
    W0.cell? ⟨(a.add (i * 4)).block, (a.add (i * 4)).off + 3, none⟩ = some (.slice ao' (x.kids[i]).kids.length cap') ∧ DR W0 B (eX x.kids[i]) (nodeV x.kids[i] ao' cap')) := by
  rw [eX_eq] at h
  obtain ⟨vs, u, rfl, hz, _, hv, hh⟩ := h.agg_inv
  simp only [List.length_cons, List.length_nil] at hz
  have h0 := hh 0 (by simp)
  have h1 := hh 1 (by simp)
  have h2 := hh 2 (by simp)
  have h3 := hh 3 (by simp)
  simp only [List.getElem_cons_zero, List.getElem_cons_succ] at h0 h1 h2 h3
  have v0 := hv 0 (by simp)
  have v1 := hv 1 (by simp)
  have v2 := hv 2 (by simp)
  have v3 := hv 3 (by simp)
  rw [h0.int_eq] at v0
  rw [h1.str_eq] at v1
  rw [h2.str_eq] at v2
  obtain ⟨ao, cap, e3, hl⟩ := h3.list_inv
  rw [e3] at v3
  rw [List.length_map] at v3
  refine ⟨ao, cap, ?_, ?_⟩
  · congr 1
    apply Array.ext_getElem?
    intro i
    match i with
    | 0 => rw [v0]; rfl
    | 1 => rw [v1]; rfl
    | 2 => rw [v2]; rfl
    | 3 => rw [v3]; rfl
    | i + 4 => rw [Array.getElem?_eq_none (by omega), Array.getElem?_eq_none (by simp)]
  · rcases hl with hl | ⟨a, sz, u', rfl, hb, hc, hs, ho, hm, hd⟩
    · exact .inl (List.map_eq_nil_iff.1 hl)
    · by_cases hk : x.kids = []
      · exact .inl hk
      refine .inr ⟨a, rfl, hb, by simpa using hc, fun i hi => ?_⟩
      have hsz : sz = 4 := by
        have := hs (eX x.kids[i]) (List.mem_map.2 ⟨_, List.getElem_mem hi, rfl⟩)
        rw [eX_cells] at this
        simpa using this.symm
      subst hsz
      have hg : ∀ j (hj : j < 4), ∃ hlt : i * 4 + j < (Ab.flat (x.kids.map eX)).length, (Ab.flat (x.kids.map eX))[i * 4 + j] = ([.int .i64 (x.kids[i]).kind, .str (x.kids[i]).name, .str (x.kids[i]).exc, .list ((x.kids[i]).kids.map eX)] : List D)[j]'(by simpa using hj) := fun j hj => by
        have h1 := flat_get hs (i := i) (j := j) (d := eX x.kids[i]) (by simp [hi]) hj
        rw [eX_cells] at h1
        exact List.getElem?_eq_some_iff.1 (h1.trans (List.getElem?_eq_getElem (by simpa using hj)))
      obtain ⟨l0, g0⟩ := hg 0 (by omega)
      obtain ⟨l1, g1⟩ := hg 1 (by omega)
      obtain ⟨l2, g2⟩ := hg 2 (by omega)
      obtain ⟨l3, g3⟩ := hg 3 (by omega)
      have d0 := hd _ l0
      have d1 := hd _ l1
      have d2 := hd _ l2
      have d3 := hd _ l3
      rw [g0] at d0
      rw [g1] at d1
      rw [g2] at d2
      rw [g3] at d3
      simp only [eX_cells, List.getElem_cons_zero, List.getElem_cons_succ] at d0 d1 d2 d3
      have m0 := hm _ l0
      have m1 := hm _ l1
      have m2 := hm _ l2
      have m3 := hm _ l3
      rw [d0.int_eq] at m0
      rw [d1.str_eq, add_off] at m1
      rw [d2.str_eq, add_off] at m2
      obtain ⟨ao', cap', e3', _⟩ := d3.list_inv
      rw [e3', add_off, List.length_map] at m3
      refine ⟨ao', cap', m0, m1, m2, m3, ?_⟩
      rw [eX_eq]
      rw [e3', List.length_map] at d3
      refine .agg _ _ (fun j => (#[.int .i64 (x.kids[i]).kind, .string ⟨(x.kids[i]).name.toArray⟩, .string ⟨(x.kids[i]).exc.toArray⟩, .slice ao' (x.kids[i]).kids.length cap'] : Array Value).getD j undef) (by simp) (by simp [D.one]) (fun j hj => ?_) (fun j hj => ?_)
      · match j, hj with
        | 0, _ => rfl
        | 1, _ => rfl
        | 2, _ => rfl
        | 3, _ => rfl
      · match j, hj with
        | 0, _ => exact .int _ _
        | 1, _ => exact .str _
        | 2, _ => exact .str _
        | 3, _ => exact d3
theorem visit {W0 : World} {B : Nat → Prop} {cb N1 l sb N : Nat} (hB : ∀ b, B b → b ≠ cb) (hcb : cb < W0.heap.size) (hN1 : N1 ≤ W0.heap.size) (hsb : sb ≠ cb) (hself : W0.cell? ⟨sb, 0, none⟩ = some (.func (.func 101) #[] #[.pointer (some ⟨sb, 0, none⟩)])) (J Jx : List (Nd W0 B) → World → Prop)
    (hJa : ∀ s W o, J s W → J s (W.alloc o))
    (hY : ∀ m pre (p : Nd W0 B) W, Kp cb N1 W0 W → J pre W → pre.length < N → YieldAt Fence.wide m Tryz.prog l #[p.v] W fun e W' => (e = .returned (.bool true) ∧ J (pre ++ [p]) W' ∧ Kp cb N1 W W') ∨ (e = .returned (.bool false) ∧ Jx (pre ++ [p]) W')) (x : LX) :
    ∀ (v : Value) (_ : DR W0 B (eX x) v) (pre : List (Nd W0 B)) (W : World), x.Bd 1099511627776 → Kp cb N1 W0 W → J pre W → pre.length + x.size ≤ N →
      Calls Tryz.prog 101 #[v, .func (.yield l) #[] #[], .pointer (some ⟨sb, 0, none⟩)] W fun e W' =>
        (e = .returned (.bool true) ∧ (∃ q : List (Nd W0 B), q.map Nd.x = preX x ∧ J (pre ++ q) W') ∧ Kp cb N1 W W') ∨ (e = .returned (.bool false) ∧ ∃ q : List (Nd W0 B), q.map Nd.x <+: preX x ∧ Jx (pre ++ q) W') := by
  refine LX.ind (p := fun x => ∀ (v : Value) (_ : DR W0 B (eX x) v) (pre : List (Nd W0 B)) (W : World), x.Bd 1099511627776 → Kp cb N1 W0 W → J pre W → pre.length + x.size ≤ N →
      Calls Tryz.prog 101 #[v, .func (.yield l) #[] #[], .pointer (some ⟨sb, 0, none⟩)] W fun e W' =>
        (e = .returned (.bool true) ∧ (∃ q : List (Nd W0 B), q.map Nd.x = preX x ∧ J (pre ++ q) W') ∧ Kp cb N1 W W') ∨ (e = .returned (.bool false) ∧ ∃ q : List (Nd W0 B), q.map Nd.x <+: preX x ∧ Jx (pre ++ q) W')) (fun k0 n0 e0 l0 ih => ?_) x
  clear x
  generalize hx : LX.mk k0 n0 e0 l0 = x
  have hkids : x.kids = l0 := by rw [← hx]; rfl
  rw [← hkids] at ih
  clear hx hkids
  intro v h pre W hbig h0 hJ hN
  obtain ⟨ao, cap, rfl, hk⟩ := node_inv h
  have hbd := hbig
  replace hbig := hbd.z
  have hlen := x.len_le
  refine (callsIn_wide (n := 6)).1 ?_
  obtain ⟨fn, tmps, assign, body, hy, hR⟩ := hY 5 pre ⟨x, _, h, hbd⟩ (W.alloc (.cells #[.int .i64 x.kind, .string ⟨x.name.toArray⟩, .string ⟨x.exc.toArray⟩, .slice ao x.kids.length cap] 33)) (h0.alloc hN1 _) (hJa _ _ _ hJ) (by have := x.size_pos; omega)
  dsimp only at hy
  refine callsIn_of_wp Tryz.func101 rfl trivial ?_ rfl
  simp only [Tryz.ntmps101, List.size_toArray, List.length_cons, List.length_nil, Nat.reduceAdd, Nat.reduceSub, Array.replicate_succ, Array.replicate_zero, List.push_toArray, List.append_toArray, List.nil_append, List.cons_append]
  gi_wp2
  refine hR.mono ?_
  rintro e W1 (⟨rfl, hJ1, hk1⟩ | ⟨rfl, hx1⟩)
  · have hc3 : W1.cell? ⟨W.heap.size, 3, none⟩ = some (.slice ao x.kids.length cap) := hk1.cell (a := ⟨W.heap.size, 3, none⟩) (by have := h0.size; simp only; omega) (by rw [World.cell?]; simp only [heap_alloc_new]; rfl)
    have hk0 : Kp cb N1 W0 W1 := (h0.alloc hN1 _).trans hk1
    have hkW : Kp cb N1 W W1 := ((Kp.refl cb N1 W).alloc (Nat.le_trans hN1 h0.size) _).trans hk1
    rcases hk with hk | ⟨a, rfl, hab, hcap, hk⟩
    · rw [hk] at hc3
      simp only [List.length_nil] at hc3
      gi_wp2
      gi_loopw [15] (fun p wr => p = .int .i64 0 ∧ wr = W1) (fun p wr => 0)
      case atStart => exact ⟨rfl, rfl⟩
      case round =>
        obtain ⟨rfl, rfl⟩ := hrel
        gi_wp2
        exact bodyPost_ret (results_tmp rfl _ _ _) rfl (.inl ⟨rfl, ⟨[⟨x, _, h, hbd⟩], by rw [preX_eq, hk]; rfl, hJ1⟩, hkW⟩)
    · gi_wp2
      gi_loopw [15] (fun p wr => ∃ (i : Nat) (q : List (Nd W0 B)), p = .int .i64 i ∧ i ≤ x.kids.length ∧ q.map Nd.x = x :: preXs (x.kids.take i) ∧ J (pre ++ q) wr ∧ Kp cb N1 W wr) (fun p wr => x.kids.length - (intV p).toNat)
      case atStart => exact ⟨0, [⟨x, _, h, hbd⟩], rfl, Nat.zero_le _, rfl, hJ1, hkW⟩
      case round =>
        obtain ⟨i, q, rfl, hi, hq, hJi, hki⟩ := hrel
        have hk0i : Kp cb N1 W0 wr := h0.trans hki
        by_cases hi2 : i < x.kids.length
        · obtain ⟨ao', cap', c0, c1, c2, c3, hdr⟩ := hk i hi2
          have hne : (a.add (i * 4)).block ≠ cb := by rw [block_add]; exact hB _ hab
          have q0 := hk0i.cell hne c0
          have q1 := hk0i.cell (a := ⟨(a.add (i * 4)).block, (a.add (i * 4)).off + 1, none⟩) hne c1
          have q2 := hk0i.cell (a := ⟨(a.add (i * 4)).block, (a.add (i * 4)).off + 2, none⟩) hne c2
          have q3 := hk0i.cell (a := ⟨(a.add (i * 4)).block, (a.add (i * 4)).off + 3, none⟩) hne c3
          have hs1 := (hk0i.alloc hN1 (.cells #[.int .i64 (x.kids[i]).kind, .string ⟨(x.kids[i]).name.toArray⟩, .string ⟨(x.kids[i]).exc.toArray⟩, .slice ao' (x.kids[i]).kids.length cap'] 33)).cell (a := ⟨sb, 0, none⟩) hsb hself
          have hql : q.length = 1 + LX.size.sizes (x.kids.take i) := by
            have h1 := congrArg List.length hq
            rw [List.length_map, List.length_cons] at h1
            have h2 : ∀ l : List LX, (preXs l).length = LX.size.sizes l := fun l => by
              induction l with
              | nil => rfl
              | cons y l il => rw [preXs, List.length_append, LX.size.sizes, preX_len, il]
            rw [h2] at h1
            omega
          have ih1 := ih x.kids[i] (List.getElem_mem hi2) _ hdr (pre ++ q) (wr.alloc (.cells #[.int .i64 (x.kids[i]).kind, .string ⟨(x.kids[i]).name.toArray⟩, .string ⟨(x.kids[i]).exc.toArray⟩, .slice ao' (x.kids[i]).kids.length cap'] 33)) (hbd.k (List.getElem_mem hi2)) (hk0i.alloc hN1 _) (hJa _ _ _ hJi) (by
            have h1 := LX.sizes_take hi2
            have h2 := LX.sizes_le (l := x.kids) (i + 1)
            have h3 := x.size_eq
            simp only [List.length_append]
            omega)
          generalize hyy : x.kids[i] = y at *
          gi_wp2
          refine ⟨trivial, ?_⟩
          refine (callsIn_wide.2 ih1).mono ?_
          rintro e W2 (⟨rfl, ⟨q2', hq2, hJ2⟩, hk2⟩ | ⟨rfl, q2', hq2, hx2⟩)
          · gi_wp2
            go_roundw
            case rel => exact ⟨i + 1, q ++ q2', by rfl, hi2, by rw [List.map_append, hq, hq2, List.take_add_one, List.getElem?_eq_getElem hi2, hyy, preXs_append]; simp [preXs], by rw [← List.append_assoc]; exact hJ2, (hki.alloc (Nat.le_trans hN1 h0.size) _).trans hk2⟩
            case measure => exact Nat.sub_lt_sub_left hi2 (Nat.lt_succ_self i)
          · gi_wp2
            exact bodyPost_ret (results_tmp rfl _ _ _) rfl (.inr ⟨rfl, q ++ q2', by
              rw [List.map_append, hq, preX_eq x, ← List.take_append_drop i x.kids, preXs_append, List.take_append_drop, List.cons_append, List.cons_prefix_cons]
              refine ⟨rfl, (List.prefix_append_right_inj _).2 ?_⟩
              rw [List.drop_eq_getElem_cons hi2, hyy, preXs]
              exact hq2.trans (List.prefix_append _ _), by rw [← List.append_assoc]; exact hx2⟩)
        · gi_wp2
          exact bodyPost_ret (results_tmp rfl _ _ _) rfl (.inl ⟨rfl, ⟨q, by rw [hq, preX_eq, List.take_of_length_le (by omega)], hJi⟩, hki⟩)
  · gi_wp2
    exact bodyPost_ret (results_tmp rfl _ _ _) rfl (.inr ⟨rfl, [⟨x, _, h, hbd⟩], by rw [preX_eq]; exact ⟨preXs x.kids, rfl⟩, hx1⟩)
end Go.Ab
namespace Go.Ab
open Go Go.RowKit Go.Proofs Go.Shelf
set_option maxRecDepth 100000
set_option maxHeartbeats 4000000
attribute [local go_sem] Oper.semAt_some
theorem RoundIn.anyDepth2 {F : Fence} (hd : F.depth = none) {m m' : Nat} {P : Program} {l : Nat} {f : FuncId} {tmps : Array Value} {assign body : Code} {w : World} {R : Ending → World → Prop}
    (h : RoundIn F m P l f tmps assign body w R) : RoundIn F m' P l f tmps assign body w R := ⟨h.1, fun c cs _ => h.2 c cs (fun d h => by rw [hd] at h; cases h)⟩
theorem YieldAt.anyDepth2 {F : Fence} (hd : F.depth = none) {m : Nat} (m' : Nat) {P : Program} {l : Nat} {args : Array Value} {W : World} {R : Ending → World → Prop} (h : YieldAt F m P l args W R) : YieldAt F m' P l args W R := by
  obtain ⟨fn, tmps, assign, body, hy, hR⟩ := h
  exact ⟨fn, tmps, assign, body, hy, RoundIn.anyDepth2 hd hR⟩
structure Bx (W : World) (b : Nat) (x : LX) (ao : Option Addr) (cap : Nat) : Prop where
  c0 : W.cell? ⟨b, 0, none⟩ = some (.int .i64 x.kind)
  c1 : W.cell? ⟨b, 1, none⟩ = some (.string ⟨x.name.toArray⟩)
  c2 : W.cell? ⟨b, 2, none⟩ = some (.string ⟨x.exc.toArray⟩)
  c3 : W.cell? ⟨b, 3, none⟩ = some (.slice ao x.kids.length cap)
theorem Bx.kp {cb N1 : Nat} {A B : World} {b : Nat} {x : LX} {ao : Option Addr} {cap : Nat} (h : Bx A b x ao cap) (k : Kp cb N1 A B) (hb : b ≠ cb) : Bx B b x ao cap := ⟨k.cell hb h.c0, k.cell hb h.c1, k.cell hb h.c2, k.cell hb h.c3⟩
theorem nodes2_calls {W0 : World} {B : Nat → Prop} {cb N1 l sb eb : Nat} {x : LX} {ao : Option Addr} {cap : Nat} (hB : ∀ b, B b → b ≠ cb) (hcb : cb < W0.heap.size) (hN1 : N1 ≤ W0.heap.size) (hsb : sb ≠ cb) (heb : eb ≠ cb) (hself : W0.cell? ⟨sb, 0, none⟩ = some (.func (.func 101) #[] #[.pointer (some ⟨sb, 0, none⟩)])) (hbx : Bx W0 eb x ao cap) (hd : DR W0 B (eX x) (nodeV x ao cap)) (hbig : x.Bd 1099511627776) (J Jx : List (Nd W0 B) → World → Prop)
    (hJa : ∀ s W o, J s W → J s (W.alloc o))
    (hY : ∀ m pre (p : Nd W0 B) W, Kp cb N1 W0 W → J pre W → pre.length < x.size → YieldAt Fence.wide m Tryz.prog l #[p.v] W fun e W' => (e = .returned (.bool true) ∧ J (pre ++ [p]) W' ∧ Kp cb N1 W W') ∨ (e = .returned (.bool false) ∧ Jx (pre ++ [p]) W')) (W : World) (h0 : Kp cb N1 W0 W) (hJ : J [] W) :
    Calls Tryz.prog 102 #[.func (.yield l) #[] #[], .pointer (some ⟨sb, 0, none⟩), .pointer (some ⟨eb, 0, none⟩)] W fun e W' => (∃ v, e = .returned v) ∧
      ((∃ xs : List (Nd W0 B), xs.map Nd.x = preX x ∧ J xs W') ∨ (∃ pre : List (Nd W0 B), pre.map Nd.x <+: preX x ∧ Jx pre W')) := by
  have hv := visit (N := x.size) hB hcb hN1 hsb hself J Jx hJa hY x _ hd [] W hbig h0 hJ (by simp)
  have hs := h0.cell (a := ⟨sb, 0, none⟩) hsb hself
  obtain ⟨c0, c1, c2, c3⟩ := hbx.kp h0 heb
  refine (callsIn_wide (n := 6)).1 ?_
  refine callsIn_of_wp Tryz.func102 rfl trivial ?_ rfl
  simp only [Tryz.ntmps102, List.size_toArray, List.length_cons, List.length_nil, Nat.reduceAdd, Nat.reduceSub, Array.replicate_succ, Array.replicate_zero, List.push_toArray, List.append_toArray, List.nil_append, List.cons_append]
  gi_wp2
  refine ⟨trivial, ?_⟩
  refine (callsIn_wide.2 hv).mono ?_
  rintro e W1 (⟨rfl, ⟨q, hq, hJ1⟩, hk1⟩ | ⟨rfl, q, hq, hx1⟩)
  · gi_wp2
    go_end0
    exact ⟨⟨_, rfl⟩, .inl ⟨q, hq, hJ1⟩⟩
  · gi_wp2
    go_end0
    exact ⟨⟨_, rfl⟩, .inr ⟨q, hq, hx1⟩⟩
theorem nodes_stops {W0 : World} {B : Nat → Prop} {cb N1 sb eb : Nat} {x : LX} {ao : Option Addr} {cap n : Nat} (hB : ∀ b, B b → b ≠ cb) (hcb : cb < W0.heap.size) (hN1 : N1 ≤ W0.heap.size) (hsb : sb ≠ cb) (heb : eb ≠ cb) (hself : W0.cell? ⟨sb, 0, none⟩ = some (.func (.func 101) #[] #[.pointer (some ⟨sb, 0, none⟩)])) (hbx : Bx W0 eb x ao cap) (hd : DR W0 B (eX x) (nodeV x ao cap)) (hbig : x.Bd 1099511627776) :
    SeqStopsK Fence.wide n Tryz.prog 102 #[.pointer (some ⟨sb, 0, none⟩), .pointer (some ⟨eb, 0, none⟩)] (fun p : Nd W0 B => #[p.v]) (Kp cb N1) (fun xs => xs.map Nd.x = preX x) (fun pre => pre.map Nd.x <+: preX x) x.size W0 := by
  intro l J Jx W hW hJ hJx hY h0
  refine callsIn_wide.2 ?_
  exact nodes2_calls hB hcb hN1 hsb heb hself hbx hd hbig J Jx (fun s W' o hs => hJ s W' _ none hs (World.grownBy_alloc W' o none) (fun r e => by cases e)) (fun m pre p W1 _ hj hl => YieldAt.anyDepth2 rfl m (hY pre p W1 hj hl)) W (.below hW (Nat.le_refl _) hN1) h0
theorem cell_fresh (W : World) (v : Value) (t : TypeId) : (W.alloc (.cells #[v] t)).cell? ⟨W.heap.size, 0, none⟩ = some v ∧ (W.alloc (.cells #[v] t)).frozen? ⟨W.heap.size, 0, none⟩ = false := by
  have h := World.alloc_heap_new W (.cells #[v] t)
  exact ⟨by unfold World.cell?; rw [h]; rfl, by unfold World.frozen?; rw [h]; rfl⟩
theorem run_store_func2 {P : Program} {w : World} {a : Addr} {m : Mode} (f : Fn) (ts : Array Value) (c : Array Value) : (store a (.func f ts c) m).run P w = stored P w a (.func f ts c) m := run_store P w a _ m rfl
attribute [local go_sem] run_store_func2
theorem nodes_calls {W : World} {x : LX} {ao : Option Addr} {cap : Nat} : Calls Tryz.prog 66 #[nodeV x ao cap] W fun e W' =>
    e = .returned (.func (.func 102) #[] #[.pointer (some ⟨W.heap.size + 1, 0, none⟩), .pointer (some ⟨W.heap.size, 0, none⟩)]) ∧ W' = (W.alloc (.cells #[.int .i64 x.kind, .string ⟨x.name.toArray⟩, .string ⟨x.exc.toArray⟩, .slice ao x.kids.length cap] 33)).alloc (.cells #[.func (.func 101) #[] #[.pointer (some ⟨W.heap.size + 1, 0, none⟩)]] 125) := by
  obtain ⟨hb1, hb2⟩ := cell_fresh (W.alloc (.cells #[.int .i64 x.kind, .string ⟨x.name.toArray⟩, .string ⟨x.exc.toArray⟩, .slice ao x.kids.length cap] 33)) .nilFunc 125
  rw [World.size_alloc] at hb1 hb2
  refine (callsIn_wide (n := 6)).1 ?_
  refine callsIn_of_wp Tryz.func66 rfl trivial ?_ rfl
  simp only [Tryz.ntmps66, List.size_toArray, List.length_cons, List.length_nil, Nat.reduceAdd, Nat.reduceSub, Array.replicate_succ, Array.replicate_zero, List.push_toArray, List.append_toArray, List.nil_append, List.cons_append]
  gi_wp2
  go_ret
  exact ⟨rfl, rfl⟩
end Go.Ab
namespace Go.Ab
open Go Go.RowKit Go.Proofs Go.Shelf
set_option maxRecDepth 100000
set_option maxHeartbeats 4000000
attribute [local go_sem] Oper.semAt_some run_store_func2
theorem Bx.new (W : World) (x : LX) (ao : Option Addr) (cap : Nat) : Bx (W.alloc (.cells #[.int .i64 x.kind, .string ⟨x.name.toArray⟩, .string ⟨x.exc.toArray⟩, .slice ao x.kids.length cap] 33)) W.heap.size x ao cap := by
  have h := World.alloc_heap_new W (.cells #[.int .i64 x.kind, .string ⟨x.name.toArray⟩, .string ⟨x.exc.toArray⟩, .slice ao x.kids.length cap] 33)
  constructor <;> (unfold World.cell?; rw [h]; rfl)
theorem Bx.alloc {W : World} {b : Nat} {x : LX} {ao : Option Addr} {cap : Nat} (h : Bx W b x ao cap) (o : Go.Obj) : Bx (W.alloc o) b x ao cap := by
  have k : ∀ {a : Addr} {v : Value}, W.cell? a = some v → (W.alloc o).cell? a = some v := fun hc => by
    rw [World.cell?_of_block (w := W) (w' := W.alloc o) (Below.heap_alloc W o _ (cell_lt hc))]; exact hc
  exact ⟨k h.c0, k h.c1, k h.c2, k h.c3⟩
theorem below_own {β : Type} {n B : Nat} {w0 : World} (hn : n ≤ w0.heap.size) (hB : n ≤ B) : OwnFrom B (fun (_ : β) W => Below n w0 W) := fun _ _ _ _ hs hg hr => hs.grown hg (Nat.le_trans hn hs.size) (fun k e => Nat.le_trans hB (hr k e).1)
theorem size_calls {W : World} {B : Nat → Prop} {x : LX} {v : Value} (hB : ∀ b, B b → b < W.heap.size) (h : DR W B (eX x) v) (hbd : x.Bd 1099511627776) : Calls Tryz.prog 30 #[v] W fun e W' => e = .returned (.int .i64 x.size) ∧ Below W.heap.size W W' := by
  have hbig := hbd.z
  obtain ⟨ao, cap, rfl, _⟩ := node_inv h
  have hw1 := (Bx.new W x ao cap).alloc (.cells #[.int .i64 0] 3)
  obtain ⟨c0, c1, c2, c3⟩ := hw1
  have hf := cell_fresh (W.alloc (.cells #[.int .i64 x.kind, .string ⟨x.name.toArray⟩, .string ⟨x.exc.toArray⟩, .slice ao x.kids.length cap] 33)) (.int .i64 0) 3
  rw [World.size_alloc] at hf
  have hbx := (Bx.new ((W.alloc (.cells #[.int .i64 x.kind, .string ⟨x.name.toArray⟩, .string ⟨x.exc.toArray⟩, .slice ao x.kids.length cap] 33)).alloc (.cells #[.int .i64 0] 3)) x ao cap).alloc (.cells #[.func (.func 101) #[] #[.pointer (some ⟨W.heap.size + 1 + 1 + 1, 0, none⟩)]] 125)
  have hsf := (cell_fresh (((W.alloc (.cells #[.int .i64 x.kind, .string ⟨x.name.toArray⟩, .string ⟨x.exc.toArray⟩, .slice ao x.kids.length cap] 33)).alloc (.cells #[.int .i64 0] 3)).alloc (.cells #[.int .i64 x.kind, .string ⟨x.name.toArray⟩, .string ⟨x.exc.toArray⟩, .slice ao x.kids.length cap] 33)) (.func (.func 101) #[] #[.pointer (some ⟨W.heap.size + 1 + 1 + 1, 0, none⟩)]) 125).1
  rw [World.size_alloc, World.size_alloc] at hbx
  rw [World.size_alloc, World.size_alloc, World.size_alloc] at hsf
  have hbl : Below W.heap.size W ((((W.alloc (.cells #[.int .i64 x.kind, .string ⟨x.name.toArray⟩, .string ⟨x.exc.toArray⟩, .slice ao x.kids.length cap] 33)).alloc (.cells #[.int .i64 0] 3)).alloc (.cells #[.int .i64 x.kind, .string ⟨x.name.toArray⟩, .string ⟨x.exc.toArray⟩, .slice ao x.kids.length cap] 33)).alloc (.cells #[.func (.func 101) #[] #[.pointer (some ⟨W.heap.size + 1 + 1 + 1, 0, none⟩)]] 125)) :=
    ((((Below.refl _ W).alloc (Nat.le_refl _) _).alloc (by simp) _).alloc (by simp; omega) _).alloc (by simp; omega) _
  have hd := h.mono (B' := B) (fun b hb => ⟨hb, hbl.block b (hB b hb)⟩)
  have hbox : Boxed ((((W.alloc (.cells #[.int .i64 x.kind, .string ⟨x.name.toArray⟩, .string ⟨x.exc.toArray⟩, .slice ao x.kids.length cap] 33)).alloc (.cells #[.int .i64 0] 3)).alloc (.cells #[.int .i64 x.kind, .string ⟨x.name.toArray⟩, .string ⟨x.exc.toArray⟩, .slice ao x.kids.length cap] 33)).alloc (.cells #[.func (.func 101) #[] #[.pointer (some ⟨W.heap.size + 1 + 1 + 1, 0, none⟩)]] 125)) (W.heap.size + 1) 3 (.int .i64 0) := by
    have := ((Boxed.new (W.alloc (.cells #[.int .i64 x.kind, .string ⟨x.name.toArray⟩, .string ⟨x.exc.toArray⟩, .slice ao x.kids.length cap] 33)) 3 (.int .i64 0)).alloc (.cells #[.int .i64 x.kind, .string ⟨x.name.toArray⟩, .string ⟨x.exc.toArray⟩, .slice ao x.kids.length cap] 33)).alloc (.cells #[.func (.func 101) #[] #[.pointer (some ⟨W.heap.size + 1 + 1 + 1, 0, none⟩)]] 125)
    rwa [World.size_alloc] at this
  have hcall := @nodes_calls ((W.alloc (.cells #[.int .i64 x.kind, .string ⟨x.name.toArray⟩, .string ⟨x.exc.toArray⟩, .slice ao x.kids.length cap] 33)).alloc (.cells #[.int .i64 0] 3)) x ao cap
  simp only [World.size_alloc] at hcall
  refine (callsIn_wide (n := 6)).1 ?_
  refine callsIn_of_wp_marks Tryz.func30 rfl trivial ?_ rfl
  simp only [Tryz.ntmps30, List.size_toArray, List.length_cons, List.length_nil, Nat.reduceAdd, Nat.reduceSub, Array.replicate_succ, Array.replicate_zero, List.push_toArray, List.append_toArray, List.nil_append, List.cons_append]
  gi_wp2
  refine ⟨trivial, ?_⟩
  refine (callsIn_wide.2 hcall).mono ?_
  rintro e w' ⟨rfl, rfl⟩
  gi_wp2
  have hsz : W.heap.size + 4 ≤ ((((W.alloc (.cells #[.int .i64 x.kind, .string ⟨x.name.toArray⟩, .string ⟨x.exc.toArray⟩, .slice ao x.kids.length cap] 33)).alloc (.cells #[.int .i64 0] 3)).alloc (.cells #[.int .i64 x.kind, .string ⟨x.name.toArray⟩, .string ⟨x.exc.toArray⟩, .slice ao x.kids.length cap] 33)).alloc (.cells #[.func (.func 101) #[] #[.pointer (some ⟨W.heap.size + 1 + 1 + 1, 0, none⟩)]] 125)).heap.size := by simp
  generalize hW4 : ((((W.alloc (.cells #[.int .i64 x.kind, .string ⟨x.name.toArray⟩, .string ⟨x.exc.toArray⟩, .slice ao x.kids.length cap] 33)).alloc (.cells #[.int .i64 0] 3)).alloc (.cells #[.int .i64 x.kind, .string ⟨x.name.toArray⟩, .string ⟨x.exc.toArray⟩, .slice ao x.kids.length cap] 33)).alloc (.cells #[.func (.func 101) #[] #[.pointer (some ⟨W.heap.size + 1 + 1 + 1, 0, none⟩)]] 125)) = W4 at *
  refine wpIn_rangeFunc_ownG_of_H rfl (by omega) (gf := 102) (lb := #[.pointer (some ⟨W.heap.size + 1 + 1 + 1, 0, none⟩), .pointer (some ⟨W.heap.size + 1 + 1, 0, none⟩)]) rfl trivial (enters_of Tryz.func102 (by kernel_rfl) rfl)
    (nodes_stops (n := 6 - 1) (B := B) (cb := W.heap.size + 1) (N1 := W.heap.size) (x := x) (fun b hb => by have := hB b hb; omega) (by omega) (by omega) (by omega) (by omega) hsf hbx hd hbd) Kp.trans (fun W' l o o' hl h hc _ => (Kp.refl _ _ W').putObj (by omega) h hc o') (Below.refl _ _) (fun _ => rfl)
    (fun pre W' => Boxed W' (W.heap.size + 1) 3 (.int .i64 pre.length) ∧ Below W.heap.size W W')
    (fun _ _ _ => False)
    (((boxed_own (W.heap.size + 1) 3 (fun pre : List (Nd W4 B) => Value.int .i64 pre.length)).from _).and (below_own (Nat.le_refl _) (by omega)))
    (fun _ _ _ _ _ hs _ _ => hs)
    ⟨hbox, hbl⟩
    (fun p => { tmps := #[nodeV x ao cap, .pointer (some ⟨W.heap.size, 0, none⟩), .int .i64 0, .pointer (some ⟨W.heap.size + 1, 0, none⟩), nodeV x ao cap, .func (.func 102) #[] #[.pointer (some ⟨W.heap.size + 1 + 1 + 1, 0, none⟩), .pointer (some ⟨W.heap.size + 1 + 1, 0, none⟩)], p.v, undef, undef, undef], defers := [] }) ?assign ?body ?done ?stop (Kp.refl _ _)
  case assign =>
    intro l p W' K hK
    gi_wp2
    simpa using hK
  case body =>
    rintro l pre p W' ⟨hx, hb⟩ hlen
    have hc := hx.cell
    have hz := hx.frozen
    gi_wp2
    exact ⟨(KeepsOthers.setCell _ _ _).from _, (Kp.refl _ _ _).setCell (by omega) 0 _, by rw [List.length_append]; exact hx.set _, hb.setCell (Nat.le_succ _) _⟩
  case done =>
    rintro D ys W' hD hys ⟨hx, hb⟩ hK
    have hc := hx.cell
    gi_wp2
    refine ⟨by simp, .inl ⟨_, _, rfl, run_takeDeferred hK, ?_⟩⟩
    refine ⟨_, results_tmp rfl _ _ _, ?_, hb.trans ((Kp.refl (W.heap.size + 1) W.heap.size W').putObj (by omega) hK rfl _).b⟩
    have hl := congrArg List.length hys
    rw [List.length_map, preX_len] at hl
    rw [← hl]
    rfl
  case stop =>
    rintro D c pre W' _ _ h _
    exact h.elim
noncomputable def g_sizeP : List D → Option D := encSpec (fun x : LX => [eX x]) (fun x => x.Bd 1099511627776) (fun x => i64 x.size)
theorem g_sizeP_eq {x : LX} (hd : x.Bd 1099511627776) : g_sizeP [.agg [.int .i64 x.kind, .str x.name, .str x.exc, .list (x.kids.map eX)]] = some (i64 x.size) := by
  have e := encSpec_eq (enc := fun x : LX => [eX x]) (dom := fun x => x.Bd 1099511627776) (out := fun x : LX => i64 x.size) hd (by
    intro y hy
    simp only [List.cons.injEq, and_true] at hy
    rw [eX_inj _ _ hy])
  exact (congrArg g_sizeP (by rw [← eX_eq x])).trans e
theorem pure_one {f : FuncId} {fn : Func} {X : Type} {en : X → D} {dom : X → Prop} {out : X → Int} (hf : Tryz.prog.funcs[f]? = some fn) (hname : (fn.name == "runtime.NumGoroutine") = false) (hb : fn.body.isNone = false)
    (h : ∀ x, dom x → ∀ (W : World) (B : Nat → Prop) (v : Value), (∀ b, B b → b < W.heap.size) → DR W B (en x) v → Calls Tryz.prog f #[v] W fun e W' => e = .returned (.int .i64 (out x)) ∧ Below W.heap.size W W') : PureOK Tryz.prog f true (encSpec (fun x => [en x]) dom (fun x => i64 (out x))) := by
  intro ds d hd
  obtain ⟨x, rfl, hx, rfl⟩ := encSpec_some hd
  refine ⟨fun _ => .int _ _, fun w B vs hB hz hvs => ⟨⟨fn, hf, hname, hb⟩, ?_⟩⟩
  have hz1 : vs.size = 1 := hz
  have h0 : 0 < vs.size := by omega
  have hv := hvs 0 (by simp) (vs[0]'h0) (Array.getElem?_eq_getElem h0)
  have e : vs = #[vs[0]'h0] := Array.ext hz1 fun i h1 h2 => by
    have : i = 0 := by simp at h2; omega
    subst this
    rfl
  rw [e]
  refine (h x hx w B _ hB hv).mono ?_
  rintro e w' ⟨rfl, hb⟩
  exact ⟨_, rfl, .int _ _, hb⟩
theorem PureOK.one {f : FuncId} {fl : Bool} {g : List D → Option D} (h : PureOK Tryz.prog f fl g) {d : D} {n : Int} (hg : g [d] = some (i64 n)) {W : World} {B : Nat → Prop} {v : Value} (hB : ∀ b, B b → b < W.heap.size) (hd : DR W B d v) : Calls Tryz.prog f #[v] W fun e W' => e = .returned (.int .i64 n) ∧ Below W.heap.size W W' := by
  refine ((h _ _ hg).2 W B #[v] hB rfl (fun i hi u hu => ?_)).2.mono ?_
  · have : i = 0 := by simp at hi; omega
    subst this
    cases (show some v = some u from hu)
    exact hd
  · rintro e w' ⟨u, rfl, hu, hb⟩
    exact ⟨by rw [hu.int_eq], hb⟩
theorem f_sizeP_ok : PureOK Tryz.prog 30 true g_sizeP := pure_one Tryz.func30 (by kernel_rfl) rfl fun x hx W B v hB hv => size_calls hB hv hx
end Go.Ab
