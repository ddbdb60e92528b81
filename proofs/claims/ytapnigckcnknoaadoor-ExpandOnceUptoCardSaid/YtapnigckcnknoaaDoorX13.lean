/-
  One text of the proof (own work): contracts of functions of the program, by the abstract machine.
-/
import Derived.Scope
import Derived.Test.YtapnigckcnknoaaDoorX12
import Derived.Test.YtapnigckcnknoaaDoorX10
import Derived.Test.YtapnigckcnknoaaDoorX11
set_option linter.unusedVariables false
set_option linter.unusedSimpArgs false
namespace Go.Ab
open Go Go.RowKit
section
variable {P : Program} {c : Ctx} {H : Heap} {θ : Nat → Value} {w w' : World} {sl : List AV} {a : Act}
theorem HSim.shift (hs : HSim c H θ w) {o k : Nat} {x0 x : Obj} {val : Value} (hk : ¬ H.ref k) (hg0 : H.get o = some x0) (hx0 : x0.live = true)
    (hw : ∀ b, b < w.heap.size → blk (θ o) ≠ some b → w'.heap[b]? = w.heap[b]?) (hz : w.heap.size ≤ w'.heap.size) (hf : ∀ b, blk val = some b → blk (θ o) = some b)
    (hobj : (∀ y u, VR H θ w (vis c H θ w) y u → VR ((H.set o .dead).set k x) (updθ θ k val) w' (vis c ((H.set o .dead).set k x) (updθ θ k val) w') y u) → ObjR c ((H.set o .dead).set k x) (updθ θ k val) w' x val) :
    HSim c ((H.set o .dead).set k x) (updθ θ k val) w' ∧ (∀ y u, VR H θ w (vis c H θ w) y u → VR ((H.set o .dead).set k x) (updθ θ k val) w' (vis c ((H.set o .dead).set k x) (updθ θ k val) w') y u) ∧ HLe H θ ((H.set o .dead).set k x) (updθ θ k val) := by
  have hro : H.ref o := .inr (by rw [hg0]; rfl)
  have hok : o ≠ k := fun e => hk (e ▸ hro)
  have hget : ∀ p, ((H.set o .dead).set k x).get p = if p = k then some x else if p = o then some .dead else H.get p := fun p => by rw [Heap.get_set, Heap.get_set]
  have hle : HLe H θ ((H.set o .dead).set k x) (updθ θ k val) := by
    refine ⟨fun p hp => Heap.ref_set (Heap.ref_set hp), fun p x' hp h => ?_⟩
    have hpk : p ≠ k := fun e => hk (e ▸ hp)
    rw [hget, if_neg hpk] at h
    by_cases hpo : p = o
    · subst hpo
      rw [if_pos rfl, Option.some.injEq] at h
      subst h
      exact ⟨x0, hg0, by cases x0 <;> trivial, fun _ => by simp [updθ, hpk]⟩
    · rw [if_neg hpo] at h
      exact ⟨x', h, x'.evo_refl, fun _ => by simp [updθ, hpk]⟩
  have hown' : ∀ b, own ((H.set o .dead).set k x) (updθ θ k val) b → own H θ b := by
    rintro b ⟨p, y, hg, hy, hbl⟩
    rw [hget] at hg
    by_cases hp : p = k
    · subst hp
      simp only [updθ, if_true] at hbl
      exact ⟨o, x0, hg0, hx0, hf b hbl⟩
    · rw [if_neg hp] at hg
      simp only [updθ, if_neg hp] at hbl
      by_cases hpo : p = o
      · rw [if_pos hpo, Option.some.injEq] at hg
        subst hg
        cases hy
      · rw [if_neg hpo] at hg
        exact ⟨p, y, hg, hy, hbl⟩
  have hv : ∀ b, vis c H θ w b → vis c ((H.set o .dead).set k x) (updθ θ k val) w' b ∧ w'.heap[b]? = w.heap[b]? := fun b ⟨h1, h2, h3⟩ =>
    ⟨⟨by omega, fun h => h2 (hown' b h), h3⟩, hw b h1 (fun h => h2 ⟨o, x0, hg0, hx0, h⟩)⟩
  have hvr : ∀ y u, VR H θ w (vis c H θ w) y u → VR ((H.set o .dead).set k x) (updθ θ k val) w' (vis c ((H.set o .dead).set k x) (updθ θ k val) w') y u := fun y u h => h.mono hv hle
  refine ⟨⟨Nat.le_trans hs.size hz, fun p y hg => ?_, fun p p' y y' hg hg' hy hy' hne' b hb hb' => ?_⟩, hvr, hle⟩
  · rw [hget] at hg
    by_cases hp : p = k
    · subst hp
      simp only [if_true, Option.some.injEq] at hg
      subst hg
      simp only [updθ, if_true]
      exact hobj hvr
    · rw [if_neg hp] at hg
      simp only [updθ, if_neg hp]
      by_cases hpo : p = o
      · rw [if_pos hpo, Option.some.injEq] at hg
        subst hg
        trivial
      · rw [if_neg hpo] at hg
        exact (hs.objs p y hg).mono hv hle (fun hy b hb => hw b ((hs.objs p y hg).lt hy hb) (hs.inj p o y x0 hg hg0 hy hx0 hpo b hb))
  · rw [hget] at hg hg'
    by_cases hp : p = k
    · subst hp
      rw [if_neg (Ne.symm hne')] at hg'
      simp only [updθ, if_true] at hb
      simp only [updθ, if_neg (Ne.symm hne')] at hb'
      by_cases hpo : p' = o
      · rw [if_pos hpo, Option.some.injEq] at hg'
        subst hg'
        cases hy'
      · rw [if_neg hpo] at hg'
        exact hs.inj o p' x0 y' hg0 hg' hx0 hy' (Ne.symm hpo) b (hf b hb) hb'
    · rw [if_neg hp] at hg
      simp only [updθ, if_neg hp] at hb
      by_cases hpo : p = o
      · rw [if_pos hpo, Option.some.injEq] at hg
        subst hg
        cases hy
      · rw [if_neg hpo] at hg
        by_cases hp' : p' = k
        · subst hp'
          simp only [updθ, if_true] at hb'
          exact hs.inj p o y x0 hg hg0 hy hx0 hpo b hb (hf b hb')
        · rw [if_neg hp'] at hg'
          simp only [updθ, if_neg hp'] at hb'
          by_cases hpo' : p' = o
          · rw [if_pos hpo', Option.some.injEq] at hg'
            subst hg'
            cases hy'
          · rw [if_neg hpo'] at hg'
            exact hs.inj p p' y y' hg hg' hy hy' hne' b hb hb'
theorem wl_value {ops : Array Oper} {Q : Exit → Act → World → Prop} {o : Oper} {rest : List Oper} {w1 : World} {v : Value} (hg : o.guard = none) (hr : (execOp a.eval o).run P w = .ok (.value v) w1) (h : wpList P ops Q rest (a.put o.dst v) w1) : wpList P ops Q (o :: rest) a w := by
  refine wpList_step fun K hK => ?_
  have hw : Region.wanted o (yielded ops a.tmps) = true := by unfold Region.wanted; rw [hg]
  rw [if_pos hw]
  unfold Oper.wp
  rw [hr]
  exact hK _ _ h
theorem put_same {d : Nat} {v : Value} (h : d < a.tmps.size) : (a.put (some d) v).eval (.tmp d) = v := by
  simp [Act.put, Act.eval, h]
theorem put_other {d t : Nat} {v : Value} (h : d ≠ t) : (a.put (some d) v).eval (.tmp t) = a.eval (.tmp t) := by
  simp [Act.put, Act.eval, Array.getD_eq_getD_getElem?, Array.getElem?_setIfInBounds, h]
theorem put_size {d : Option Nat} {v : Value} : (a.put d v).tmps.size = a.tmps.size := by
  cases d <;> simp [Act.put]
theorem overV_take {off : Nat} {xs l : List Value} (h : off ≤ l.length) : (overV off xs l).take off = l.take off := by
  unfold overV
  rw [List.append_assoc, List.take_append_of_le_length (by rw [List.length_take]; omega), List.take_take, Nat.min_self]
theorem awp_cut {id1 id2 : Nat} {ops1 ops2 : Array Oper} {o0 o1 o2 o3 p0 p1 p2 p3 : Oper} {rest : Code} {Q : Exit → List AV → Heap → Prop} {t e : TypeId} {sz : Nat} {zv : Value} {x y d0 d1 d2 e0 e1 e2 e3 : Nat} {ob n i : Nat} {l : List D} {tab : List (Nat × Obj)} {nn : Nat}
    (h1 : ops1.toList = [o0, o1, o2, o3]) (h2 : ops2.toList = [p0, p1, p2, p3])
    (ho0 : o0.op = .move (.tmp x) ∧ o0.dst = some d0 ∧ o0.guard = none) (ho1 : o1.op = .move (.tmp y) ∧ o1.dst = some d1 ∧ o1.guard = none)
    (ho2 : o2.op = .slice t (.tmp d0) (some (.tmp d1)) none none ∧ o2.dst = some d2 ∧ o2.guard = none)
    (ho3 : o3.op = .call { callee := .builtin .clear, args := #[.tmp d2], argTypes := #[t] } ∧ o3.dst = none ∧ o3.guard = none)
    (hp0 : p0.op = .move (.tmp x) ∧ p0.dst = some e0 ∧ p0.guard = none) (hp1 : p1.op = .move (.tmp y) ∧ p1.dst = some e1 ∧ p1.guard = none)
    (hp2 : p2.op = .slice t (.tmp e0) none (some (.tmp e1)) none ∧ p2.dst = some e2 ∧ p2.guard = none) (hp3 : p3.op = .assign (.tmp e2) ∧ p3.dst = some e3 ∧ p3.guard = none)
    (hne : (d0 ≠ y ∧ d0 ≠ d1 ∧ d1 ≠ d0) ∧ (d0 ≠ x ∧ d1 ≠ x ∧ d2 ≠ x) ∧ (d0 ≠ y ∧ d1 ≠ y ∧ d2 ≠ y ∧ e0 ≠ y) ∧ e1 ≠ e0) (hlt : d0 < sl.length ∧ d1 < sl.length ∧ d2 < sl.length ∧ e0 < sl.length ∧ e1 < sl.length ∧ e2 < sl.length)
    (hx : aev sl (.tmp x) = .row ob n) (hy : aev sl (.tmp y) = .data (.int .i64 i)) (hg : look tab ob = some (.row e sz l)) (hn : l.length = n) (hi : i < n)
    (hu : P.underlying t = some (.slice e)) (hsz : tsize P e = some sz) (hz : tzero P e = some zv) (hzs : zv.cells.size = sz) (hz1 : ∀ u ∈ zv.cells.toList, u.oneCell' = true)
    (hrest : awp P c rest Q (putA (putA (putA (putA (putA (putA (putA sl (some d0) .junk) (some d1) .junk) (some d2) .junk) (some e0) .junk) (some e1) .junk) (some e2) .junk) (some e3) (.row nn i)) ⟨upd (upd tab ob .dead) nn (.row e sz (l.take i)), nn + 1⟩) :
    awp P c (.seq (.region id1 ops1 false) (.seq (.region id2 ops2 false) rest)) Q sl ⟨tab, nn⟩ := by
  intro θ w a hs
  have hv0 := aev_sound hs.st (.tmp x)
  have hv1 := aev_sound hs.st (.tmp y)
  rw [hx] at hv0
  rw [hy] at hv1
  have hi1 := hv1.data_inv.int_eq
  have hg' : (⟨tab, nn⟩ : Heap).get ob = some (.row e sz l) := hg
  have hθ0 : a.eval (.tmp x) = θ ob := by
    cases hv0 with
    | row _ _ _ hv hr h => exact (h _ _ hg' rfl).2 hn
  obtain ⟨h0, hcl, hone, vs, hown, hbl, hvs⟩ := hs.st.sim.objs ob _ hg'
  obtain ⟨hvl, hrow⟩ := hown
  rcases hrow with ⟨_, h⟩ | ⟨g, cap, cur, hθ, _, ⟨fr, hh, hso⟩, hnc, hcm, hcs, htake⟩
  · omega
  rw [hn] at hθ hnc hvl htake
  rw [hθ] at hθ0
  have hisz : i * sz + (n - i) * sz = n * sz := by rw [← Nat.add_mul]; congr 1; omega
  have hcsz : n * sz ≤ cap * sz := Nat.mul_le_mul_right _ hnc
  obtain ⟨zs, hzl, hzo, hclr⟩ : ∃ zs : List Value, zs.length = (n - i) * sz ∧ (∀ u ∈ zs, u.oneCell' = true) ∧ ∀ ty cp, (Builtin.clear_ #[t] ty #[.slice (some ⟨g, i * sz, none⟩) (n - i) cp]).run P w = .ok (.tuple #[]) (w.setRow g (overV (i * sz) zs cur.toList).toArray) := by
    obtain ⟨m, hm⟩ : ∃ m, n - i = m + 1 := ⟨n - i - 1, by omega⟩
    simp only [tzero, Option.bind_eq_some_iff] at hz
    obtain ⟨inf, hinf, hzz⟩ := hz
    have hlen : (Builtin.zeroCells zv.cells (n - i)).toList.length = (n - i) * sz := by rw [Array.length_toList, size_zeroCells, hzs]
    have hone : ∀ u ∈ (Builtin.zeroCells zv.cells (n - i)).toList, u.oneCell' = true := fun u hu' => by
      simp only [Builtin.zeroCells, Array.toList_map, List.mem_map] at hu'
      obtain ⟨k, _, rfl⟩ := hu'
      have hk : k % zv.cells.size < zv.cells.size := Nat.mod_lt _ (by omega)
      rw [getElem!_pos zv.cells _ hk]
      exact hz1 _ (by rw [← Array.getElem_toList (by simpa using hk)]; exact List.getElem_mem _)
    refine ⟨_, hlen, hone, fun ty cp => ?_⟩
    have hst := run_storeCells_soft (P := P) (w := w) (off := i * sz) hh hso (vs := (Builtin.zeroCells zv.cells (n - i)).toList) (by rw [hlen, hisz]; omega) hone
    rw [hm] at hst ⊢
    simp [Builtin.clear_, run_underlying hu, zeroValue, typeInfo, hinf, hzz, hst]
  obtain ⟨⟨n1, n2, n3⟩, ⟨n4, n5, n6⟩, ⟨n7, n8, n9, n10⟩, n11⟩ := hne
  obtain ⟨l1, l2, l3, l4, l5, l6⟩ := hlt
  have hsize := hs.st.size
  have hmv : ∀ (o : Oper) (a : Act) (w : World) (z : Operand), o.op = .move z ∨ o.op = .assign z → (execOp a.eval o).run P w = .ok (.value (a.eval z)) w := fun o a w z ho => by
    rcases ho with ho | ho <;> simp [execOp, ho]
  have hbr1 : ∀ w, (Instr.sliceBounds true n cap (some (.int .i64 (i : Int))) none none).run P w = .ok (i, n, cap) w := fun w =>
    bounds_run (.inl ⟨rfl, rfl⟩) (.inr ⟨_, rfl, by
      have : 0 ≤ (i : Int) ∧ (i : Int) ≤ (n : Int) := by omega
      simp [Instr.sliceBound, asIntOf, this]⟩)
  have hbr2 : ∀ w, (Instr.sliceBounds true n cap none (some (.int .i64 (i : Int))) none).run P w = .ok (0, i, cap) w := fun w =>
    bounds_run (.inr ⟨_, rfl, by
      have : 0 ≤ (i : Int) ∧ (i : Int) ≤ (cap : Int) := by omega
      simp [Instr.sliceBound, asIntOf, this]⟩) (.inl ⟨rfl, rfl⟩)
  generalize hw3 : w.setRow g (overV (i * sz) zs cur.toList).toArray = w3 at hclr
  let V0 : Value := .slice (some ⟨g, 0, none⟩) n cap
  let VI : Value := .int .i64 (i : Int)
  let V2 : Value := .slice (some ⟨g, i * sz, none⟩) (n - i) (cap - i)
  let V5 : Value := .slice (some ⟨g, 0, none⟩) i cap
  refine wp_seq (wp_region_list ?_)
  rw [h1]
  refine wl_value (v := V0) ho0.2.2 (by rw [hmv _ _ _ _ (.inl ho0.1), hθ0]) ?_
  rw [ho0.2.1]
  refine wl_value (v := VI) ho1.2.2 (by rw [hmv _ _ _ _ (.inl ho1.1), put_other n1, hi1]) ?_
  rw [ho1.2.1]
  have ev2 : ((a.put (some d0) V0).put (some d1) VI).eval (.tmp d0) = V0 := by rw [put_other n3, put_same (by omega)]
  have ev3 : ((a.put (some d0) V0).put (some d1) VI).eval (.tmp d1) = VI := put_same (by rw [put_size]; omega)
  refine wl_value (v := V2) (w1 := w) ho2.2.2 ?_ ?_
  · have hne : ¬ cap = i := by omega
    simp only [execOp, ho2.1, Instr.sliceAt, Sem.run_bind, run_underlying hu, Result.andThen_ok, ev2, ev3, Option.map_some, Instr.slice, Option.map_none, V0, VI, hbr1, run_sizeOf' hsz, Sem.run_pure, hne, if_false, Addr.add_lit, Nat.zero_add, V2]
  rw [ho2.2.1]
  have ev4 : (((a.put (some d0) V0).put (some d1) VI).put (some d2) V2).eval (.tmp d2) = V2 := put_same (by rw [put_size, put_size]; omega)
  refine wl_value (v := .tuple #[]) (w1 := w3) ho3.2.2 ?_ ?_
  · simp only [execOp, ho3.1, resolve, invoke, builtin, Sem.run_bind, Sem.run_pure, Result.andThen_ok, List.map_toArray, List.map_cons, List.map_nil, ev4, V2, hclr]
  rw [ho3.2.1]
  refine wpList_nil ?_
  refine wp_seq (wp_region_list ?_)
  rw [h2]
  generalize ha3 : ((((a.put (some d0) V0).put (some d1) VI).put (some d2) V2).put none (.tuple #[])) = a3
  have hz3 : a3.tmps.size = sl.length := by rw [← ha3]; simp only [put_size]; exact hsize
  have ex : a3.eval (.tmp x) = V0 := by
    rw [← ha3]
    show (((a.put (some d0) V0).put (some d1) VI).put (some d2) V2).eval (.tmp x) = V0
    rw [put_other n6, put_other n5, put_other n4, hθ0]
  have ey : a3.eval (.tmp y) = VI := by
    rw [← ha3]
    show (((a.put (some d0) V0).put (some d1) VI).put (some d2) V2).eval (.tmp y) = VI
    rw [put_other n9, put_other n8, put_other n7, hi1]
  refine wl_value (v := V0) hp0.2.2 (by rw [hmv _ _ _ _ (.inl hp0.1), ex]) ?_
  rw [hp0.2.1]
  refine wl_value (v := VI) hp1.2.2 (by rw [hmv _ _ _ _ (.inl hp1.1), put_other n10, ey]) ?_
  rw [hp1.2.1]
  have ev5 : ((a3.put (some e0) V0).put (some e1) VI).eval (.tmp e0) = V0 := by rw [put_other n11, put_same (by omega)]
  have ev6 : ((a3.put (some e0) V0).put (some e1) VI).eval (.tmp e1) = VI := put_same (by rw [put_size]; omega)
  refine wl_value (v := V5) (w1 := w3) hp2.2.2 ?_ ?_
  · have hne : ¬ cap = 0 := by omega
    simp only [execOp, hp2.1, Instr.sliceAt, Sem.run_bind, run_underlying hu, Result.andThen_ok, ev5, ev6, Option.map_some, Instr.slice, Option.map_none, V0, VI, hbr2, run_sizeOf' hsz, Sem.run_pure, hne, if_false, Addr.add_lit, Nat.zero_add, Nat.zero_mul, Nat.sub_zero, V5]
  rw [hp2.2.1]
  refine wl_value (v := V5) hp3.2.2 (by rw [hmv _ _ _ _ (.inr hp3.1)]; rw [put_same (by rw [put_size, put_size]; omega)]) ?_
  rw [hp3.2.1]
  refine wpList_nil ?_
  have hfresh : ¬ (⟨tab, nn⟩ : Heap).ref nn := by
    rintro (h | h)
    · exact Nat.lt_irrefl _ h
    · exact Nat.lt_irrefl _ (hs.wf _ h)
  have hcur : i * sz ≤ cur.toList.length := by rw [Array.length_toList, hcs]; omega
  have hsh := hs.st.sim.shift (w' := w3) (o := ob) (k := nn) (x0 := .row e sz l) (x := .row e sz (l.take i)) (val := V5) hfresh hg' rfl
    (fun b _ hb => by rw [← hw3]; exact setRow_other w g b _ (fun h => hb (by rw [hθ, h]; rfl))) (by rw [← hw3]; simp) (fun b hb => by rw [hθ]; exact hb)
    (fun hvr => by
      have htl : (l.take i).length = i := by rw [List.length_take]; omega
      refine ⟨h0, fun d hd => hcl d (List.mem_of_mem_take hd), fun d hd => hone d (mem_flat_sub (fun y hy => List.mem_of_mem_take hy) hd), vs.take (i * sz), ⟨by rw [List.length_take, hvl, htl]; omega, .inr ⟨g, cap, (overV (i * sz) zs cur.toList).toArray, by rw [htl], Nat.zero_le _, ⟨fr, ?_, ?_⟩, by omega, hcm, ?_, ?_⟩⟩, fun b hb => hbl b (by rw [hθ]; exact hb), fun k hk u hu => ?_⟩
      · rw [← hw3]
        exact setRow_heap w g cur _ e fr hh
      · rw [List.size_toArray, overV_length (by rw [hzl, hisz, Array.length_toList, hcs]; exact hcsz), Array.length_toList]
        exact hso
      · rw [List.size_toArray, overV_length (by rw [hzl, hisz, Array.length_toList, hcs]; exact hcsz), Array.length_toList, hcs]
      · simp only
        rw [htl, overV_take hcur, ← htake, List.take_take, Nat.min_eq_left (by omega)]
      · rw [List.getElem?_take] at hu
        split at hu
        · rename_i hki
          have hft : flat (l.take i) = (flat l).take (i * sz) := flat_take hcl i
          have hkl : k < (flat l).length := by rw [flat_length hcl, hn]; omega
          have := hvr _ u (.data _ _ (hvs k hkl u hu))
          simp only [hft, List.getElem_take]
          exact this.data_inv
        · cases hu)
  have hst3 : St c ((((⟨tab, nn⟩ : Heap).set ob .dead).set nn (.row e sz (l.take i)))) (updθ θ nn V5) w3 sl a := ⟨hsh.1, hs.st.defers, hs.st.size, fun j u v h1 h2 => hsh.2.1 u v (hs.st.vals j u v h1 h2)⟩
  have hrow5 : VR ((((⟨tab, nn⟩ : Heap).set ob .dead).set nn (.row e sz (l.take i)))) (updθ θ nn V5) w3 (vis c ((((⟨tab, nn⟩ : Heap).set ob .dead).set nn (.row e sz (l.take i)))) (updθ θ nn V5) w3) (.row nn i) V5 :=
    .row _ _ _ rfl (.inr (by rw [Heap.get_set, if_pos rfl]; rfl)) fun y m hy hm => by
      rw [Heap.get_set, if_pos rfl, Option.some.injEq] at hy
      subst hy
      simp only [Obj.rlen, Option.some.injEq] at hm
      have : (l.take i).length = i := by rw [List.length_take]; omega
      exact ⟨by omega, fun _ => by simp [updθ]⟩
  have hst4 := (((((((hst3.putA (.junk V0) (some d0)).putA (.junk VI) (some d1)).putA (.junk V2) (some d2)).putA (.junk V0) (some e0)).putA (.junk VI) (some e1)).putA (.junk V5) (some e2)).putA hrow5 (some e3))
  have hst5 := hst4.bump (n := nn + 1) (by simp [Heap.set])
  have hle := hsh.2.2.trans (HLe.bump (n := nn + 1) (by simp [Heap.set]))
  have hkept : Kept c w w3 := by
    rw [← hw3]
    refine ⟨rfl, rfl, rfl, by simp, fun b hb hb2 => setRow_other w g b _ (fun h => ?_)⟩
    rcases hbl b (by rw [hθ, h]; rfl) with h3 | h3
    · omega
    · exact hb2 h3
  have hbase := hs.base
  subst ha3
  refine Go.wp_mono (hrest _ w3 _ ⟨hst5, fun p hp => ?_, Nat.le_trans hbase (Nat.le_succ _)⟩) ?_
  · have hp' : ((((⟨tab, nn⟩ : Heap).set ob .dead).set nn (.row e sz (l.take i))).get p).isSome := hp
    rw [Heap.get_set, Heap.get_set] at hp'
    show p < nn + 1
    split at hp'
    · omega
    · split at hp'
      · rename_i h3
        have := hs.wf p (by rw [h3, hg']; rfl)
        exact Nat.lt_succ_of_lt this
      · exact Nat.lt_succ_of_lt (hs.wf p hp')
  · rintro ex a' w' ⟨sl', H', θ', q, s2, k2, v2⟩
    exact ⟨sl', H', θ', q, s2, hkept.trans k2, (hle.evo hbase).trans v2⟩
theorem axp_cut {id1 id2 : Nat} {ops1 ops2 : Array Oper} {o0 o1 o2 o3 p0 p1 p2 p3 : Oper} {rest : Code} {Q : Exit → List AV → Heap → Prop} {t e : TypeId} {sz : Nat} {zv : Value} {x y d0 d1 d2 e0 e1 e2 e3 : Nat} {ob n i : Nat} {l : List D} {tab : List (Nat × Obj)} {nn b : Nat}
    (h1 : ops1.toList = [o0, o1, o2, o3]) (h2 : ops2.toList = [p0, p1, p2, p3])
    (ho0 : o0.op = .move (.tmp x) ∧ o0.dst = some d0 ∧ o0.guard = none) (ho1 : o1.op = .move (.tmp y) ∧ o1.dst = some d1 ∧ o1.guard = none)
    (ho2 : o2.op = .slice t (.tmp d0) (some (.tmp d1)) none none ∧ o2.dst = some d2 ∧ o2.guard = none)
    (ho3 : o3.op = .call { callee := .builtin .clear, args := #[.tmp d2], argTypes := #[t] } ∧ o3.dst = none ∧ o3.guard = none)
    (hp0 : p0.op = .move (.tmp x) ∧ p0.dst = some e0 ∧ p0.guard = none) (hp1 : p1.op = .move (.tmp y) ∧ p1.dst = some e1 ∧ p1.guard = none)
    (hp2 : p2.op = .slice t (.tmp e0) none (some (.tmp e1)) none ∧ p2.dst = some e2 ∧ p2.guard = none) (hp3 : p3.op = .assign (.tmp e2) ∧ p3.dst = some e3 ∧ p3.guard = none)
    (hne : (d0 ≠ y ∧ d0 ≠ d1 ∧ d1 ≠ d0) ∧ (d0 ≠ x ∧ d1 ≠ x ∧ d2 ≠ x) ∧ (d0 ≠ y ∧ d1 ≠ y ∧ d2 ≠ y ∧ e0 ≠ y) ∧ e1 ≠ e0) (hlt : d0 < sl.length ∧ d1 < sl.length ∧ d2 < sl.length ∧ e0 < sl.length ∧ e1 < sl.length ∧ e2 < sl.length)
    (hx : aev sl (.tmp x) = .row ob n) (hy : aev sl (.tmp y) = .data (.int .i64 i)) (hg : look tab ob = some (.row e sz l)) (hn : l.length = n) (hi : i < n)
    (hu : P.underlying t = some (.slice e)) (hsz : tsize P e = some sz) (hz : tzero P e = some zv) (hzs : zv.cells.size = sz) (hz1 : ∀ u ∈ zv.cells.toList, u.oneCell' = true)
    (hrest : axp P b rest Q (putA (putA (putA (putA (putA (putA (putA sl (some d0) .junk) (some d1) .junk) (some d2) .junk) (some e0) .junk) (some e1) .junk) (some e2) .junk) (some e3) (.row nn i)) ⟨upd (upd tab ob .dead) nn (.row e sz (l.take i)), nn + 1⟩) :
    axp P b (.seq (.region id1 ops1 false) (.seq (.region id2 ops2 false) rest)) Q sl ⟨tab, nn⟩ := by
  obtain ⟨e, s1, H1, hq, h⟩ := hrest
  exact ⟨e, s1, H1, hq, fun c hb => awp_cut h1 h2 ho0 ho1 ho2 ho3 hp0 hp1 hp2 hp3 hne hlt hx hy hg hn hi hu hsz hz hzs hz1 (h c hb)⟩
end
end Go.Ab
namespace Go.Ab
open Go Go.RowKit
def Heap.keep (H : Heap) (p : Nat → Bool) : Heap := ⟨H.tab.filter (fun y => p y.1), H.next⟩
theorem look_filter (p : Nat → Bool) (o : Nat) : ∀ t : List (Nat × Obj), look (t.filter (fun y => p y.1)) o = if p o then look t o else none
  | [] => by simp [look]
  | (k, x) :: r => by
    have ih := look_filter p o r
    by_cases hk : p k
    · rw [List.filter_cons_of_pos (by simpa using hk)]
      simp only [look]
      by_cases ho : o = k
      · subst ho; simp [hk]
      · rw [if_neg ho, if_neg ho, ih]
    · rw [List.filter_cons_of_neg (by simpa using hk)]
      simp only [look]
      by_cases ho : o = k
      · subst ho; rw [ih]; simp [hk]
      · rw [if_neg ho, ih]
theorem keep_get (H : Heap) (p : Nat → Bool) (o : Nat) : (H.keep p).get o = if p o then H.get o else none := look_filter p o H.tab
theorem keep_some {H : Heap} {p : Nat → Bool} {o : Nat} {x : Obj} (h : (H.keep p).get o = some x) : H.get o = some x := by
  rw [keep_get] at h
  split at h
  · exact h
  · cases h
section
variable {P : Program} {c : Ctx} {H H' : Heap} {θ θ' : Nat → Value} {w w' : World} {sl sl' : List AV} {a : Act}
theorem Weak.keep {b : Nat} (p : Nat → Bool) : Weak b sl H sl (H.keep p) := fun c θ w a hc hs => by
  have hown : ∀ b, own (H.keep p) θ b → own H θ b := fun b ⟨o, x, h1, h2, h3⟩ => ⟨o, x, keep_some h1, h2, h3⟩
  have hv : ∀ b, vis c H θ w b → vis c (H.keep p) θ w b ∧ w.heap[b]? = w.heap[b]? := fun b ⟨h1, h2, h3⟩ => ⟨⟨h1, fun h => h2 (hown b h), h3⟩, rfl⟩
  have hle : HLe H θ (H.keep p) θ := ⟨fun o ho => .inl (by
    rcases ho with ho | ho
    · exact ho
    · exact hs.wf o ho), fun o x' _ hx => ⟨x', keep_some hx, x'.evo_refl, fun _ => rfl⟩⟩
  refine ⟨θ, ⟨⟨⟨hs.st.sim.size, fun o x hg => (hs.st.sim.objs o x (keep_some hg)).mono hv hle (fun _ _ _ => rfl), fun o o' x x' h h' => hs.st.sim.inj o o' x x' (keep_some h) (keep_some h')⟩, hs.st.defers, hs.st.size,
    fun i x v h1 h2 => (hs.st.vals i x v h1 h2).mono hv hle⟩, fun o ho => ?_, hs.base⟩, hle.evo (by rw [← hc]; exact hs.base)⟩
  obtain ⟨x, hx⟩ := Option.isSome_iff_exists.1 ho
  exact hs.wf o (by rw [keep_some hx]; rfl)
theorem Weak.pack {b : Nat} {fp : List Nat} {objs : List Obj} (hobj : getAll H fp = some objs) (hnd : nodupB fp = true) (hfst : ∀ i, i < b → fp[i]? = some i) : Weak b sl H (rens H (idxOf fp) sl) ⟨enumO 0 (objs.map (renO H (idxOf fp))), objs.length⟩ := fun c θ w a hc hs => by
  obtain ⟨ho1, ho2⟩ := getAll_spec hobj
  let Hl : Heap := ⟨enumO 0 (objs.map (renO H (idxOf fp))), objs.length⟩
  let θl : Nat → Value := fun i => θ (fp.getD i 0)
  have hlget : ∀ i y, Hl.get i = some y → ∃ o x, fp[i]? = some o ∧ objs[i]? = some x ∧ H.get o = some x ∧ y = renO H (idxOf fp) x ∧ θl i = θ o := fun i y hi => by
    simp only [Hl, get_enumO, List.getElem?_map, Option.map_eq_some_iff] at hi
    obtain ⟨x, hx, rfl⟩ := hi
    have hlt : i < fp.length := by have := (List.getElem?_eq_some_iff.1 hx).1; omega
    have hfi : fp[i]? = some fp[i] := by simp [hlt]
    obtain ⟨x', h1, h2⟩ := ho2 i _ hfi
    rw [hx] at h1
    cases h1
    exact ⟨_, x, hfi, hx, h2, rfl, by simp [θl, List.getD, hfi]⟩
  have hownl : ∀ b, own Hl θl b → own H θ b := fun b ⟨i, y, h1, h2, h3⟩ => by
    obtain ⟨o, x, g1, g2, g3, rfl, g5⟩ := hlget i y h1
    rw [renO_live] at h2
    rw [g5] at h3
    exact ⟨o, x, g3, h2, h3⟩
  have hvl : ∀ b, vis c H θ w b → vis c Hl θl w b := fun b hb => ⟨hb.1, fun ho => hb.2.1 (hownl b ho), hb.2.2⟩
  have hto : ∀ {x v}, VR H θ w (vis c H θ w) x v → VR Hl θl w (vis c Hl θl w) (ren H (idxOf fp) x) v := fun {x v} hx => VR.toCallee hs.st.sim ⟨ho1, ho2⟩ hvl hx
  have hbl : b ≤ objs.length := by
    rcases Nat.lt_or_ge objs.length b with h | h
    · have h1 := hfst objs.length h
      have := (List.getElem?_eq_some_iff.1 h1).1
      omega
    · exact h
  refine ⟨θl, ⟨⟨⟨hs.st.sim.size, fun i y hi => ?_, fun i j y z hi hj hy hz hne b h1 h2 => ?_⟩, hs.st.defers, by rw [rens_length]; exact hs.st.size, fun i x v hx hv => ?_⟩, fun o ho => ?_, by rw [hc]; exact hbl⟩, fun o x' ho hx => ?_⟩
  · obtain ⟨o, x, g1, g2, g3, rfl, g5⟩ := hlget i y hi
    rw [g5]
    exact (hs.st.sim.objs o x g3).turn hvl (fun y u hy => hto hy) fun b _ _ h => h
  · obtain ⟨o, x, g1, g2, g3, rfl, g5⟩ := hlget i y hi
    obtain ⟨o', x', g1', g2', g3', rfl, g5'⟩ := hlget j z hj
    rw [renO_live] at hy hz
    rw [g5] at h1
    rw [g5'] at h2
    exact hs.st.sim.inj o o' x x' g3 g3' hy hz (fun he => hne (by subst he; exact nodupB_spec hnd i j _ g1 g1')) b h1 h2
  · have hi : i < sl.length := by
      have := (List.getElem?_eq_some_iff.1 hx).1
      rw [rens_length] at this
      exact this
    have e : (rens H (idxOf fp) sl)[i]? = some (ren H (idxOf fp) sl[i]) := by
      rw [List.getElem?_eq_getElem (by rw [rens_length]; exact hi), rens_get H _ sl i _ hi]
    rw [e] at hx
    cases hx
    exact hto (hs.st.vals i _ v (by simp [hi]) hv)
  · rw [get_enumO] at ho
    have := (List.getElem?_eq_some_iff.1 (Option.eq_some_of_isSome ho)).1
    simpa using this
  · obtain ⟨o', x, g1, g2, g3, rfl, g5⟩ := hlget o x' hx
    rw [hfst o ho] at g1
    cases g1
    exact ⟨x, g3, renO_evo (x := x) (y := renO H (idxOf fp) x) (H := H) (ρ := idxOf fp) (H' := ⟨[], 0⟩) (ρ' := fun _ => none) (Obj.evo_refl _) |> fun h => by
      cases x <;> simp_all [renO, Obj.evo], fun _ => g5⟩
end
section
variable {R : Type}
def forceN (n : Nat) (k : Nat → R) : R := match n with
  | 0 => k 0
  | n + 1 => k (n + 1)
theorem forceN_eq (n : Nat) (k : Nat → R) : forceN n k = k n := by cases n <;> rfl
def forceI (n : Int) (k : Int → R) : R := match n with
  | .ofNat n => forceN n fun n => k (.ofNat n)
  | .negSucc n => forceN n fun n => k (.negSucc n)
theorem forceI_eq (n : Int) (k : Int → R) : forceI n k = k n := by cases n <;> simp only [forceI, forceN_eq]
def forceL {α : Type} (f : α → (α → R) → R) : List α → (List α → R) → R
  | [], k => k []
  | x :: r, k => f x fun x => forceL f r fun r => k (x :: r)
theorem forceL_eq {α : Type} {f : α → (α → R) → R} (hf : ∀ x k, f x k = k x) : ∀ (l : List α) (k : List α → R), forceL f l k = k l
  | [], k => rfl
  | x :: r, k => by simp only [forceL, hf, forceL_eq hf r]
def forceD : Nat → D → (D → R) → R
  | 0, d, k => k d
  | n + 1, d, k => match d with
    | .bool true => k (.bool true)
    | .bool false => k (.bool false)
    | .int t i => forceI i fun i => k (.int t i)
    | .str s => k (.str s)
    | .list l => forceL (forceD n) l fun l => k (.list l)
    | .nilp => k .nilp
    | .ref l => forceL (forceD n) l fun l => k (.ref l)
    | .agg l => forceL (forceD n) l fun l => k (.agg l)
    | .clo f l => forceL (forceD n) l fun l => k (.clo f l)
    | .tup l => forceL (forceD n) l fun l => k (.tup l)
    | .map a b => forceL (forceD n) a fun a => forceL (forceD n) b fun b => k (.map a b)
    | .set l => k (.set l)
theorem forceD_eq : ∀ (n : Nat) (d : D) (k : D → R), forceD n d k = k d
  | 0, d, k => rfl
  | n + 1, d, k => by
    have ih := forceL_eq (forceD_eq n)
    cases d with
    | bool b => cases b <;> rfl
    | int t i => simp only [forceD, forceI_eq]
    | str s => rfl
    | nilp => rfl
    | map a b => simp only [forceD, ih]
    | set l => rfl
    | _ => exact ih _ _
def forceA : Nat → AV → (AV → R) → R
  | 0, d, k => k d
  | n + 1, d, k => match d with
    | .data d => forceD 12 d fun d => k (.data d)
    | .junk => k .junk
    | .nils => k .nils
    | .ptr o i => forceN o fun o => forceN i fun i => k (.ptr o i)
    | .row o i => forceN o fun o => forceN i fun i => k (.row o i)
    | .rref o a b c => forceN o fun o => forceN a fun a => forceN b fun b => forceN c fun c => k (.rref o a b c)
    | .agg l => forceL (forceA n) l fun l => k (.agg l)
    | .tup l => forceL (forceA n) l fun l => k (.tup l)
    | .fn f l => forceL (forceA n) l fun l => k (.fn f l)
    | .bnd f l => forceL (forceA n) l fun l => k (.bnd f l)
    | .mref o => forceN o fun o => k (.mref o)
theorem forceA_eq : ∀ (n : Nat) (d : AV) (k : AV → R), forceA n d k = k d
  | 0, d, k => rfl
  | n + 1, d, k => by
    have ih := forceL_eq (forceA_eq n)
    cases d <;> simp only [forceA, forceN_eq, forceD_eq, ih]
def forceO (x : Obj) (k : Obj → R) : R := match x with
  | .box cs => forceL (forceA 12) cs fun cs => k (.box cs)
  | .row e sz l => forceN e fun e => forceN sz fun sz => forceL (forceD 12) l fun l => k (.row e sz l)
  | .arr e sz n cs => forceN e fun e => forceN sz fun sz => forceN n fun n => forceL (forceA 12) cs fun cs => k (.arr e sz n cs)
  | .frz l => forceL (forceD 12) l fun l => k (.frz l)
  | .map a b => forceL (forceD 12) a fun a => forceL (forceD 12) b fun b => k (.map a b)
  | .dead => k .dead
theorem forceO_eq (x : Obj) (k : Obj → R) : forceO x k = k x := by
  cases x <;> simp only [forceO, forceN_eq, forceL_eq (forceA_eq 12), forceL_eq (forceD_eq 12)]
def forceP (x : Nat × Obj) (k : Nat × Obj → R) : R := match x with
  | (o, x) => forceN o fun o => forceO x fun x => k (o, x)
theorem forceP_eq (x : Nat × Obj) (k : Nat × Obj → R) : forceP x k = k x := by simp only [forceP, forceN_eq, forceO_eq]
def forceS (sl : List AV) (H : Heap) (k : List AV → Heap → R) : R := forceL (forceA 12) sl fun sl => match H with
  | ⟨tab, next⟩ => forceL forceP tab fun tab => forceN next fun next => k sl ⟨tab, next⟩
theorem forceS_eq (sl : List AV) (H : Heap) (k : List AV → Heap → R) : forceS sl H k = k sl H := by
  simp only [forceS, forceN_eq, forceL_eq forceP_eq, forceL_eq (forceA_eq 12)]
end
def footA (H : Heap) : Nat → List Nat → AV → List Nat
  | 0, acc, _ => acc
  | m + 1, acc, x => match x with
    | .ptr o _ | .row o _ | .rref o _ _ _ | .mref o => if acc.contains o then acc else match H.get o with
      | some (.box cs) => cs.foldl (footA H m) (acc ++ [o])
      | some (.arr _ _ _ cs) => cs.foldl (footA H m) (acc ++ [o])
      | some _ => acc ++ [o]
      | none => acc
    | .agg l => l.foldl (footA H m) acc
    | .tup l => l.foldl (footA H m) acc
    | .fn _ l => l.foldl (footA H m) acc
    | .bnd _ l => l.foldl (footA H m) acc
    | _ => acc
def gc (b : Nat) (sl : List AV) (H : Heap) : Heap := H.keep ((sl.foldl (footA H 30) (List.range b)).contains ·)
def all2 {α : Type} (f : α → α → Bool) : List α → List α → Bool
  | [], [] => true
  | x :: r, y :: r' => f x y && all2 f r r'
  | _, _ => false
theorem all2_eq {α : Type} {f : α → α → Bool} (hf : ∀ x y, f x y = true → x = y) : ∀ l l' : List α, all2 f l l' = true → l = l'
  | [], [], _ => rfl
  | x :: r, y :: r', h => by
    simp only [all2, Bool.and_eq_true] at h
    rw [hf x y h.1, all2_eq hf r r' h.2]
  | [], _ :: _, h => by simp [all2] at h
  | _ :: _, [], h => by simp [all2] at h
def D.eqB : Nat → D → D → Bool
  | 0, _, _ => false
  | n + 1, x, y => match x, y with
    | .bool a, .bool b => a == b
    | .int k a, .int k' b => decide (k = k') && decide (a = b)
    | .str a, .str b => a == b
    | .list a, .list b => all2 (D.eqB n) a b
    | .nilp, .nilp => true
    | .ref a, .ref b => all2 (D.eqB n) a b
    | .agg a, .agg b => all2 (D.eqB n) a b
    | .clo f a, .clo g b => decide (f = g) && all2 (D.eqB n) a b
    | .tup a, .tup b => all2 (D.eqB n) a b
    | .map a c, .map b d => all2 (D.eqB n) a b && all2 (D.eqB n) c d
    | _, _ => false
theorem D.eqB_eq : ∀ n x y, D.eqB n x y = true → x = y
  | 0, x, y, h => by simp [D.eqB] at h
  | n + 1, x, y, h => by
    have ih := all2_eq (D.eqB_eq n)
    cases x <;> cases y <;> simp only [D.eqB, Bool.and_eq_true, decide_eq_true_eq, beq_iff_eq] at h <;> first | (cases h; done) | rfl | (rw [h]; done) | (rw [h.1, h.2]; done) | (rw [ih _ _ h]; done) | (rw [h.1, ih _ _ h.2]; done) | (rw [ih _ _ h.1, ih _ _ h.2]; done)
def AV.eqB : Nat → AV → AV → Bool
  | 0, _, _ => false
  | n + 1, x, y => match x, y with
    | .data a, .data b => D.eqB 12 a b
    | .junk, .junk => true
    | .nils, .nils => true
    | .ptr o i, .ptr o' i' => decide (o = o') && decide (i = i')
    | .row o i, .row o' i' => decide (o = o') && decide (i = i')
    | .rref o a b c, .rref o' a' b' c' => decide (o = o') && (decide (a = a') && (decide (b = b') && decide (c = c')))
    | .agg a, .agg b => all2 (AV.eqB n) a b
    | .tup a, .tup b => all2 (AV.eqB n) a b
    | .fn f a, .fn g b => decide (f = g) && all2 (AV.eqB n) a b
    | .bnd f a, .bnd g b => decide (f = g) && all2 (AV.eqB n) a b
    | .mref o, .mref o' => decide (o = o')
    | _, _ => false
theorem AV.eqB_eq : ∀ n x y, AV.eqB n x y = true → x = y
  | 0, x, y, h => by simp [AV.eqB] at h
  | n + 1, x, y, h => by
    have ih := all2_eq (AV.eqB_eq n)
    cases x <;> cases y <;> simp only [AV.eqB, Bool.and_eq_true, decide_eq_true_eq] at h <;> first | (cases h; done) | rfl | (rw [D.eqB_eq _ _ _ h]; done) | (rw [h]; done) | (rw [h.1, h.2]; done) | (rw [h.1, h.2.1, h.2.2.1, h.2.2.2]; done) | (rw [ih _ _ h]; done) | (rw [h.1, ih _ _ h.2]; done)
def eqO : Option AV → Option AV → Bool
  | some x, some y => AV.eqB 12 x y
  | _, _ => false
theorem eqO_eq {x y : Option AV} (h : eqO x y = true) : x = y := by
  cases x <;> cases y <;> simp only [eqO] at h <;> first | (cases h; done) | rw [AV.eqB_eq _ _ _ h]
def same2B (P : Program) (Γ : FuncId → Option CSpec) (ops : Array Oper) (H H1 : Heap) (m : Nat) : Nat → List Oper → List AV → Bool
  | _, [], _ => true
  | i, o :: l, sl => (beforeB ops 8 m i || eqO (qval P Γ ops H1 sl o) (qval P Γ ops H sl o)) && match qval P Γ ops H sl o with
    | some x => same2B P Γ ops H H1 m (i + 1) l (putA sl o.dst x)
    | none => true
theorem same2B_sound {P : Program} {Γ : FuncId → Option CSpec} {ops : Array Oper} {H H1 : Heap} {m : Nat} : ∀ (l : List Oper) (i : Nat) (sl : List AV), same2B P Γ ops H H1 m i l sl = true → same2 P Γ ops H H1 m i l sl
  | [], i, sl, _ => trivial
  | o :: l, i, sl, h => by
    simp only [same2B, Bool.and_eq_true, Bool.or_eq_true] at h
    simp only [same2]
    refine ⟨h.1.imp id eqO_eq, ?_⟩
    have h2 := h.2
    split
    · rename_i x hx
      rw [hx] at h2
      exact same2B_sound l (i + 1) _ h2
    · trivial
def memN : List Nat → Nat → Bool
  | [], _ => false
  | x :: r, i => match Nat.beq x i with
    | true => true
    | false => memN r i
theorem memN_iff (i : Nat) : ∀ l, memN l i = true ↔ i ∈ l
  | [] => by simp [memN]
  | x :: r => by
    have ih := memN_iff i r
    unfold memN
    cases h : Nat.beq x i
    · have : x ≠ i := fun he => by rw [he, Nat.beq_refl] at h; cases h
      simp [ih, Ne.symm this]
    · simp [Nat.eq_of_beq_eq_true h]
def onOf (e : Edge) : Option Nat := match e.ground with
  | .textOnly _ => none
  | .gcOnly _ => none
  | _ => some e.on
theorem onOf_iff {e : Edge} {i : Nat} : onOf e = some i ↔ Region.binds .any e = true ∧ e.on = i := by
  unfold onOf Region.binds
  cases e.ground <;> simp <;> rfl
def onsOf (o : Oper) : List Nat := o.after.toList.filterMap onOf
theorem onsOf_iff {o : Oper} {i : Nat} : i ∈ onsOf o ↔ ∃ e ∈ o.after, Region.binds .any e = true ∧ e.on = i := by
  simp only [onsOf, List.mem_filterMap, onOf_iff, Array.mem_toList_iff]
def apartF (d : Option Nat) (l : List Nat) (d' : Option Nat) (l' : List Nat) : Bool := (match d with
    | some t => (match memN l' t with
      | true => false
      | false => match d' with
        | some u => (match Nat.beq u t with
          | true => false
          | false => true)
        | none => true)
    | none => true) && match d' with
    | some t => (match memN l t with
      | true => false
      | false => true)
    | none => true
def freeF (bs : List Nat) (d' : Option Nat) (l' : List Nat) : List (Nat × Option Nat × List Nat) → Option Bool
  | [] => some true
  | (i, d, l) :: r => match freeF bs d' l' r with
    | none => none
    | some b => match memN bs i with
      | true => some b
      | false => match apartF d l d' l' with
        | true => some false
        | false => none
def ltAll (j : Nat) : List Nat → Bool
  | [] => true
  | x :: r => match Nat.ble (x + 1) j with
    | true => ltAll j r
    | false => false
def forceOp {R : Type} (d : Option Nat) (k : Option Nat → R) : R := match d with
  | none => k none
  | some t => forceN t fun t => k (some t)
theorem forceOp_eq {R : Type} (d : Option Nat) (k : Option Nat → R) : forceOp d k = k d := by cases d <;> simp only [forceOp, forceN_eq]
def drawGo (ops : Array Oper) : Nat → List (Nat × Option Nat × List Nat) → List Oper → Nat → Option Nat
  | _, _, [], n1 => some n1
  | j, prev, o :: r, n1 => forceN j fun j => forceL forceN (onsOf o) fun bs => forceL forceN (o.looksAt ops) fun lk => forceOp o.dst fun d => match ltAll j bs with
    | true => match freeF bs d lk prev with
      | some true => drawGo ops (j + 1) ((j, d, lk) :: prev) r n1
      | some false => drawGo ops (j + 1) ((j, d, lk) :: prev) r (j + 1)
      | none => none
    | false => none
theorem ltAll_spec {j : Nat} : ∀ {l : List Nat}, ltAll j l = true → ∀ i ∈ l, i < j
  | [], _, i, hi => by simp at hi
  | x :: r, h, i, hi => by
    unfold ltAll at h
    split at h
    · rename_i hx
      rcases List.mem_cons.1 hi with rfl | hi
      · exact Nat.le_of_ble_eq_true hx
      · exact ltAll_spec h i hi
    · cases h
theorem apartF_spec {ops : Array Oper} {x y : Oper} (h : apartF x.dst (x.looksAt ops) y.dst (y.looksAt ops) = true) : x.apart ops y = true := by
  have nm : ∀ {l : List Nat} {t : Nat}, memN l t = false → t ∉ l := fun hf hm => by rw [(memN_iff _ _).2 hm] at hf; cases hf
  unfold apartF at h
  unfold Oper.apart
  simp only [Bool.and_eq_true] at h
  obtain ⟨h1, h2⟩ := h
  have e2 : (match y.dst with
   | some d => !(x.looksAt ops).contains d
   | none => true) = true := by
    split at h2
    · rename_i t ht
      split at h2
      · cases h2
      · rename_i hm; simp [ht, nm hm]
    · rename_i ht; simp [ht]
  have e1 : (match x.dst with
   | some d => !(y.looksAt ops).contains d && y.dst != some d
   | none => true) = true := by
    split at h1
    · rename_i t ht
      split at h1
      · cases h1
      · rename_i hm
        split at h1
        · rename_i u hu
          split at h1
          · cases h1
          · rename_i hb
            have : u ≠ t := fun he => by rw [he, Nat.beq_refl] at hb; cases hb
            simp [ht, hu, nm hm, this]
        · rename_i hu
          simp [ht, hu, nm hm]
    · rename_i ht; simp [ht]
  rw [Bool.and_eq_true]
  exact ⟨e1, e2⟩
theorem freeF_spec {bs l' : List Nat} {d' : Option Nat} : ∀ {prev : List (Nat × Option Nat × List Nat)} {b : Bool}, freeF bs d' l' prev = some b → ∀ i d l, (i, d, l) ∈ prev → i ∈ bs ∨ (b = false ∧ apartF d l d' l' = true)
  | [], b, _, i, d, l, hm => by simp at hm
  | (i, d, l) :: r, b, h, i', d2, l2, hm => by
    unfold freeF at h
    split at h
    · cases h
    · rename_i b' hb'
      have ih := freeF_spec hb'
      split at h
      · rename_i hmem
        simp only [Option.some.injEq] at h
        subst h
        rcases List.mem_cons.1 hm with he | hm
        · cases he; exact .inl ((memN_iff _ _).1 hmem)
        · exact ih i' d2 l2 hm
      · split at h
        · rename_i hap
          simp only [Option.some.injEq] at h
          subst h
          rcases List.mem_cons.1 hm with he | hm
          · cases he; exact .inr ⟨rfl, hap⟩
          · exact (ih i' d2 l2 hm).imp id fun h => ⟨rfl, h.2⟩
        · cases h
theorem drawGo_spec {ops : Array Oper} : ∀ (l : List Oper) (j : Nat) (prev : List (Nat × Option Nat × List Nat)) (n0 n1 : Nat), l = ops.toList.drop j → j ≤ ops.size → n0 ≤ j → (∀ i o, i < j → ops[i]? = some o → (i, o.dst, o.looksAt ops) ∈ prev) → drawGo ops j prev l n0 = some n1 →
    n0 ≤ n1 ∧ n1 ≤ ops.size ∧ ∀ j' oj, j ≤ j' → ops[j']? = some oj → backs oj j' = true ∧ ∀ i oi, i < j' → ops[i]? = some oi → edgeTo oj i = true ∨ (j' < n1 ∧ oi.apart ops oj = true)
  | [], j, prev, n0, n1, hl, hj, hn, hp, h => by
    simp only [drawGo, Option.some.injEq] at h
    subst h
    refine ⟨Nat.le_refl _, by omega, fun j' oj hjj ho => ?_⟩
    have h1 := congrArg List.length hl
    have h2 := (Array.getElem?_eq_some_iff.1 ho).1
    simp at h1
    omega
  | o :: l, j, prev, n0, n1, hl, hj, hn, hp, h => by
    have hjlt : j < ops.size := by
      have := congrArg List.length hl
      simp at this
      omega
    have hoj : ops[j]? = some o := by
      have h1 : (ops.toList.drop j)[0]? = some o := by rw [← hl]; rfl
      simpa using h1
    have hrest : l = ops.toList.drop (j + 1) := by
      have := congrArg List.tail hl
      simpa [List.tail_drop] using this
    have hp' : ∀ i o', i < j + 1 → ops[i]? = some o' → (i, o'.dst, o'.looksAt ops) ∈ (j, o.dst, o.looksAt ops) :: prev := fun i o' hi ho' => by
      by_cases hij : i = j
      · subst hij; rw [hoj] at ho'; cases ho'; exact List.mem_cons_self
      · exact List.mem_cons_of_mem _ (hp i o' (by omega) ho')
    simp only [drawGo, forceN_eq, forceL_eq (forceN_eq (R := Option Nat)), forceOp_eq] at h
    split at h
    · rename_i hlt
      have hback : backs o j = true := by
        simp only [backs, Array.all_eq_true_iff_forall_mem, Bool.or_eq_true, Bool.not_eq_true', decide_eq_true_eq]
        intro e he
        by_cases hb : Region.binds .any e = true
        · exact .inr (ltAll_spec hlt e.on (onsOf_iff.2 ⟨e, he, hb, rfl⟩))
        · exact .inl (by simpa using hb)
      have hfree : ∀ b, freeF (onsOf o) o.dst (o.looksAt ops) prev = some b → ∀ i oi, i < j → ops[i]? = some oi → edgeTo o i = true ∨ (b = false ∧ oi.apart ops o = true) := fun b hb i oi hi hoi => by
        rcases freeF_spec hb i _ _ (hp i oi hi hoi) with h3 | ⟨h3, h4⟩
        · refine .inl ?_
          obtain ⟨e, he, hbd, hon⟩ := onsOf_iff.1 h3
          simp only [edgeTo, List.any_eq_true, Bool.and_eq_true, beq_iff_eq]
          exact ⟨e, by simpa using he, hbd, hon⟩
        · exact .inr ⟨h3, apartF_spec h4⟩
      split at h
      · rename_i hf
        obtain ⟨h1, h2, h3⟩ := drawGo_spec l (j + 1) _ n0 n1 hrest hjlt (by omega) hp' h
        refine ⟨h1, h2, fun j' oj hjj ho => ?_⟩
        by_cases he : j' = j
        · subst he
          rw [hoj] at ho
          cases ho
          refine ⟨hback, fun i oi hi hoi => ?_⟩
          rcases hfree true hf i oi hi hoi with h4 | ⟨h4, _⟩
          · exact .inl h4
          · cases h4
        · exact h3 j' oj (by omega) ho
      · rename_i hf
        obtain ⟨h1, h2, h3⟩ := drawGo_spec l (j + 1) _ (j + 1) n1 hrest hjlt (Nat.le_refl _) hp' h
        refine ⟨by omega, h2, fun j' oj hjj ho => ?_⟩
        by_cases he : j' = j
        · subst he
          rw [hoj] at ho
          cases ho
          refine ⟨hback, fun i oi hi hoi => ?_⟩
          rcases hfree false hf i oi hi hoi with h4 | ⟨_, h4⟩
          · exact .inl h4
          · exact .inr ⟨by omega, h4⟩
        · exact h3 j' oj (by omega) ho
      · cases h
    · cases h
theorem drawGo_sound {ops : Array Oper} {n1 : Nat} (h : drawGo ops 0 [] ops.toList 0 = some n1) : drawOK ops n1 = true := by
  obtain ⟨_, h2, h3⟩ := drawGo_spec ops.toList 0 [] 0 n1 rfl (Nat.zero_le _) (Nat.le_refl _) (fun i o hi => by omega) h
  simp only [drawOK, Bool.and_eq_true, decide_eq_true_eq, List.all_eq_true, List.mem_range]
  refine ⟨h2, fun j hj => ?_⟩
  obtain ⟨oj, hoj⟩ : ∃ o, ops[j]? = some o := ⟨_, Array.getElem?_eq_getElem hj⟩
  obtain ⟨h4, h5⟩ := h3 j oj (Nat.zero_le _) hoj
  simp only [hoj, Bool.and_eq_true, List.all_eq_true, List.mem_range, h4, true_and]
  intro i hi
  obtain ⟨oi, hoi⟩ : ∃ o, ops[i]? = some o := ⟨_, Array.getElem?_eq_getElem (by omega)⟩
  rcases h5 i oi hi hoi with h6 | ⟨h6, h7⟩
  · simp [h6]
  · simp [hoi, h6, h7]
def tryDraw (P : Program) (Γ : FuncId → Option CSpec) (ops : Array Oper) (sl : List AV) (H : Heap) (n1 : Nat) : Option (List AV × Heap) := match qruns P Γ ops H (ops.toList.take n1) sl with
  | some sl1 => runOps P Γ true ops (H.next + n1) (ops.toList.drop n1) sl1 H
  | none => none
def tryMix (P : Program) (Γ : FuncId → Option CSpec) (ops : Array Oper) (sl : List AV) (H : Heap) (n0 : Nat) : Option (List AV × Heap) :=
  match qruns P Γ ops H (ops.toList.take n0) sl, ops[n0]? with
  | some sl1, some om => match runOp P Γ true (H.next + n0) ops om sl1 H with
    | some (sl2, H2) => if decide (nextK (H.next + n0) H2 ≤ H.next + n0 + 1) && same2B P Γ ops H (H2.bump (H.next + n0 + 1)) n0 0 (ops.toList.take n0) sl then
        runOps P Γ true ops (H.next + n0 + 1) (ops.toList.drop (n0 + 1)) sl2 (H2.bump (H.next + n0 + 1))
      else none
    | none => none
  | _, _ => none
def draws (P : Program) (Γ : FuncId → Option CSpec) (ops : Array Oper) (sl : List AV) (H : Heap) : Option (List AV × Heap) := match drawGo ops 0 [] ops.toList 0 with
  | some 0 => tryDraw P Γ ops sl H 0
  | some (n0 + 1) => match tryDraw P Γ ops sl H (n0 + 1) with
    | some r => some r
    | none => tryMix P Γ ops sl H n0
  | none => none
def acode (P : Program) (Γ : FuncId → Option CSpec) (b : Nat) : Nat → Code → List AV → Heap → Option (Exit × List AV × Heap)
  | 0, _, _, _ => none
  | n + 1, code, sl, H => match code with
    | .skip => some (.normal, sl, H)
    | .label _ => some (.normal, sl, H)
    | .exit id => some (.exit id, sl, H)
    | .ret => some (.ret, sl, H)
    | .seq x y => match acode P Γ b n x sl H with
      | some (.normal, sl', H') => acode P Γ b n y sl' H'
      | r => r
    | .cond t x y => match aev sl t with
      | .data (.bool true) => acode P Γ b n x sl H
      | .data (.bool false) => acode P Γ b n y sl H
      | _ => none
    | .block id x => match acode P Γ b n x sl H with
      | some (.exit id', sl', H') => if id' = id then some (.normal, sl', H') else some (.exit id', sl', H')
      | r => r
    | .loop x => match acode P Γ b n x sl H with
      | some (.normal, sl', H') => forceS sl' (gc b sl' H') fun sl' H' => acode P Γ b n (.loop x) sl' H'
      | r => r
    | .region _ ops false => match runOps P Γ true ops H.next ops.toList sl H with
      | some (sl', H') => forceS sl' H' fun sl' H' => some (.normal, sl', H')
      | none => none
    | .region _ ops true => match draws P Γ ops sl H with
      | some (sl', H') => forceS sl' H' fun sl' H' => some (.normal, sl', H')
      | none => none
    | _ => none
section
variable {P : Program} {Γ : FuncId → Option CSpec} {c : Ctx}
abbrev IsA (e : Exit) (sl : List AV) (H : Heap) (e' : Exit) (sl' : List AV) (H' : Heap) : Prop := e' = e ∧ sl' = sl ∧ H' = H
theorem draws_sound {id : Nat} {ops : Array Oper} {sl : List AV} {H : Heap} (hmix : P.follows .mixedOrders = true) (hΓ : ∀ f s, Γ f = some s → SpecOK P f s) {sl' : List AV} {H' : Heap} (h : draws P Γ ops sl H = some (sl', H')) :
    awp P c (.region id ops true) (IsA .normal sl' H') sl H := by
  have one : ∀ n1, drawOK ops n1 = true → tryDraw P Γ ops sl H n1 = some (sl', H') → awp P c (.region id ops true) (IsA .normal sl' H') sl H := fun n1 hd ht => by
    simp only [tryDraw] at ht
    split at ht
    · rename_i sl1 h1
      exact awp_draw n1 hmix hΓ hd h1 ht ⟨rfl, rfl, rfl⟩
    · cases ht
  unfold draws at h
  split at h
  · rename_i hg
    exact one 0 (drawGo_sound hg) h
  · rename_i n0 hg
    have hd := drawGo_sound hg
    split at h
    · rename_i r ht
      simp only [Option.some.injEq] at h
      subst h
      exact one _ hd ht
    · rename_i hno
      simp only [tryMix] at h
      split at h
      · rename_i sl1 om h1 hom
        split at h
        · rename_i sl2 H2 hm
          split at h
          · rename_i hc
            simp only [Bool.and_eq_true, decide_eq_true_eq] at hc
            exact awp_mix n0 hmix hΓ hd rfl h1 hom hm hc.1 (same2B_sound _ _ _ hc.2) h ⟨rfl, rfl, rfl⟩
          · cases h
        · cases h
      · cases h
  · cases h
def awpL (P : Program) (c : Ctx) (x : Code) (Q : Exit → List AV → Heap → Prop) (sl : List AV) (H : Heap) : Prop :=
  ∀ θ w a, StW c H θ w sl a → ∀ (b : Frame) (k : List Item) (cs : List Frame), ∃ e a' w', (∃ sl' H' θ', Q e sl' H' ∧ StW c H' θ' w' sl' a' ∧ Kept c w w' ∧ Evo c.base H θ H' θ') ∧ Arrives P (lone (b.at a (.code x :: .inLoop x :: k)) cs w) b k cs e a' w'
theorem awpL_weak {x : Code} {Q : Exit → List AV → Heap → Prop} {sl sl' : List AV} {H H' : Heap} (h : Weak c.base sl H sl' H') (k : awpL P c x Q sl' H') : awpL P c x Q sl H := fun θ w a hs b it cs => by
  obtain ⟨θ', h1, e1⟩ := h c θ w a rfl hs
  obtain ⟨e, a', w', ⟨sl2, H2, θ2, q, s, kk, e2⟩, harr⟩ := k θ' w a h1 b it cs
  exact ⟨e, a', w', ⟨sl2, H2, θ2, q, s, kk, e1.trans e2⟩, harr⟩
theorem awp_of_L {x : Code} {Q : Exit → List AV → Heap → Prop} {sl : List AV} {H : Heap} (h : awpL P c x Q sl H) : awp P c (.loop x) Q sl H := fun θ w a hs b k cs => by
  obtain ⟨e, a', w', hq, harr⟩ := h θ w a hs b k cs
  exact ⟨e, a', w', hq, .of_steps (.one step_loop) harr⟩
theorem awpL_once {x : Code} {Q : Exit → List AV → Heap → Prop} {sl : List AV} {H : Heap} (h : awp P c x (fun e sl' H' => match e with
    | .normal => awpL P c x Q sl' H'
    | e => Q e sl' H') sl H) : awpL P c x Q sl H := fun θ w a hs b k cs => by
  obtain ⟨e, a1, w2, hq, harr⟩ := h θ w a hs b (.inLoop x :: k) cs
  obtain ⟨sl', H', θ', q, s, kk, vv⟩ := hq
  cases e with
  | normal =>
    obtain ⟨e2, a2, w3, ⟨s3, H3, θ3, q3, hs3, k3, v3⟩, harr2⟩ := q θ' w2 a1 s b k cs
    exact ⟨e2, a2, w3, ⟨s3, H3, θ3, q3, hs3, kk.trans k3, vv.trans v3⟩, .of_steps (Steps.trans harr (.one step_inLoop)) harr2⟩
  | exit id => exact ⟨_, a1, w2, ⟨sl', H', θ', q, s, kk, vv⟩, .pass (x := .inLoop x) rfl (fun _ _ => .inl (by simp)) harr⟩
  | goto l => exact ⟨_, a1, w2, ⟨sl', H', θ', q, s, kk, vv⟩, .pass (x := .inLoop x) rfl (fun _ _ => .inl (by simp)) harr⟩
  | ret => exact ⟨_, a1, w2, ⟨sl', H', θ', q, s, kk, vv⟩, .pass (x := .inLoop x) rfl (fun _ _ => .inl (by simp)) harr⟩
  | panic ch => exact ⟨_, a1, w2, ⟨sl', H', θ', q, s, kk, vv⟩, .pass (x := .inLoop x) rfl (fun _ _ => .inl (by simp)) harr⟩
  | outgrown => exact ⟨_, a1, w2, ⟨sl', H', θ', q, s, kk, vv⟩, .pass (x := .inLoop x) rfl (fun _ _ => .inl (by simp)) harr⟩
mutual
theorem aloop_sound (hmix : P.follows .mixedOrders = true) (hΓ : ∀ f s, Γ f = some s → SpecOK P f s) : ∀ (n : Nat) (x : Code) (sl : List AV) (H : Heap) (e : Exit) (sl' : List AV) (H' : Heap), acode P Γ c.base n (.loop x) sl H = some (e, sl', H') →
    awpL P c x (IsA e sl' H') sl H
  | 0, x, sl, H, e, sl', H', h => by simp [acode] at h
  | n + 1, x, sl, H, e, sl', H', h => by
    simp only [acode, forceS_eq] at h
    refine awpL_once ?_
    split at h
    · rename_i sl1 H1 h1
      refine awp_mono (acode_sound hmix hΓ n x sl H _ _ _ h1) ?_
      rintro e2 s2 H2 ⟨rfl, rfl, rfl⟩
      exact awpL_weak (Weak.keep _) (aloop_sound hmix hΓ n x _ _ _ _ _ h)
    · rename_i hne
      refine awp_mono (acode_sound hmix hΓ n x sl H _ _ _ h) ?_
      rintro e2 s2 H2 ⟨rfl, rfl, rfl⟩
      cases e2 with
      | normal => exact absurd h (hne _ _)
      | _ => exact ⟨rfl, rfl, rfl⟩
theorem acode_sound (hmix : P.follows .mixedOrders = true) (hΓ : ∀ f s, Γ f = some s → SpecOK P f s) : ∀ (n : Nat) (code : Code) (sl : List AV) (H : Heap) (e : Exit) (sl' : List AV) (H' : Heap), acode P Γ c.base n code sl H = some (e, sl', H') →
    awp P c code (IsA e sl' H') sl H
  | 0, code, sl, H, e, sl', H', h => by simp [acode] at h
  | n + 1, code, sl, H, e, sl', H', h => by
    cases code with
    | skip => simp only [acode, Option.some.injEq, Prod.mk.injEq] at h; obtain ⟨rfl, rfl, rfl⟩ := h; exact awp_skip ⟨rfl, rfl, rfl⟩
    | label l => simp only [acode, Option.some.injEq, Prod.mk.injEq] at h; obtain ⟨rfl, rfl, rfl⟩ := h; exact awp_label ⟨rfl, rfl, rfl⟩
    | exit id => simp only [acode, Option.some.injEq, Prod.mk.injEq] at h; obtain ⟨rfl, rfl, rfl⟩ := h; exact awp_exit ⟨rfl, rfl, rfl⟩
    | ret => simp only [acode, Option.some.injEq, Prod.mk.injEq] at h; obtain ⟨rfl, rfl, rfl⟩ := h; exact awp_ret ⟨rfl, rfl, rfl⟩
    | seq x y =>
      simp only [acode] at h
      refine awp_seq ?_
      split at h
      · rename_i sl1 H1 h1
        refine awp_mono (acode_sound hmix hΓ n x sl H _ _ _ h1) ?_
        rintro e2 s2 H2 ⟨rfl, rfl, rfl⟩
        exact acode_sound hmix hΓ n y _ _ _ _ _ h
      · rename_i hne
        refine awp_mono (acode_sound hmix hΓ n x sl H _ _ _ h) ?_
        rintro e2 s2 H2 ⟨rfl, rfl, rfl⟩
        cases e2 with
        | normal => exact absurd h (hne _ _)
        | _ => exact ⟨rfl, rfl, rfl⟩
    | cond t x y =>
      simp only [acode] at h
      split at h
      · rename_i ht; exact awp_cond_t ht (acode_sound hmix hΓ n x _ _ _ _ _ h)
      · rename_i ht; exact awp_cond_f ht (acode_sound hmix hΓ n y _ _ _ _ _ h)
      · cases h
    | block id x =>
      simp only [acode] at h
      refine awp_block ?_
      split at h
      · rename_i id' sl1 H1 h1
        refine awp_mono (acode_sound hmix hΓ n x sl H _ _ _ h1) ?_
        rintro e2 s2 H2 ⟨rfl, rfl, rfl⟩
        simp only [inBlockA]
        split at h
        · rename_i hid
          rw [if_pos hid]
          simp only [Option.some.injEq, Prod.mk.injEq] at h
          obtain ⟨rfl, rfl, rfl⟩ := h
          exact ⟨rfl, rfl, rfl⟩
        · rename_i hid
          rw [if_neg hid]
          simp only [Option.some.injEq, Prod.mk.injEq] at h
          obtain ⟨rfl, rfl, rfl⟩ := h
          exact ⟨rfl, rfl, rfl⟩
      · rename_i hne
        refine awp_mono (acode_sound hmix hΓ n x sl H _ _ _ h) ?_
        rintro e2 s2 H2 ⟨rfl, rfl, rfl⟩
        cases e2 with
        | exit id' => exact absurd h (hne _ _ _)
        | _ => exact ⟨rfl, rfl, rfl⟩
    | loop x => exact awp_of_L (aloop_sound hmix hΓ (n + 1) x sl H e sl' H' h)
    | region id ops draw =>
      cases draw with
      | false =>
        simp only [acode, forceS_eq] at h
        split at h
        · rename_i sl1 H1 h1
          simp only [Option.some.injEq, Prod.mk.injEq] at h
          obtain ⟨rfl, rfl, rfl⟩ := h
          exact awp_region hΓ h1 ⟨rfl, rfl, rfl⟩
        · cases h
      | true =>
        simp only [acode, forceS_eq] at h
        split at h
        · rename_i sl1 H1 h1
          simp only [Option.some.injEq, Prod.mk.injEq] at h
          obtain ⟨rfl, rfl, rfl⟩ := h
          exact draws_sound hmix hΓ h1
        · cases h
    | _ => simp [acode] at h
end
end
end Go.Ab
namespace Go.Ab
open Go Go.RowKit
theorem awN {P : Program} {Γ : FuncId → Option CSpec} {c : Ctx} {id n m : Nat} {ops : Array Oper} {sl sl' : List AV} {tab tab' : List (Nat × Obj)} {Q : Exit → List AV → Heap → Prop} (hΓ : ∀ f s, Γ f = some s → SpecOK P f s) (h : runOps P Γ true ops n ops.toList sl ⟨tab, n⟩ = some (sl', ⟨tab', m⟩)) (_ : True) (hQ : Q .normal sl' ⟨tab', m⟩) : awp P c (.region id ops false) Q sl ⟨tab, n⟩ := awp_regN hΓ h hQ
theorem Weak.arrRow {b o : Nat} {sl : List AV} {H : Heap} {e : TypeId} {sz n : Nat} {cs : List AV} {l : List D} (hg : H.get o = some (.arr e sz n cs)) (hc : ConvL H cs ((flat l).map .data)) (hl : l.length = n) (hall : ∀ d ∈ l, d.cells.length = sz) (hone : ∀ d ∈ flat l, d.one = true) :
    Weak b sl H sl (H.set o (.row e sz l)) := fun c θ w a hb hs => by
  obtain ⟨hlen, hat⟩ := hc.at
  simp only [List.length_map] at hlen
  have hT := hs.st.sim.turn (w' := w) (k := o) (x0 := .arr e sz n cs) (x := .row e sz l) (val := θ o) hg rfl rfl (fun b _ _ => rfl) (Nat.le_refl _) (fun b hb => .inl hb) ⟨rfl, rfl, by omega⟩ (fun _ => rfl)
    (fun hvr => by
      obtain ⟨h1, h2, vs, h3, h4, h5⟩ := hs.st.sim.objs o _ hg
      refine ⟨h1, hall, hone, vs, by rw [hl]; exact h3, h4, fun i hi u hu => ?_⟩
      have hi' : i < cs.length := by omega
      obtain ⟨h6, _⟩ := h5 i hi' u hu
      have h7 := hvr _ _ ((hat i (by simpa using hi) hi').sound hs.st.sim h6)
      rw [List.getElem_map] at h7
      exact h7.data_inv)
  refine ⟨updθ θ o (θ o), ⟨⟨hT.1, hs.st.defers, hs.st.size, fun i y u h1 h2 => hT.2.1 y u (hs.st.vals i y u h1 h2)⟩, fun p hp => ?_, hs.base⟩, hT.2.2.evo (by rw [← hb]; exact hs.base)⟩
  rw [Heap.get_set] at hp
  by_cases h : p = o
  · subst h; exact hs.wf p (by rw [hg]; rfl)
  · rw [if_neg h] at hp; exact hs.wf p hp
end Go.Ab
