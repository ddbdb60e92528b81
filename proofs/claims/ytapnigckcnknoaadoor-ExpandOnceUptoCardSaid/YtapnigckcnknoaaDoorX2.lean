/-
  One text of the proof (own work): contracts of functions of the program, by the abstract machine.
-/
import Derived.Test.YtapnigckcnknoaaDoorX1
set_option linter.unusedVariables false
set_option linter.unusedSimpArgs false
namespace Go.Ab
open Go Go.RowKit
def Yields (P : Program) (c : Ctx) (o : Oper) (a : Act) (w : World) (sl : List AV) (H : Heap) (θ : Nat → Value) (r : AV) (H' : Heap) : Prop :=
  ∀ (K : Act → World → Prop) (Q : Exit → Act → World → Prop),
    (∀ v w' θ', VR H' θ' w' (vis c H' θ' w') r v → St c H' θ' w' sl a → Kept c w w' → HLe H θ H' θ' → K (a.put o.dst v) w') → o.wp P a w K Q
section
variable {P : Program} {c : Ctx} {H H' : Heap} {θ θ' : Nat → Value} {w w' : World} {sl : List AV} {a : Act} {o : Oper} {r : AV}
theorem Yields.value {v : Value} (hr : (execOp a.eval o).run P w = .ok (.value v) w') (hv : VR H' θ' w' (vis c H' θ' w') r v) (hs : St c H' θ' w' sl a) (hk : Kept c w w') (hl : HLe H θ H' θ') : Yields P c o a w sl H θ r H' := by
  intro K Q h
  unfold Oper.wp
  rw [hr]
  exact h v w' θ' hv hs hk hl
theorem Yields.skip (hr : (execOp a.eval o).run P w = .ok .skip w') (hs : St c H' θ' w' sl a) (hk : Kept c w w') (hl : HLe H θ H' θ') : Yields P c o a w sl H θ .junk H' := by
  intro K Q h
  unfold Oper.wp
  rw [hr]
  exact h undef w' θ' (.junk _) hs hk hl
theorem Yields.read {v : Value} (hs : St c H θ w sl a) (hr : (execOp a.eval o).run P w = .ok (.value v) w) (hv : VR H θ w (vis c H θ w) r v) : Yields P c o a w sl H θ r H :=
  .value hr hv hs (Kept.refl c w) (HLe.refl H θ)
theorem y_move (hs : St c H θ w sl a) {x : Operand} (ho : o.op = .move x ∨ o.op = .assign x) : Yields P c o a w sl H θ (aev sl x) H := by
  refine .read hs (v := a.eval x) ?_ (aev_sound hs x)
  rcases ho with ho | ho <;> simp [execOp, ho]
theorem y_nil (hs : St c H θ w sl a) {x : Operand} (ho : o.op = .nilCheck x) (h : anil H (aev sl x) = some r) : Yields P c o a w sl H θ r H := by
  have hx := aev_sound hs x
  unfold anil at h
  split at h
  · rename_i ob off he
    rw [he] at hx
    split at h
    · rename_i cs hg
      simp only [Option.some.injEq] at h
      subst h
      generalize hv : a.eval x = v at hx
      cases hx with
      | ptr _ _ _ hv1 hr hh =>
        obtain ⟨b, _, rfl⟩ := hh cs hg
        refine .read hs (v := .pointer (some ⟨b, off, none⟩)) ?_ (.ptr _ _ _ hv1 hr hh)
        simp [execOp, ho, hv]
    · cases h
  · rename_i cs he
    rw [he] at hx
    simp only [Option.some.injEq] at h
    subst h
    have hd := hx.data_inv
    generalize hv : a.eval x = v at hx hd
    obtain ⟨ad, u, rfl, _⟩ := hd.ref_inv
    refine .read hs (v := .pointer (some ad)) ?_ hx
    simp [execOp, ho, hv]
  · rename_i ob m i off he
    rw [he] at hx
    split at h
    · rename_i e sz l hg
      split at h
      · rename_i hm
        simp only [Option.some.injEq] at h
        subst h
        generalize hv : a.eval x = v at hx
        cases hx with
        | rref _ _ _ _ _ hv1 hr hp =>
          obtain ⟨g, cap, hθ, rfl⟩ := (hp _ _ _ hg rfl rfl).2 hm
          refine .read hs ?_ (.rref _ _ _ _ _ rfl hr hp)
          simp [execOp, ho, hv]
      · cases h
    · rename_i e sz k cs hg
      split at h
      · rename_i hm
        simp only [Option.some.injEq] at h
        subst h
        generalize hv : a.eval x = v at hx
        cases hx with
        | rref _ _ _ _ _ hv1 hr hp =>
          obtain ⟨g, cap, hθ, rfl⟩ := (hp _ _ _ hg rfl rfl).2 hm
          refine .read hs ?_ (.rref _ _ _ _ _ rfl hr hp)
          simp [execOp, ho, hv]
      · cases h
    · cases h
  · cases h
theorem y_pick (hs : St c H θ w sl a) {x y z : Operand} {b : Bool} (ho : o.op = .pick x y z) (hb : aev sl x = .data (.bool b)) : Yields P c o a w sl H θ (if b then aev sl y else aev sl z) H := by
  have h1 := aev_sound hs x
  rw [hb] at h1
  have h2 := h1.data_inv.bool_eq
  refine .read hs (v := if b then a.eval y else a.eval z) ?_ ?_
  · simp [execOp, ho, h2, asBool]
  · cases b
    · exact aev_sound hs z
    · exact aev_sound hs y
theorem add_box (hs : St c H θ w sl a) {k : Nat} (hk : ¬ H.ref k) {e : TypeId} {x : AV} {v : Value} {cs : List AV} (hx : VR H θ w (vis c H θ w) x v) (hc : x.cells = some cs) :
    ∃ θ', VR (H.set k (.box cs)) θ' (w.alloc (.cells v.cells e)) (vis c (H.set k (.box cs)) θ' (w.alloc (.cells v.cells e))) (.ptr k 0) (.pointer (some ⟨w.heap.size, 0, none⟩)) ∧
      St c (H.set k (.box cs)) θ' (w.alloc (.cells v.cells e)) sl a ∧ Kept c w (w.alloc (.cells v.cells e)) ∧ HLe H θ (H.set k (.box cs)) θ' := by
  obtain ⟨hz, hcs⟩ := cells_sound hx hc
  have h := hs.add (w' := w.alloc (.cells v.cells e)) (k := k) (x := .box cs) (val := .pointer (some ⟨w.heap.size, 0, none⟩)) hk
    (fun b hb => Below.heap_alloc w _ b hb) (by simp) (fun b hb => by simp [blk] at hb; omega)
    (fun hvr => ⟨w.heap.size, e, v.cells, rfl, heap_alloc_new w _, hz, .inl hs.sim.size, fun i hi u hu => ⟨hvr _ _ (hcs i hi u hu).1, (hcs i hi u hu).2⟩⟩)
  refine ⟨_, ?_, h.1, ⟨rfl, rfl, rfl, by simp, fun b hb _ => Below.heap_alloc w _ b (Nat.lt_of_lt_of_le hb hs.sim.size)⟩, h.2.2⟩
  refine .ptr k 0 _ rfl (.inr (by rw [Heap.get_set, if_pos rfl]; rfl)) fun cs' hcs' => ⟨w.heap.size, by simp [updθ], rfl⟩
theorem y_box (hs : St c H θ w sl a) {k : Nat} (hk : ¬ H.ref k) {e : TypeId} {x : Operand} {cs : List AV} (ho : o.op = .box e x) (hc : (aev sl x).cells = some cs) : Yields P c o a w sl H θ (.ptr k 0) (H.set k (.box cs)) := by
  obtain ⟨θ', h1, h2, h3, h4⟩ := add_box hs hk (e := e) (aev_sound hs x) hc
  refine .value ?_ h1 h2 h3 h4
  simp [execOp, ho, Instr.box, newVar, newRow]
theorem y_alloc (hs : St c H θ w sl a) {k : Nat} (hk : ¬ H.ref k) {e : TypeId} {z : Value} {cs : List AV} (ho : o.op = .alloc e) (hz : tzero P e = some z) (hc : (cav z).cells = some cs) : Yields P c o a w sl H θ (.ptr k 0) (H.set k (.box cs)) := by
  obtain ⟨θ', h1, h2, h3, h4⟩ := add_box hs hk (e := e) (cav_sound z) hc
  refine .value ?_ h1 h2 h3 h4
  simp only [tzero, Option.bind_eq_some_iff] at hz
  obtain ⟨i, hi, hzz⟩ := hz
  simp [execOp, ho, Instr.alloc, zeroValue, typeInfo, hi, hzz, newVar, newRow]
theorem run_isAgg {t : TypeId} {b : Bool} (h : tagg P t = some b) (w : World) : (isAgg t).run P w = .ok b w := by
  unfold tagg at h
  unfold isAgg
  cases hu : P.underlying t with
  | none => rw [hu] at h; cases h
  | some d =>
    rw [hu] at h
    simp only [Sem.run_bind, run_underlying hu, Result.andThen_ok]
    cases d <;> simp at h <;> subst h <;> rfl
theorem run_sizeOf' {t : TypeId} {n : Nat} (h : tsize P t = some n) (w : World) : (sizeOf t).run P w = .ok n w := by
  simp only [tsize, Option.map_eq_some_iff] at h
  obtain ⟨i, hi, hz⟩ := h
  simp [sizeOf, typeInfo, hi, hz]
theorem run_loadVar_agg {t : TypeId} {n : Nat} (ht : tagg P t = some true) (hn : tsize P t = some n) {p : Addr} {f : Nat → Value} (h : ∀ j, j < n → w.cell? (p.add j) = some (f j)) :
    (loadVar t p).run P w = .ok (.agg ((List.range n).map f).toArray) w := by
  simp [loadVar, run_isAgg ht, run_sizeOf' hn, run_loadCells w p n f h]
theorem run_loadVar_one {t : TypeId} (ht : tagg P t = some false) {p : Addr} {v : Value} (h : w.cell? (p.add 0) = some v) : (loadVar t p).run P w = .ok v w := by
  simp only [Addr.add, if_true] at h
  simp [loadVar, run_isAgg ht, h]
theorem takeN_some {α : Type} {n : Nat} {l r : List α} (h : takeN n l = some r) : n ≤ l.length ∧ r = l.take n := by
  induction n generalizing l r with
  | zero => simp only [takeN, Option.some.injEq] at h; subst h; simp
  | succ n ih =>
    cases l with
    | nil => cases h
    | cons x l =>
      simp only [takeN] at h
      split at h
      · rename_i r' h1
        simp only [Option.some.injEq] at h
        subst h
        obtain ⟨h2, rfl⟩ := ih h1
        exact ⟨by simp; omega, by simp⟩
      · cases h
theorem loadD_sound {t : TypeId} {cs : List D} {x : AV} (h : loadD P t cs = some x) {p : Addr} {u : Nat → Value} {B : Nat → Prop} (ho : ∀ d ∈ cs, d.one = true)
    (hm : ∀ i, i < cs.length → w.cell? (p.add i) = some (u i)) (hd : ∀ i (hi : i < cs.length), DR w B (cs[i]) (u i)) :
    ∃ v, (loadVar t p).run P w = .ok v w ∧ VR H θ w B x v := by
  unfold loadD at h
  split at h
  · rename_i ht
    split at h
    · rename_i n hn
      split at h
      · rename_i l hl
        simp only [Option.some.injEq] at h
        subst h
        obtain ⟨h1, rfl⟩ := takeN_some hl
        refine ⟨_, run_loadVar_agg ht hn (f := u) (fun j hj => hm j (by omega)), .data _ _ (.agg _ _ u (by simp; omega) (fun d hd' => ho d (List.mem_of_mem_take hd')) (fun i hi => ?_) (fun i hi => ?_))⟩
        · simp only [List.length_take] at hi
          simp [show i < n by omega]
        · simp only [List.length_take] at hi
          rw [List.getElem_take]
          exact hd i (by omega)
      · cases h
    · cases h
  · rename_i ht
    split at h
    · rename_i d r
      simp only [Option.some.injEq] at h
      subst h
      exact ⟨u 0, run_loadVar_one ht (hm 0 (by simp)), .data _ _ (hd 0 (by simp))⟩
    · cases h
  · cases h
theorem loadA_sound {t : TypeId} {cs : List AV} {x : AV} (h : loadA P t cs = some x) {p : Addr} {u : Nat → Value} {B : Nat → Prop}
    (hm : ∀ i, i < cs.length → w.cell? (p.add i) = some (u i)) (hd : ∀ i (hi : i < cs.length), VR H θ w B (cs[i]) (u i) ∧ (u i).oneCell' = true) :
    ∃ v, (loadVar t p).run P w = .ok v w ∧ VR H θ w B x v := by
  unfold loadA at h
  split at h
  · rename_i ht
    split at h
    · rename_i n hn
      split at h
      · rename_i l hl
        simp only [Option.some.injEq] at h
        subst h
        obtain ⟨h1, rfl⟩ := takeN_some hl
        refine ⟨_, run_loadVar_agg ht hn (f := u) (fun j hj => hm j (by omega)), mkAgg_sound (.agg _ _ u (by simp; omega) (fun i hi => ?_) (fun i hi => ?_))⟩
        · simp only [List.length_take] at hi
          exact ⟨by simp [show i < n by omega], (hd i (by omega)).2⟩
        · simp only [List.length_take] at hi
          rw [List.getElem_take]
          exact (hd i (by omega)).1
      · cases h
    · cases h
  · rename_i ht
    split at h
    · rename_i d r
      simp only [Option.some.injEq] at h
      subst h
      exact ⟨u 0, run_loadVar_one ht (hm 0 (by simp)), (hd 0 (by simp)).1⟩
    · cases h
  · cases h
theorem box_cells (hs : HSim c H θ w) {o : Nat} {cs : List AV} (hg : H.get o = some (.box cs)) :
    ∃ b e vs, θ o = .pointer (some ⟨b, 0, none⟩) ∧ w.heap[b]? = some (.cells vs e (0, 0)) ∧ vs.size = cs.length ∧ (c.n0 ≤ b ∨ c.Init b) ∧
      ∀ i (hi : i < cs.length) u, vs[i]? = some u → VR H θ w (vis c H θ w) (cs[i]) u ∧ u.oneCell' = true := hs.objs o _ hg
theorem row_cells (hs : HSim c H θ w) {o : Nat} {e : TypeId} {sz : Nat} {l : List D} (hg : H.get o = some (.row e sz l)) :
    0 < sz ∧ (∀ d ∈ l, d.cells.length = sz) ∧ (∀ d ∈ flat l, d.one = true) ∧ ∃ vs, ownsM w 0 e sz (θ o) l.length vs ∧ (∀ b, blk (θ o) = some b → c.n0 ≤ b ∨ c.Init b) ∧
      ∀ i (hi : i < (flat l).length) u, vs[i]? = some u → DR w (vis c H θ w) ((flat l)[i]) u := hs.objs o _ hg
theorem arr_cells (hs : HSim c H θ w) {o : Nat} {e : TypeId} {sz n : Nat} {cs : List AV} (hg : H.get o = some (.arr e sz n cs)) :
    0 < sz ∧ cs.length = n * sz ∧ ∃ vs, ownsM w 0 e sz (θ o) n vs ∧ (∀ b, blk (θ o) = some b → c.n0 ≤ b ∨ c.Init b) ∧
      ∀ i (hi : i < cs.length) u, vs[i]? = some u → VR H θ w (vis c H θ w) (cs[i]) u ∧ u.oneCell' = true := hs.objs o _ hg
theorem flat_getElem {l : List D} {sz : Nat} (h : ∀ d ∈ l, d.cells.length = sz) {i j : Nat} {d : D} (hd : l[i]? = some d) (hj : j < sz) :
    ∃ (h1 : i * sz + j < (flat l).length) (h2 : j < d.cells.length), (flat l)[i * sz + j] = d.cells[j] := by
  have hl := flat_length h
  have hi : i < l.length := (List.getElem?_eq_some_iff.1 hd).1
  have hlt : i * sz + j < l.length * sz := by
    have h1 : (i + 1) * sz ≤ l.length * sz := Nat.mul_le_mul_right _ hi
    rw [Nat.succ_mul] at h1
    omega
  have hdl : d.cells.length = sz := h d (List.mem_of_getElem? hd)
  have h1 := flat_get h hd hj
  refine ⟨by rw [hl]; exact hlt, by omega, ?_⟩
  rw [List.getElem?_eq_getElem (by rw [hl]; exact hlt), List.getElem?_eq_getElem (by omega)] at h1
  exact Option.some.inj h1
theorem aload_sound (hs : St c H θ w sl a) {t : TypeId} {x y : AV} {v : Value} (hx : VR H θ w (vis c H θ w) x v) (h : aload P H t x = some y) :
    ∃ u, (Instr.loadAt t v).run P w = .ok u w ∧ VR H θ w (vis c H θ w) y u := by
  unfold aload at h
  split at h
  · rename_i cs
    obtain ⟨p, u, rfl, hb, ho, hm, hd⟩ := hx.data_inv.ref_inv
    obtain ⟨v', hr, hv⟩ := loadD_sound (H := H) (θ := θ) h ho hm hd
    exact ⟨v', by simp [Instr.loadAt, Instr.sureAddr, hr], hv⟩
  · rename_i ob off
    split at h
    · rename_i cs hg
      obtain ⟨b, e, vs, hθ, hh, hz, hown, hcs⟩ := box_cells hs.sim hg
      cases hx with
      | ptr _ _ _ hv hr hp =>
        obtain ⟨b', hb', rfl⟩ := hp cs hg
        rw [hθ] at hb'
        simp only [Value.pointer.injEq, Option.some.injEq, Addr.mk.injEq, and_true] at hb'
        subst hb'
        have hcell : ∀ i, off + i < cs.length → w.cell? ((⟨b, off, none⟩ : Addr).add i) = some (vs.getD (off + i) undef) := by
          intro i hi
          rw [Addr.add_lit, cell_of_row w b _ vs e (0, 0) hh]
          simp [show off + i < vs.size by omega]
        obtain ⟨v', hr', hv'⟩ := loadA_sound (H := H) (θ := θ) (B := vis c H θ w) (u := fun i => vs.getD (off + i) undef) (p := ⟨b, off, none⟩) h
          (fun i hi => hcell i (by simp only [List.length_drop] at hi; omega))
          (fun i hi => by
            simp only [List.length_drop] at hi
            rw [List.getElem_drop]
            exact hcs (off + i) (by omega) _ (by simp [show off + i < vs.size by omega]))
        exact ⟨v', by simp [Instr.loadAt, Instr.sureAddr, hr'], hv'⟩
    · cases h
  · rename_i ob n i off
    split at h
    · rename_i e sz l hg
      split at h
      · rename_i hn
        split at h
        · rename_i d hd
          obtain ⟨h0, h1, h2, vs, hown, _, hvs⟩ := row_cells hs.sim hg
          cases hx with
          | rref _ _ _ _ _ hv hr hp =>
            obtain ⟨_, h3⟩ := hp _ _ _ hg rfl rfl
            obtain ⟨g, cap, hθ, rfl⟩ := h3 hn
            rw [hθ] at hown
            subst hn
            have hl := flat_length h1
            have hdl := h1 d (List.mem_of_getElem? hd)
            have hcell : ∀ j, off + j < sz → w.cell? ((⟨g, i * sz + off, none⟩ : Addr).add j) = some (vs.getD (i * sz + (off + j)) undef) ∧ DR w (vis c H θ w) (d.cells.getD (off + j) default) (vs.getD (i * sz + (off + j)) undef) ∧ (d.cells.getD (off + j) default).one = true := by
              intro j hj
              obtain ⟨h4, h5, h6⟩ := flat_getElem h1 hd hj
              have h7 : i * sz + (off + j) < vs.length := by rw [hown.1, ← hl]; exact h4
              have hx : vs[i * sz + (off + j)]? = some (vs.getD (i * sz + (off + j)) undef) := by simp [h7]
              refine ⟨?_, ?_, ?_⟩
              · rw [Addr.add_lit, hown.cellAt _ (by rw [hl] at h4; omega), show i * sz + off + j = i * sz + (off + j) from by omega]
                exact hx
              · have h8 := hvs _ h4 _ hx
                rw [h6] at h8
                simpa [List.getD, h5] using h8
              · have h8 := h2 _ (List.getElem_mem h4)
                rw [h6] at h8
                simpa [List.getD, h5] using h8
            obtain ⟨v', hr', hv'⟩ := loadD_sound (H := H) (θ := θ) (B := vis c H θ w) (u := fun j => vs.getD (i * sz + (off + j)) undef) (p := ⟨g, i * sz + off, none⟩) h
              (fun d' hd' => by
                obtain ⟨j, hj, rfl⟩ := List.mem_iff_getElem.1 hd'
                simp only [List.length_drop] at hj
                rw [List.getElem_drop]
                have := (hcell j (by omega)).2.2
                simpa [List.getD, show off + j < d.cells.length by omega] using this)
              (fun j hj => (hcell j (by simp only [List.length_drop] at hj; omega)).1)
              (fun j hj => by
                simp only [List.length_drop] at hj
                rw [List.getElem_drop]
                have := (hcell j (by omega)).2.1
                simpa [List.getD, show off + j < d.cells.length by omega] using this)
            exact ⟨v', by simp [Instr.loadAt, Instr.sureAddr, hr'], hv'⟩
        · cases h
      · cases h
    · rename_i e sz m cs hg
      split at h
      · rename_i hn
        obtain ⟨h0, h1, vs, hown, _, hvs⟩ := arr_cells hs.sim hg
        cases hx with
        | rref _ _ _ _ _ hv hr hp =>
          obtain ⟨_, h3⟩ := hp _ _ _ hg rfl rfl
          obtain ⟨g, cap, hθ, rfl⟩ := h3 hn
          rw [hθ] at hown
          subst hn
          have hlen : vs.length = cs.length := by rw [hown.1, h1]
          obtain ⟨v', hr', hv'⟩ := loadA_sound (H := H) (θ := θ) (B := vis c H θ w) (u := fun j => vs.getD (i * sz + off + j) undef) (p := ⟨g, i * sz + off, none⟩) h
            (fun j hj => by
              simp only [List.length_drop] at hj
              have h7 : i * sz + off + j < vs.length := by omega
              rw [Addr.add_lit, hown.cellAt _ (by omega)]
              simp [h7])
            (fun j hj => by
              simp only [List.length_drop] at hj
              rw [List.getElem_drop]
              exact hvs (i * sz + off + j) (by omega) _ (by simp [show i * sz + off + j < vs.length by omega]))
          exact ⟨v', by simp [Instr.loadAt, Instr.sureAddr, hr'], hv'⟩
      · cases h
    · cases h
  · cases h
theorem y_load (hs : St c H θ w sl a) {t : TypeId} {x : Operand} {y : AV} (ho : o.op = .load t x) (h : aload P H t (aev sl x) = some y) : Yields P c o a w sl H θ y H := by
  obtain ⟨u, hr, hv⟩ := aload_sound hs (aev_sound hs x) h
  refine .read hs (v := u) ?_ hv
  simp [execOp, ho, hr]
end
end Go.Ab
namespace Go.Ab
open Go Go.RowKit
def over {α : Type} (o : Nat) (xs l : List α) : List α := l.take o ++ xs ++ l.drop (o + xs.length)
theorem over_get {α : Type} {o : Nat} {xs l : List α} (h : o + xs.length ≤ l.length) (i : Nat) : (over o xs l)[i]? = if i < o then l[i]? else if i < o + xs.length then xs[i - o]? else l[i]? := by
  unfold over
  rw [List.append_assoc]
  by_cases h1 : i < o
  · rw [if_pos h1, List.getElem?_append_left (by simp; omega), List.getElem?_take, if_pos h1]
  · rw [if_neg h1, List.getElem?_append_right (by simp; omega), List.length_take, Nat.min_eq_left (by omega)]
    by_cases h2 : i < o + xs.length
    · rw [if_pos h2, List.getElem?_append_left (by omega)]
    · rw [if_neg h2, List.getElem?_append_right (by omega), List.getElem?_drop]
      congr 1
      omega
theorem over_length {α : Type} {o : Nat} {xs l : List α} (h : o + xs.length ≤ l.length) : (over o xs l).length = l.length := by
  unfold over; simp; omega
theorem lay_some {α : Type} {i : Nat} {xs l r : List α} (h : lay i xs l = some r) : i + xs.length ≤ l.length ∧ r = over i xs l := by
  induction l generalizing i xs r with
  | nil =>
    cases i with
    | zero =>
      cases xs with
      | nil => simp only [lay, Option.some.injEq] at h; subst h; exact ⟨by simp, by simp [over]⟩
      | cons x xs => cases h
    | succ i => cases xs <;> cases h
  | cons y l ih =>
    cases i with
    | zero =>
      cases xs with
      | nil => simp only [lay, Option.some.injEq] at h; subst h; exact ⟨by simp, by simp [over]⟩
      | cons x xs =>
        simp only [lay] at h
        split at h
        · rename_i r' h1
          simp only [Option.some.injEq] at h
          subst h
          obtain ⟨h2, rfl⟩ := ih h1
          exact ⟨by simp at h2 ⊢; omega, by simp [over]⟩
        · cases h
    | succ i =>
      simp only [lay] at h
      split at h
      · rename_i r' h1
        simp only [Option.some.injEq] at h
        subst h
        obtain ⟨h2, rfl⟩ := ih h1
        exact ⟨by simp; omega, by simp [over, Nat.add_right_comm]⟩
      · cases h
theorem plain_sound {H : Heap} {θ : Nat → Value} {w : World} {B : Nat → Prop} {x : AV} {v : Value} {d : D} (hx : VR H θ w B x v) (h : x.plain = some d) : DR w B d v := by
  cases hx with
  | data d' v hd => simp only [AV.plain, Option.some.injEq] at h; subst h; exact hd
  | nils => simp only [AV.plain, Option.some.injEq] at h; subst h; exact .empty none 0
  | _ => cases h
theorem plains_some {l : List AV} {ds : List D} (h : plains l = some ds) : ds.length = l.length ∧ (∀ d ∈ ds, d.one = true) ∧ ∀ i (hi : i < l.length) (hj : i < ds.length), (l[i]).plain = some ds[i] := by
  induction l generalizing ds with
  | nil => simp only [plains, Option.some.injEq] at h; subst h; simp
  | cons x r ih =>
    simp only [plains] at h
    split at h
    · rename_i d ds' h1 h2
      split at h
      · rename_i ho
        simp only [Option.some.injEq] at h
        subst h
        obtain ⟨h3, h4, h5⟩ := ih h2
        refine ⟨by simp [h3], fun y hy => ?_, fun i hi hj => ?_⟩
        · rcases List.mem_cons.1 hy with rfl | hy
          · exact ho
          · exact h4 y hy
        · cases i with
          | zero => exact h1
          | succ i => exact h5 i (by simpa using hi) (by simpa using hj)
      · cases h
    · cases h
theorem one_cells {d : D} (h : d.one = true) : d.cells = [d] := by cases d <;> simp_all [D.one, D.cells]
theorem rebuild_cells {d : D} {cs : List D} (h : cs.length = d.cells.length) (ho : ∀ x ∈ cs, x.one = true) : (rebuild d cs).cells = cs := by
  have key : ∀ (d : D), d.cells = [d] → rebuild d cs = (match cs with | [] => d | x :: _ => x) → cs.length = 1 → (rebuild d cs).cells = cs := by
    intro d _ hr hl
    match cs, hl with
    | [x], _ => rw [hr]; exact one_cells (ho x (by simp))
  cases d with
  | agg ds => rfl
  | _ => exact key _ rfl (by cases cs <;> rfl) (by simpa [D.cells] using h)
theorem flat_set {l : List D} {sz : Nat} (h : ∀ d ∈ l, d.cells.length = sz) {i : Nat} {d' : D} (hd' : d'.cells.length = sz) (hi : i < l.length) (k : Nat) :
    (flat (l.set i d'))[k]? = if k < i * sz then (flat l)[k]? else if k < i * sz + sz then d'.cells[k - i * sz]? else (flat l)[k]? := by
  induction l generalizing i k with
  | nil => simp at hi
  | cons x l ih =>
    have hx := h x (by simp)
    cases i with
    | zero =>
      simp only [List.set_cons_zero, flat_cons, Nat.zero_mul, Nat.not_lt_zero, if_false, Nat.zero_add, Nat.sub_zero]
      by_cases hk : k < sz
      · rw [if_pos hk, List.getElem?_append_left (by omega)]
      · rw [if_neg hk, List.getElem?_append_right (by omega), List.getElem?_append_right (by omega), hx, hd']
    | succ i =>
      simp only [List.set_cons_succ, flat_cons]
      have ihk := ih (fun y hy => h y (by simp [hy])) (i := i) (by simpa using hi) (k - sz)
      have e : (i + 1) * sz = i * sz + sz := Nat.succ_mul _ _
      rw [e]
      by_cases hk : k < sz
      · rw [List.getElem?_append_left (by omega), List.getElem?_append_left (by omega), if_pos (show k < i * sz + sz from by omega)]
      · rw [List.getElem?_append_right (by omega), List.getElem?_append_right (by omega), hx, ihk]
        by_cases h1 : k - sz < i * sz
        · rw [if_pos h1, if_pos (show k < i * sz + sz from by omega)]
        · rw [if_neg h1, if_neg (show ¬ k < i * sz + sz from by omega)]
          by_cases h2 : k - sz < i * sz + sz
          · rw [if_pos h2, if_pos (show k < i * sz + sz + sz from by omega), show k - sz - i * sz = k - (i * sz + sz) from by omega]
          · rw [if_neg h2, if_neg (show ¬ k < i * sz + sz + sz from by omega)]
section
variable {P : Program} {c : Ctx} {H H' : Heap} {θ θ' : Nat → Value} {w w' : World} {sl : List AV} {a : Act} {o : Oper} {r : AV}
theorem run_storeVar_at {t : TypeId} {v : Value} (hn : tsize P t = some v.cells.size) {g off : Nat} {e : TypeId} {cur : Array Value} {fr : Nat × Nat} (hg : w.heap[g]? = some (.cells cur e fr)) (hso : Soft fr cur.size)
    (hfit : off + v.cells.size ≤ cur.size) (h1 : ∀ u ∈ v.cells.toList, u.oneCell' = true) :
    (Instr.storeAt t (.pointer (some ⟨g, off, none⟩)) v).run P w = .ok () (w.setRow g (over off v.cells.toList cur.toList).toArray) := by
  have h := run_storeCells_soft (P := P) (off := off) hg hso (by simpa using hfit) h1
  simp only [overV] at h
  simp [Instr.storeAt, Instr.sureAddr, storeVar, run_sizeOf' hn, h, over]
theorem store_box (hs : St c H θ w sl a) {t : TypeId} {ob off : Nat} {cs cs' xs : List AV} {x : AV} {pv v : Value} (hp : VR H θ w (vis c H θ w) (.ptr ob off) pv) (hx : VR H θ w (vis c H θ w) x v)
    (hc : x.cells = some xs) (hn : tsize P t = some xs.length) (hg : H.get ob = some (.box cs)) (hl : lay off xs cs = some cs') :
    ∃ w' θ', (Instr.storeAt t pv v).run P w = .ok () w' ∧ St c (H.set ob (.box cs')) θ' w' sl a ∧ Kept c w w' ∧ HLe H θ (H.set ob (.box cs')) θ' := by
  obtain ⟨b, e, vs, hθ, hh, hz, hown, hcs⟩ := box_cells hs.sim hg
  obtain ⟨hxz, hxs⟩ := cells_sound hx hc
  obtain ⟨hfit, rfl⟩ := lay_some hl
  have hpv : pv = .pointer (some ⟨b, off, none⟩) := by
    cases hp with
    | ptr _ _ _ hv hr hp =>
      obtain ⟨b', hb', rfl⟩ := hp cs hg
      rw [hθ] at hb'
      simp only [Value.pointer.injEq, Option.some.injEq, Addr.mk.injEq, and_true] at hb'
      rw [hb']
  subst hpv
  have h1 : ∀ u ∈ v.cells.toList, u.oneCell' = true := by
    intro u hu
    obtain ⟨i, hi, rfl⟩ := List.mem_iff_getElem.1 hu
    simp only [Array.length_toList] at hi
    exact (hxs i (by omega) _ (by simp [hi])).2
  have hr := run_storeVar_at (P := P) (w := w) (t := t) (v := v) (by rw [hn, hxz]) (g := b) (off := off) hh (soft0 _) (by omega) h1
  have hT := hs.sim.turn (w' := w.setRow b (over off v.cells.toList vs.toList).toArray) (k := ob) (x0 := .box cs) (x := .box (over off xs cs)) (val := θ ob) hg rfl rfl
    (fun k hk hne => setRow_other w b k _ (fun e => hne (by rw [hθ, e]; rfl))) (by simp) (fun k hk => .inl hk) trivial (fun _ => rfl)
    (fun hvr => ⟨b, e, _, hθ, setRow_heap w b vs _ e _ hh, by simp only [List.size_toArray]; rw [over_length (by simp; omega), over_length hfit]; simpa using hz, hown, fun i hi u hu => by
      simp only [List.getElem?_toArray] at hu
      rw [over_get (by simp; omega)] at hu
      have hi' : i < cs.length := by rw [over_length hfit] at hi; exact hi
      have hx' : (over off xs cs)[i]? = some (over off xs cs)[i] := List.getElem?_eq_getElem hi
      rw [over_get hfit] at hx'
      simp only [Array.length_toList, hxz] at hu
      by_cases c1 : i < off
      · rw [if_pos c1] at hu hx'
        have := hcs i hi' u (by simpa using hu)
        rw [List.getElem?_eq_getElem hi', Option.some.injEq] at hx'
        rw [← hx']
        exact ⟨hvr _ _ this.1, this.2⟩
      · rw [if_neg c1] at hu hx'
        by_cases c2 : i < off + xs.length
        · rw [if_pos c2] at hu hx'
          have := hxs (i - off) (by omega) u (by simpa using hu)
          rw [List.getElem?_eq_getElem (show i - off < xs.length by omega), Option.some.injEq] at hx'
          rw [← hx']
          exact ⟨hvr _ _ this.1, this.2⟩
        · rw [if_neg c2] at hu hx'
          have := hcs i hi' u (by simpa using hu)
          rw [List.getElem?_eq_getElem hi', Option.some.injEq] at hx'
          rw [← hx']
          exact ⟨hvr _ _ this.1, this.2⟩⟩)
  refine ⟨_, _, hr, ⟨hT.1, hs.defers, hs.size, fun i y u h1 h2 => hT.2.1 y u (hs.vals i y u h1 h2)⟩, ⟨rfl, rfl, rfl, by simp, fun k hk hi => setRow_other w b k _ (fun e => ?_)⟩, hT.2.2⟩
  subst e
  rcases hown with h | h
  · omega
  · exact hi h
theorem store_row (hs : St c H θ w sl a) {t : TypeId} {ob m i off : Nat} {e : TypeId} {sz : Nat} {l : List D} {xs : List AV} {ds cs' : List D} {d : D} {x : AV} {pv v : Value} (hp : VR H θ w (vis c H θ w) (.rref ob m i off) pv)
    (hx : VR H θ w (vis c H θ w) x v) (hc : x.cells = some xs) (hn : tsize P t = some xs.length) (hg : H.get ob = some (.row e sz l)) (hm : l.length = m) (hd : l[i]? = some d) (hpl : plains xs = some ds)
    (hl : lay off ds d.cells = some cs') :
    ∃ w' θ', (Instr.storeAt t pv v).run P w = .ok () w' ∧ St c (H.set ob (.row e sz (l.set i (rebuild d cs')))) θ' w' sl a ∧ Kept c w w' ∧ HLe H θ (H.set ob (.row e sz (l.set i (rebuild d cs')))) θ' := by
  obtain ⟨h0, hcl, hone, vs, hown, hbl, hvs⟩ := row_cells hs.sim hg
  obtain ⟨hxz, hxs⟩ := cells_sound hx hc
  obtain ⟨hfit, rfl⟩ := lay_some hl
  obtain ⟨hdl, hdo, hdp⟩ := plains_some hpl
  have hi : i < l.length := (List.getElem?_eq_some_iff.1 hd).1
  have hdsz : d.cells.length = sz := hcl d (List.mem_of_getElem? hd)
  obtain ⟨g, cap, hθ, hpv⟩ : ∃ g cap, θ ob = .slice (some ⟨g, 0, none⟩) m cap ∧ pv = .pointer (some ⟨g, i * sz + off, none⟩) := by
    cases hp with
    | rref _ _ _ _ _ hv hr hp => exact (hp _ _ _ hg rfl rfl).2 hm
  subst hpv
  subst hm
  have hfl := flat_length hcl
  have hisz : i * sz + sz ≤ l.length * sz := by
    have h1 : (i + 1) * sz ≤ l.length * sz := Nat.mul_le_mul_right _ hi
    rw [Nat.succ_mul] at h1
    exact h1
  have hown' := hown
  rw [hθ] at hown'
  obtain ⟨hvl, hrow⟩ := hown'
  rcases hrow with ⟨h, _⟩ | ⟨g', cap', cur, h, _, ⟨fr, hh, hso⟩, hnc, hcm, hcs, htake⟩
  · cases h
  simp only [Value.slice.injEq, Option.some.injEq, Addr.mk.injEq, and_true, true_and] at h
  obtain ⟨rfl, rfl⟩ := h
  have h1 : ∀ u ∈ v.cells.toList, u.oneCell' = true := by
    intro u hu
    obtain ⟨j, hj, rfl⟩ := List.mem_iff_getElem.1 hu
    simp only [Array.length_toList] at hj
    exact (hxs j (by omega) _ (by simp [hj])).2
  have hcap : l.length * sz ≤ cap * sz := Nat.mul_le_mul_right _ hnc
  have hr := run_storeVar_at (P := P) (w := w) (t := t) (v := v) (by rw [hn, hxz]) (g := g) (off := i * sz + off) hh hso (by omega) h1
  have hnew : (rebuild d (over off ds d.cells)).cells = over off ds d.cells := rebuild_cells (over_length hfit) (fun y hy => by
    unfold over at hy
    simp only [List.mem_append] at hy
    have hde : ∀ y ∈ d.cells, y.one = true := fun y hy => hone y (by
      unfold flat
      exact List.mem_flatMap.2 ⟨d, List.mem_of_getElem? hd, hy⟩)
    rcases hy with (hy | hy) | hy
    · exact hde y (List.mem_of_mem_take hy)
    · exact hdo y hy
    · exact hde y (List.mem_of_mem_drop hy))
  have hnewsz : (rebuild d (over off ds d.cells)).cells.length = sz := by rw [hnew, over_length hfit, hdsz]
  have hcl' : ∀ y ∈ l.set i (rebuild d (over off ds d.cells)), y.cells.length = sz := fun y hy => by
    rcases List.mem_or_eq_of_mem_set hy with h | h
    · exact hcl y h
    · rw [h]; exact hnewsz
  have hflat : ∀ k, (flat (l.set i (rebuild d (over off ds d.cells))))[k]? = if k < i * sz + off then (flat l)[k]? else if k < i * sz + off + ds.length then ds[k - (i * sz + off)]? else (flat l)[k]? := by
    intro k
    rw [flat_set hcl hnewsz hi k, hnew]
    by_cases c1 : k < i * sz
    · rw [if_pos c1, if_pos (show k < i * sz + off by omega)]
    · rw [if_neg c1]
      by_cases c2 : k < i * sz + sz
      · rw [if_pos c2, over_get hfit]
        have hfg := flat_get hcl hd (j := k - i * sz) (by omega)
        rw [show i * sz + (k - i * sz) = k from by omega] at hfg
        by_cases c3 : k - i * sz < off
        · rw [if_pos c3, if_pos (show k < i * sz + off by omega), hfg]
        · rw [if_neg c3, if_neg (show ¬ k < i * sz + off by omega)]
          by_cases c4 : k - i * sz < off + ds.length
          · rw [if_pos c4, if_pos (show k < i * sz + off + ds.length by omega), show k - i * sz - off = k - (i * sz + off) from by omega]
          · rw [if_neg c4, if_neg (show ¬ k < i * sz + off + ds.length by omega), hfg]
      · rw [if_neg c2, if_neg (show ¬ k < i * sz + off by omega), if_neg (show ¬ k < i * sz + off + ds.length by omega)]
  have hfo : (over (i * sz + off) v.cells.toList vs).length = vs.length := over_length (by simp only [Array.length_toList]; omega)
  have hT := hs.sim.turn (w' := w.setRow g (over (i * sz + off) v.cells.toList cur.toList).toArray) (k := ob) (x0 := .row e sz l) (x := .row e sz (l.set i (rebuild d (over off ds d.cells)))) (val := θ ob) hg rfl rfl
    (fun k hk hne => setRow_other w g k _ (fun e => hne (by rw [hθ, e]; rfl))) (by simp) (fun k hk => .inl hk) ⟨rfl, rfl, by simp⟩ (fun _ => rfl)
    (fun hvr => by
      refine ⟨h0, hcl', ?_, over (i * sz + off) v.cells.toList vs, ⟨by rw [hfo, hvl]; simp, .inr ⟨g, cap, _, by rw [hθ]; simp, Nat.zero_le _, ⟨fr, setRow_heap w g cur _ e _ hh, by rw [List.size_toArray, over_length (by simp only [Array.length_toList]; omega)]; simpa using hso⟩, by simpa using hnc, hcm, ?_, ?_⟩⟩, hbl, ?_⟩
      · intro y hy
        obtain ⟨k, hk, rfl⟩ := List.mem_iff_getElem.1 hy
        have h2 := hflat k
        rw [List.getElem?_eq_getElem hk] at h2
        split at h2
        · exact hone _ (List.mem_of_getElem? h2.symm)
        · split at h2
          · exact hdo _ (List.mem_of_getElem? h2.symm)
          · exact hone _ (List.mem_of_getElem? h2.symm)
      · simp only [List.size_toArray]
        rw [over_length (by simp; omega)]
        simpa using hcs
      · simp only [List.length_set]
        rw [← htake]
        apply List.ext_getElem?
        intro k
        rw [List.getElem?_take]
        by_cases hk : k < l.length * sz
        · rw [if_pos hk, over_get (by simp; omega), over_get (by simp; omega), List.getElem?_take, if_pos hk]
        · rw [if_neg hk, over_get (by simp; omega), if_neg (by omega), if_neg (by simp only [Array.length_toList]; omega), List.getElem?_take, if_neg hk]
      · intro k hk u hu
        rw [over_get (by simp only [Array.length_toList]; omega)] at hu
        have h2 := hflat k
        rw [List.getElem?_eq_getElem hk] at h2
        simp only [Array.length_toList, hxz] at hu
        rw [hdl] at h2
        by_cases c1 : k < i * sz + off
        · rw [if_pos c1] at hu h2
          have hk' := (List.getElem?_eq_some_iff.1 h2.symm).1
          rw [List.getElem?_eq_getElem hk', Option.some.injEq] at h2
          rw [h2]
          exact (hvr (.data _) u (.data _ _ (hvs k hk' u hu))).data_inv
        · rw [if_neg c1] at hu h2
          by_cases c2 : k < i * sz + off + xs.length
          · rw [if_pos c2] at hu h2
            have hk' := (List.getElem?_eq_some_iff.1 h2.symm).1
            rw [List.getElem?_eq_getElem hk', Option.some.injEq] at h2
            rw [h2]
            have h3 := (hxs (k - (i * sz + off)) (by omega) u (by simpa using hu)).1
            exact (hvr (.data _) u (.data _ _ (plain_sound h3 (hdp _ (by omega) hk')))).data_inv
          · rw [if_neg c2] at hu h2
            have hk' := (List.getElem?_eq_some_iff.1 h2.symm).1
            rw [List.getElem?_eq_getElem hk', Option.some.injEq] at h2
            rw [h2]
            exact (hvr (.data _) u (.data _ _ (hvs k hk' u hu))).data_inv)
  refine ⟨_, _, hr, ⟨hT.1, hs.defers, hs.size, fun i y u h1 h2 => hT.2.1 y u (hs.vals i y u h1 h2)⟩, ⟨rfl, rfl, rfl, by simp, fun k hk hi => setRow_other w g k _ (fun e => ?_)⟩, hT.2.2⟩
  subst e
  rcases hbl k (by rw [hθ]; rfl) with h | h
  · omega
  · exact hi h
theorem store_arr (hs : St c H θ w sl a) {t : TypeId} {ob m i off : Nat} {e : TypeId} {sz : Nat} {cs cs' xs : List AV} {x : AV} {pv v : Value} (hp : VR H θ w (vis c H θ w) (.rref ob m i off) pv)
    (hx : VR H θ w (vis c H θ w) x v) (hc : x.cells = some xs) (hn : tsize P t = some xs.length) (hg : H.get ob = some (.arr e sz m cs)) (hl : lay (i * sz + off) xs cs = some cs') :
    ∃ w' θ', (Instr.storeAt t pv v).run P w = .ok () w' ∧ St c (H.set ob (.arr e sz m cs')) θ' w' sl a ∧ Kept c w w' ∧ HLe H θ (H.set ob (.arr e sz m cs')) θ' := by
  obtain ⟨h0, hcl, vs, hown, hbl, hvs⟩ := arr_cells hs.sim hg
  obtain ⟨hxz, hxs⟩ := cells_sound hx hc
  obtain ⟨hfit, rfl⟩ := lay_some hl
  obtain ⟨g, cap, hθ, hpv⟩ : ∃ g cap, θ ob = .slice (some ⟨g, 0, none⟩) m cap ∧ pv = .pointer (some ⟨g, i * sz + off, none⟩) := by
    cases hp with
    | rref _ _ _ _ _ hv hr hp => exact (hp _ _ _ hg rfl rfl).2 rfl
  subst hpv
  have hown' := hown
  rw [hθ] at hown'
  obtain ⟨hvl, hrow⟩ := hown'
  rcases hrow with ⟨h, _⟩ | ⟨g', cap', cur, h, _, ⟨fr, hh, hso⟩, hnc, hcm, hcs, htake⟩
  · cases h
  simp only [Value.slice.injEq, Option.some.injEq, Addr.mk.injEq, and_true, true_and] at h
  obtain ⟨rfl, rfl⟩ := h
  have h1 : ∀ u ∈ v.cells.toList, u.oneCell' = true := by
    intro u hu
    obtain ⟨j, hj, rfl⟩ := List.mem_iff_getElem.1 hu
    simp only [Array.length_toList] at hj
    exact (hxs j (by omega) _ (by simp [hj])).2
  have hcap : m * sz ≤ cap * sz := Nat.mul_le_mul_right _ hnc
  have hr := run_storeVar_at (P := P) (w := w) (t := t) (v := v) (by rw [hn, hxz]) (g := g) (off := i * sz + off) hh hso (by omega) h1
  have hfo : (over (i * sz + off) v.cells.toList vs).length = vs.length := over_length (by simp only [Array.length_toList]; omega)
  have hT := hs.sim.turn (w' := w.setRow g (over (i * sz + off) v.cells.toList cur.toList).toArray) (k := ob) (x0 := .arr e sz m cs) (x := .arr e sz m (over (i * sz + off) xs cs)) (val := θ ob) hg rfl rfl
    (fun k hk hne => setRow_other w g k _ (fun e => hne (by rw [hθ, e]; rfl))) (by simp) (fun k hk => .inl hk) ⟨rfl, rfl, Nat.le_refl _⟩ (fun _ => rfl)
    (fun hvr => by
      refine ⟨h0, by rw [over_length hfit, hcl], over (i * sz + off) v.cells.toList vs, ⟨by rw [hfo, hvl], .inr ⟨g, cap, _, by rw [hθ], Nat.zero_le _, ⟨fr, setRow_heap w g cur _ e _ hh, by rw [List.size_toArray, over_length (by simp only [Array.length_toList]; omega)]; simpa using hso⟩, hnc, hcm, ?_, ?_⟩⟩, hbl, ?_⟩
      · simp only [List.size_toArray]
        rw [over_length (by simp only [Array.length_toList]; omega)]
        simpa using hcs
      · rw [← htake]
        apply List.ext_getElem?
        intro k
        rw [List.getElem?_take]
        by_cases hk : k < m * sz
        · rw [if_pos hk, over_get (by simp only [Array.length_toList]; omega), over_get (by simp only [List.length_take, Array.length_toList]; omega), List.getElem?_take, if_pos hk]
        · rw [if_neg hk, over_get (by simp only [List.length_take, Array.length_toList]; omega), if_neg (by omega), if_neg (by simp only [Array.length_toList]; omega), List.getElem?_take, if_neg hk]
      · intro k hk u hu
        rw [over_get (by simp only [Array.length_toList]; omega)] at hu
        have hk' : k < cs.length := by rw [over_length hfit] at hk; exact hk
        have hx' : (over (i * sz + off) xs cs)[k]? = some (over (i * sz + off) xs cs)[k] := List.getElem?_eq_getElem hk
        rw [over_get hfit] at hx'
        simp only [Array.length_toList, hxz] at hu
        by_cases c1 : k < i * sz + off
        · rw [if_pos c1] at hu hx'
          rw [List.getElem?_eq_getElem hk', Option.some.injEq] at hx'
          rw [← hx']
          exact ⟨hvr _ _ (hvs k hk' u hu).1, (hvs k hk' u hu).2⟩
        · rw [if_neg c1] at hu hx'
          by_cases c2 : k < i * sz + off + xs.length
          · rw [if_pos c2] at hu hx'
            have := hxs (k - (i * sz + off)) (by omega) u (by simpa using hu)
            rw [List.getElem?_eq_getElem (show k - (i * sz + off) < xs.length by omega), Option.some.injEq] at hx'
            rw [← hx']
            exact ⟨hvr _ _ this.1, this.2⟩
          · rw [if_neg c2] at hu hx'
            rw [List.getElem?_eq_getElem hk', Option.some.injEq] at hx'
            rw [← hx']
            exact ⟨hvr _ _ (hvs k hk' u hu).1, (hvs k hk' u hu).2⟩)
  refine ⟨_, _, hr, ⟨hT.1, hs.defers, hs.size, fun i y u h1 h2 => hT.2.1 y u (hs.vals i y u h1 h2)⟩, ⟨rfl, rfl, rfl, by simp, fun k hk hi => setRow_other w g k _ (fun e => ?_)⟩, hT.2.2⟩
  subst e
  rcases hbl k (by rw [hθ]; rfl) with h | h
  · omega
  · exact hi h
theorem astore_sound (hs : St c H θ w sl a) {t : TypeId} {p x : AV} {pv v : Value} (hp : VR H θ w (vis c H θ w) p pv) (hx : VR H θ w (vis c H θ w) x v) (h : astore P H t p x = some H') :
    ∃ w' θ', (Instr.storeAt t pv v).run P w = .ok () w' ∧ St c H' θ' w' sl a ∧ Kept c w w' ∧ HLe H θ H' θ' := by
  unfold astore at h
  split at h
  · rename_i xs n hc hn
    split at h
    · rename_i hlen
      subst hlen
      split at h
      · rename_i ob off
        split at h
        · rename_i cs hg
          split at h
          · rename_i cs' hl
            simp only [Option.some.injEq] at h
            subst h
            exact store_box hs hp hx hc hn hg hl
          · cases h
        · cases h
      · rename_i ob m i off
        split at h
        · rename_i e sz l hg
          split at h
          · rename_i hm
            split at h
            · rename_i d ds hd hpl
              split at h
              · rename_i cs' hl
                simp only [Option.some.injEq] at h
                subst h
                exact store_row hs hp hx hc hn hg hm hd hpl hl
              · cases h
            · cases h
          · cases h
        · rename_i e sz n cs hg
          split at h
          · rename_i hm
            subst hm
            split at h
            · rename_i cs' hl
              simp only [Option.some.injEq] at h
              subst h
              exact store_arr hs hp hx hc hn hg hl
            · cases h
          · cases h
        · cases h
      · cases h
    · cases h
  · cases h
theorem y_store (hs : St c H θ w sl a) {t : TypeId} {x y : Operand} (ho : o.op = .store t x y) (h : astore P H t (aev sl x) (aev sl y) = some H') : Yields P c o a w sl H θ .junk H' := by
  obtain ⟨w', θ', hr, h1, h2, h3⟩ := astore_sound hs (aev_sound hs x) (aev_sound hs y) h
  refine .skip ?_ h1 h2 h3
  simp [execOp, ho, hr]
end
end Go.Ab
