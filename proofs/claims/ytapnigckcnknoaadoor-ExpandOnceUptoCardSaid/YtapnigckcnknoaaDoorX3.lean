/-
  One text of the proof (own work): contracts of functions of the program, by the abstract machine.
-/
import Derived.Laws.StructEq
import Derived.MapKept
import Derived.Test.YtapnigckcnknoaaDoorX2
set_option linter.unusedVariables false
set_option linter.unusedSimpArgs false
namespace Go.Ab
open Go Go.RowKit
section
variable {P : Program} {c : Ctx} {H H' : Heap} {θ θ' : Nat → Value} {w w' : World} {sl : List AV} {a : Act} {o : Oper} {r : AV}
theorem tfield_some {s : TypeId} {f : Nat} {fd : Field} (h : tfield P s f = some fd) : ∃ fs, P.underlying s = some (.struct fs) ∧ fs[f]? = some fd := by
  unfold tfield at h
  split at h
  · rename_i fs hu; exact ⟨fs, hu, h⟩
  · cases h
theorem run_fieldAt {s : TypeId} {f : Nat} {fd : Field} (h : tfield P s f = some fd) {n : Nat} (hn : tsize P fd.type = some (n + 1)) (p : Addr) (w : World) :
    (Instr.fieldAt s (.pointer (some p)) f).run P w = .ok (.pointer (some (p.add fd.offset))) w := by
  obtain ⟨fs, hu, hf⟩ := tfield_some h
  simp [Instr.fieldAt, run_underlying hu, hf, Instr.sureAddr, fieldPlace, run_sizeOf' hn]
theorem DR.ref_drop {B : Nat → Prop} {cs : List D} {p : Addr} (h : DR w B (.ref cs) (.pointer (some p))) (n : Nat) : DR w B (.ref (cs.drop n)) (.pointer (some (p.add n))) := by
  obtain ⟨p', u, he, hb, ho, hm, hd⟩ := h.ref_inv
  cases he
  refine .ref _ _ (fun i => u (n + i)) (by rw [block_add]; exact hb) (fun d hd => ho d (List.mem_of_mem_drop hd)) (fun i hi => ?_) (fun i hi => ?_)
  · simp only [List.length_drop] at hi
    rw [add_add]
    exact hm (n + i) (by omega)
  · simp only [List.length_drop] at hi
    rw [List.getElem_drop]
    exact hd (n + i) (by omega)
theorem y_field (hs : St c H θ w sl a) {s : TypeId} {x : Operand} {f : Nat} {y : AV} (ho : o.op = .fieldAddr s x f) (h : afield P H s (aev sl x) f = some y) : Yields P c o a w sl H θ y H := by
  have hx := aev_sound hs x
  unfold afield at h
  split at h
  · rename_i fd hf
    split at h
    · rename_i n hn
      split at h
      · rename_i cs hcs
        simp only [Option.some.injEq] at h
        subst h
        rw [hcs] at hx
        have hx' := hx.data_inv
        obtain ⟨p, u, he, hb, ho', hm, hd⟩ := hx'.ref_inv
        rw [he] at hx'
        refine .read hs (v := .pointer (some (p.add fd.offset))) ?_ (.data _ _ (hx'.ref_drop _))
        simp [execOp, ho, he, run_fieldAt hf hn]
      · rename_i ob off hcs
        split at h
        · rename_i cs hg
          simp only [Option.some.injEq] at h
          subst h
          rw [hcs] at hx
          generalize hv : a.eval x = v at hx
          cases hx with
          | ptr _ _ _ hv1 hr hp =>
            obtain ⟨b, hθ, rfl⟩ := hp cs hg
            refine .read hs (v := .pointer (some ⟨b, off + fd.offset, none⟩)) ?_ (.ptr _ _ _ rfl hr fun cs' _ => ⟨b, hθ, rfl⟩)
            simp [execOp, ho, hv, run_fieldAt hf hn, Addr.add_lit]
        · cases h
      · rename_i ob m i off hcs
        split at h
        · rename_i e sz l hg
          split at h
          · rename_i hm
            simp only [Option.some.injEq] at h
            subst h
            rw [hcs] at hx
            generalize hv : a.eval x = v at hx
            cases hx with
            | rref _ _ _ _ _ hv1 hr hp =>
              obtain ⟨g, cap, hθ, rfl⟩ := (hp _ _ _ hg rfl rfl).2 hm
              refine .read hs (v := .pointer (some ⟨g, i * sz + (off + fd.offset), none⟩)) ?_ (.rref _ _ _ _ _ rfl hr fun x' m' sz' hx' hm' hz' => ?_)
              · simp [execOp, ho, hv, run_fieldAt hf hn, Addr.add_lit, Nat.add_assoc]
              · rw [hg] at hx'
                cases hx'
                cases hm'
                cases hz'
                exact ⟨by omega, fun _ => ⟨g, cap, hθ, rfl⟩⟩
          · cases h
        · rename_i e sz k cs hg
          split at h
          · rename_i hm
            simp only [Option.some.injEq] at h
            subst h
            rw [hcs] at hx
            generalize hv : a.eval x = v at hx
            cases hx with
            | rref _ _ _ _ _ hv1 hr hp =>
              obtain ⟨g, cap, hθ, rfl⟩ := (hp _ _ _ hg rfl rfl).2 hm
              refine .read hs (v := .pointer (some ⟨g, i * sz + (off + fd.offset), none⟩)) ?_ (.rref _ _ _ _ _ rfl hr fun x' m' sz' hx' hm' hz' => ?_)
              · simp [execOp, ho, hv, run_fieldAt hf hn, Addr.add_lit, Nat.add_assoc]
              · rw [hg] at hx'
                cases hx'
                cases hm'
                cases hz'
                exact ⟨by omega, fun _ => ⟨g, cap, hθ, rfl⟩⟩
          · cases h
        · cases h
      · cases h
    · cases h
  · cases h
theorem y_fieldV (hs : St c H θ w sl a) {s : TypeId} {x : Operand} {f : Nat} {y : AV} (ho : o.op = .field s x f) (h : afieldV P s (aev sl x) f = some y) : Yields P c o a w sl H θ y H := by
  have hx := aev_sound hs x
  unfold afieldV at h
  split at h
  · rename_i fd hf
    obtain ⟨fs, hu, hff⟩ := tfield_some hf
    have hrun : ∀ (vs : Array Value) (v : Value), (part fd.type vs fd.offset).run P w = .ok v w → a.eval x = .agg vs → (execOp a.eval o).run P w = .ok (.value v) w := by
      intro vs v hp he
      simp [execOp, ho, he, Instr.field, run_underlying hu, hff, asAgg, hp]
    split at h
    · rename_i cs hcs
      rw [hcs] at hx
      obtain ⟨vs, u, he, hz, ho', hv, hd⟩ := hx.data_inv.agg_inv
      unfold loadD at h
      split at h
      · rename_i ht
        split at h
        · rename_i n hn
          split at h
          · rename_i l hl
            simp only [Option.some.injEq] at h
            subst h
            obtain ⟨h1, rfl⟩ := takeN_some hl
            simp only [List.length_drop] at h1
            refine .read hs (v := .agg (vs.extract fd.offset (fd.offset + n))) (hrun _ _ (by simp [part, run_isAgg ht, run_sizeOf' hn]) he)
              (.data _ _ (.agg _ _ (fun i => u (fd.offset + i)) (by simp; omega) (fun d hd' => ho' d (List.mem_of_mem_drop (List.mem_of_mem_take hd'))) (fun i hi => ?_) (fun i hi => ?_)))
            · simp only [List.length_take, List.length_drop] at hi
              have h3 := hv (fd.offset + i) (by omega)
              rw [Array.getElem?_extract]
              rw [if_pos (by omega)]
              exact h3
            · simp only [List.length_take, List.length_drop] at hi
              rw [List.getElem_take, List.getElem_drop]
              exact hd (fd.offset + i) (by omega)
          · cases h
        · cases h
      · rename_i ht
        split at h
        · rename_i d r hdr
          simp only [Option.some.injEq] at h
          subst h
          have hlt : fd.offset < cs.length := by
            rcases Nat.lt_or_ge fd.offset cs.length with h1 | h1
            · exact h1
            · rw [List.drop_eq_nil_of_le h1] at hdr; cases hdr
          have hd0 : cs[fd.offset] = d := by
            rw [List.drop_eq_getElem_cons hlt] at hdr
            exact (List.cons.inj hdr).1
          have h3 := hd fd.offset hlt
          rw [hd0] at h3
          refine .read hs (v := u fd.offset) (hrun _ _ (by simp [part, run_isAgg ht, hv fd.offset hlt]) he) (.data _ _ h3)
        · cases h
      · cases h
    · rename_i cs hcs
      rw [hcs] at hx
      generalize hav : a.eval x = v0 at hx
      cases hx with
      | agg _ vs u hz hv hd =>
      unfold loadA at h
      split at h
      · rename_i ht
        split at h
        · rename_i n hn
          split at h
          · rename_i l hl
            simp only [Option.some.injEq] at h
            subst h
            obtain ⟨h1, rfl⟩ := takeN_some hl
            simp only [List.length_drop] at h1
            refine .read hs (v := .agg (vs.extract fd.offset (fd.offset + n))) (hrun _ _ (by simp [part, run_isAgg ht, run_sizeOf' hn]) hav)
              (mkAgg_sound (.agg _ _ (fun i => u (fd.offset + i)) (by simp; omega) (fun i hi => ?_) (fun i hi => ?_)))
            · simp only [List.length_take, List.length_drop] at hi
              have h3 := hv (fd.offset + i) (by omega)
              rw [Array.getElem?_extract]
              rw [if_pos (by omega)]
              exact h3
            · simp only [List.length_take, List.length_drop] at hi
              rw [List.getElem_take, List.getElem_drop]
              exact hd (fd.offset + i) (by omega)
          · cases h
        · cases h
      · rename_i ht
        split at h
        · rename_i d r hdr
          simp only [Option.some.injEq] at h
          subst h
          have hlt : fd.offset < cs.length := by
            rcases Nat.lt_or_ge fd.offset cs.length with h1 | h1
            · exact h1
            · rw [List.drop_eq_nil_of_le h1] at hdr; cases hdr
          have hd0 : cs[fd.offset] = d := by
            rw [List.drop_eq_getElem_cons hlt] at hdr
            exact (List.cons.inj hdr).1
          have h3 := hd fd.offset hlt
          rw [hd0] at h3
          refine .read hs (v := u fd.offset) (hrun _ _ (by simp [part, run_isAgg ht, (hv fd.offset hlt).1]) hav) h3
        · cases h
      · cases h
    · cases h
  · cases h
theorem telem_some {t e : TypeId} (h : telem P t = some e) : P.underlying t = some (.slice e) := by
  unfold telem at h
  split at h
  · rename_i e' hu; cases h; exact hu
  · cases h
theorem run_indexAt_in {t e : TypeId} (ht : telem P t = some e) {sz : Nat} (hz : tsize P e = some sz) {p : Addr} {len cap : Nat} {k : IntKind} {i : Int} (h : 0 ≤ i ∧ i < (len : Int)) (w : World) :
    (Instr.indexAt t (.slice (some p) len cap) (.int k i)).run P w = .ok (.pointer (some (p.add (i.toNat * sz)))) w := by
  simp [Instr.indexAt, run_underlying (telem_some ht), asIntOf, h, run_sizeOf' hz]
theorem elem_ref {B : Nat → Prop} {l : List D} {v : Value} (h : DR w B (.list l) v) {i : Nat} {d : D} (hd : l[i]? = some d) (hne : d.cells ≠ []) :
    ∃ p cap, v = .slice (some p) l.length cap ∧ DR w B (.ref d.cells) (.pointer (some (p.add (i * d.cells.length)))) := by
  obtain ⟨ao, cap, rfl, h1⟩ := h.list_inv
  have hi : i < l.length := (List.getElem?_eq_some_iff.1 hd).1
  rcases h1 with rfl | ⟨p, sz, u, rfl, hb, hc, hs, ho, hm, hh⟩
  · simp at hi
  · have hdm := List.mem_of_getElem? hd
    have hdz := hs d hdm
    refine ⟨p, cap, rfl, .ref _ _ (fun j => u (i * sz + j)) (by rw [block_add]; exact hb) (fun y hy => ho y (by unfold flat; exact List.mem_flatMap.2 ⟨d, hdm, hy⟩)) (fun j hj => ?_) (fun j hj => ?_)⟩
    · obtain ⟨h4, _, _⟩ := flat_getElem hs hd (j := j) (by omega)
      rw [add_add, hdz]
      exact hm _ h4
    · obtain ⟨h4, h5, h6⟩ := flat_getElem hs hd (j := j) (by omega)
      have := hh _ h4
      rw [h6] at this
      exact this
theorem y_indexS (hs : St c H θ w sl a) {t : TypeId} {x i : Operand} {y : AV} (ho : o.op = .indexAddr t x i) (h : aindexS P H t (aev sl x) (aev sl i) = some y) : Yields P c o a w sl H θ y H := by
  have hx := aev_sound hs x
  have hi := aev_sound hs i
  have data_case : ∀ {l : List D} {n : Int} {d : D} {e : TypeId} {k : IntKind}, DR w (vis c H θ w) (.list l) (a.eval x) → a.eval i = .int k n → telem P t = some e → 0 ≤ n ∧ n < (l.length : Int) → l[n.toNat]? = some d →
      ((tsize P e == some d.cells.length) && !d.cells.isEmpty) = true → Yields P c o a w sl H θ (.data (.ref d.cells)) H := by
    intro l n d e k hdr hin ht hn hd hz
    simp only [Bool.and_eq_true, beq_iff_eq, Bool.not_eq_true'] at hz
    obtain ⟨p, cap, he, hr⟩ := elem_ref hdr hd (by intro h; rw [h] at hz; simp at hz)
    refine .read hs (v := .pointer (some (p.add (n.toNat * d.cells.length)))) ?_ (.data _ _ hr)
    simp [execOp, ho, he, hin, run_indexAt_in ht hz.1 hn]
  unfold aindexS at h
  split at h
  · rename_i e k n ht hin
    rw [hin] at hi
    have hin' := hi.data_inv.int_eq
    split at h
    · rename_i l hl
      rw [hl] at hx
      split at h
      · rename_i hn
        split at h
        · rename_i d hd
          split at h
          · rename_i hz
            simp only [Option.some.injEq] at h
            subst h
            exact data_case hx.data_inv hin' ht hn hd hz
          · cases h
        · cases h
      · cases h
    · rename_i ob m hob
      rw [hob] at hx
      split at h
      · rename_i e' sz l hg
        split at h
        · rename_i hc
          obtain ⟨hm, h0, h1, hz⟩ := hc
          simp only [Option.some.injEq] at h
          subst h
          subst hm
          generalize hv : a.eval x = v at hx
          cases hx with
          | row _ _ _ hv1 hr hp =>
            have hve := (hp _ _ hg rfl).2 rfl
            obtain ⟨hsz, _, _, vs, hown, hbl, _⟩ := row_cells hs.sim hg
            rw [← hve] at hown
            obtain ⟨g, cap, hv2⟩ : ∃ g cap, v = .slice (some ⟨g, 0, none⟩) l.length cap := by
              rcases hown.2 with ⟨_, h3⟩ | ⟨g, cap, cur, h3, _⟩
              · omega
              · exact ⟨g, cap, h3⟩
            subst hv2
            refine .read hs (v := .pointer (some ⟨g, n.toNat * sz + 0, none⟩)) ?_ (.rref _ _ _ _ _ rfl hr fun x2 m2 sz2 hx2 hm2 hz2 => ?_)
            · simp [execOp, ho, hv, hin', run_indexAt_in ht hz ⟨h0, h1⟩, Addr.add_lit]
            · rw [hg] at hx2
              cases hx2
              cases hm2
              cases hz2
              exact ⟨Nat.le_refl _, fun _ => ⟨g, cap, hve.symm, rfl⟩⟩
        · cases h
      · rename_i e' sz m' cs hg
        split at h
        · rename_i hc
          obtain ⟨hm, h0, h1, hz⟩ := hc
          simp only [Option.some.injEq] at h
          subst h
          subst hm
          generalize hv : a.eval x = v at hx
          cases hx with
          | row _ _ _ hv1 hr hp =>
            have hve := (hp _ _ hg rfl).2 rfl
            obtain ⟨hsz, _, vs, hown, hbl, _⟩ := arr_cells hs.sim hg
            rw [← hve] at hown
            obtain ⟨g, cap, hv2⟩ : ∃ g cap, v = .slice (some ⟨g, 0, none⟩) m' cap := by
              rcases hown.2 with ⟨_, h3⟩ | ⟨g, cap, cur, h3, _⟩
              · omega
              · exact ⟨g, cap, h3⟩
            subst hv2
            refine .read hs (v := .pointer (some ⟨g, n.toNat * sz + 0, none⟩)) ?_ (.rref _ _ _ _ _ rfl hr fun x2 m2 sz2 hx2 hm2 hz2 => ?_)
            · simp [execOp, ho, hv, hin', run_indexAt_in ht hz ⟨h0, h1⟩, Addr.add_lit]
            · rw [hg] at hx2
              cases hx2
              cases hm2
              cases hz2
              exact ⟨Nat.le_refl _, fun _ => ⟨g, cap, hve.symm, rfl⟩⟩
        · cases h
      · rename_i l hg
        split at h
        · rename_i hn
          split at h
          · rename_i d hd
            split at h
            · rename_i hz
              simp only [Option.some.injEq] at h
              subst h
              obtain ⟨hm, h0, h1⟩ := hn
              have hobj : DR w (vis c H θ w) (.list l) (θ ob) := hs.sim.objs ob _ hg
              have hve : a.eval x = θ ob := by
                generalize a.eval x = v at hx
                cases hx with
                | row _ _ _ hv1 hr hp => exact (hp _ _ hg rfl).2 hm
              rw [← hve] at hobj
              subst hm
              exact data_case hobj hin' ht ⟨h0, h1⟩ hd hz
            · cases h
          · cases h
        · cases h
      · cases h
    · cases h
  · cases h
theorem run_indexArr {t e : TypeId} {len : Nat} (ht : P.underlying t = some (.array len e)) {sz : Nat} (hz : tsize P e = some sz) {p : Addr} {k : IntKind} {i : Int} (h : 0 ≤ i ∧ i < (len : Int)) (w : World) :
    (Instr.indexAt t (.pointer (some p)) (.int k i)).run P w = .ok (.pointer (some (p.add (i.toNat * sz)))) w := by
  simp [Instr.indexAt, run_underlying ht, asIntOf, h, run_sizeOf' hz, Instr.sureAddr]
theorem y_indexP (hs : St c H θ w sl a) {t e : TypeId} {len : Nat} {x i : Operand} {y : AV} (ho : o.op = .indexAddr t x i) (ht : P.underlying t = some (.array len e)) (h : aindexP P H len e (aev sl x) (aev sl i) = some y) : Yields P c o a w sl H θ y H := by
  have hx := aev_sound hs x
  have hi := aev_sound hs i
  unfold aindexP at h
  split at h
  · rename_i ob off k n sz hxo hin hz
    rw [hin] at hi
    rw [hxo] at hx
    have hin' := hi.data_inv.int_eq
    split at h
    · rename_i cs hg
      split at h
      · rename_i hn
        simp only [Option.some.injEq] at h
        subst h
        generalize hv : a.eval x = v at hx
        cases hx with
        | ptr _ _ _ hv1 hr hp =>
          obtain ⟨b, h1, rfl⟩ := hp _ hg
          refine .read hs (v := .pointer (some ⟨b, off + n.toNat * (sz + 1), none⟩)) ?_ (.ptr _ _ _ rfl hr fun cs' hcs => ⟨b, h1, rfl⟩)
          simp [execOp, ho, hv, hin', run_indexArr ht hz hn, Addr.add_lit]
      · cases h
    · cases h
  · cases h
theorem y_index (hs : St c H θ w sl a) {t : TypeId} {x i : Operand} {y : AV} (ho : o.op = .indexAddr t x i) (h : aindex P H t (aev sl x) (aev sl i) = some y) : Yields P c o a w sl H θ y H := by
  unfold aindex at h
  split at h
  · rename_i len e ht
    refine y_indexP hs ho ?_ h
    unfold tarr at ht
    split at ht
    · rename_i hu
      simp only [Option.some.injEq, Prod.mk.injEq] at ht
      obtain ⟨rfl, rfl⟩ := ht
      exact hu
    · cases ht
  · exact y_indexS hs ho h
theorem scmp_run {op : BinOp} {x y : List UInt8} {b : Bool} (h : scmp op x y = some b) (w : World) : (Op.stringOp op ⟨x.toArray⟩ ⟨y.toArray⟩).run P w = .ok (.bool b) w := by
  cases op <;> simp only [scmp, Option.some.injEq, reduceCtorEq] at h <;> subst h <;> simp [Op.stringOp]
theorem eqGuard_run {op : BinOp} {t : TypeId} {x y : Operand} {u v : Value} (hu : u.oneCell' = true) (hi : u ≠ .nilIface) (w : World) : (eqGuard op t x y u v).run P w = .ok () w := by
  unfold eqGuard
  cases op <;> cases u <;> simp_all [Value.oneCell']
theorem equal_bool {t : TypeId} (ht : P.underlying t = some .bool) (x y : Bool) (w : World) : (Op.equal t (.bool x) (.bool y)).run P w = .ok (x == y) w := by
  have h : ∀ d : Nat, (Op.equalIn (d + 1) t (.bool x) (.bool y)).run P w = .ok (x == y) w := fun d => by
    simp only [Op.equalIn, Sem.run_bind, run_underlying ht, Result.andThen_ok, Sem.run_pure]
  exact h 9999
theorem keyEq_run {t : TypeId} {x y : D} {u v : Value} {b : Bool} {B : Nat → Prop} (hx : DR w B x u) (hy : DR w B y v) (hkx : keyKind P t x = true) (h : keyEq x y = some b) (d : Nat) : (Op.equalIn (d + 1) t u v).run P w = .ok b w := by
  unfold keyKind at hkx
  split at hkx
  · rename_i hu
    cases y <;> simp [keyEq] at h
    subst h
    rename_i a c
    rw [hx.str_eq, hy.str_eq]
    have e : ((⟨a.toArray⟩ : ByteArray) == ⟨c.toArray⟩) = (a == c) := by rw [beq_toListBytes]; simp [ByteArray.toList_eq]
    simp only [Op.equalIn, Sem.run_bind, run_underlying hu, Result.andThen_ok, Sem.run_pure, e]
  · rename_i hu
    cases y <;> simp [keyEq] at h
    subst h
    rw [hx.bool_eq, hy.bool_eq]
    simp only [Op.equalIn, Sem.run_bind, run_underlying hu, Result.andThen_ok, Sem.run_pure]
  · rename_i hu
    cases y <;> simp [keyEq] at h
    obtain ⟨hk, h⟩ := h
    subst h
    subst hk
    rw [hx.int_eq, hy.int_eq]
    simp only [Op.equalIn, Sem.run_bind, run_underlying hu, Result.andThen_ok, Sem.run_pure, if_true]
  · cases hkx
theorem eqFlds_run {a b : List D} {xs ys : Array Value} {B : Nat → Prop} (hx : ∀ i (hi : i < a.length), ∃ u, xs[i]? = some u ∧ DR w B (a[i]) u) (hy : ∀ i (hi : i < b.length), ∃ u, ys[i]? = some u ∧ DR w B (b[i]) u) (d : Nat) :
    ∀ (fs : List Field) (r : Bool), eqFlds P a b fs = some r → (Op.eqFields (d + 1) xs ys fs).run P w = .ok r w
  | [], r, h => by simp only [eqFlds, Option.some.injEq] at h; subst h; rfl
  | f :: fs, r, h => by
    simp only [eqFlds] at h
    split at h
    · rename_i x y hax hby
      split at h
      · rename_i hc
        simp only [Bool.and_eq_true, bne_iff_ne, ne_eq, beq_iff_eq] at hc
        obtain ⟨⟨⟨hkx, hky⟩, hn⟩, ht⟩ := hc
        split at h
        · rename_i c e h1 h2
          simp only [Option.some.injEq] at h
          subst h
          obtain ⟨i1, rfl⟩ := List.getElem?_eq_some_iff.1 hax
          obtain ⟨i2, rfl⟩ := List.getElem?_eq_some_iff.1 hby
          obtain ⟨u, hu, hdu⟩ := hx _ i1
          obtain ⟨v, hv, hdv⟩ := hy _ i2
          have ih := eqFlds_run hx hy d fs e h2
          have p1 : (part f.type xs f.offset).run P w = .ok u w := by simp [part, run_isAgg ht, hu]
          have p2 : (part f.type ys f.offset).run P w = .ok v w := by simp [part, run_isAgg ht, hv]
          have p3 := keyEq_run hdu hdv hkx h1 d
          simp only [Op.eqFields, if_pos hn, Sem.run_bind, p1, p2, p3, Result.andThen_ok]
          cases c <;> simp [ih]
        · cases h
      · cases h
    · cases h
theorem eqAgg_run {t : TypeId} {a b : List D} {u v : Value} {r : Bool} {B : Nat → Prop} {op : BinOp} {ox oy : Operand} (hx : DR w B (.agg a) u) (hy : DR w B (.agg b) v) (h : eqAgg P t a b = some r) :
    (eqGuard op t ox oy u v).run P w = .ok () w ∧ (Op.equal t u v).run P w = .ok r w ∧ ∃ xs ys, u = .agg xs ∧ v = .agg ys := by
  unfold eqAgg at h
  split at h
  · rename_i fs hu
    split at h
    · cases h
    · rename_i hc
      simp only [Bool.or_eq_true, not_or, Bool.not_eq_true] at hc
      obtain ⟨xs, p, rfl, hz, _, hv1, hd1⟩ := hx.agg_inv
      obtain ⟨ys, q, rfl, hz2, _, hv2, hd2⟩ := hy.agg_inv
      have hfs : P.fieldsOf t = fs := by simp [Program.fieldsOf, hu]
      refine ⟨?_, ?_, xs, ys, rfl, rfl⟩
      · unfold eqGuard
        cases op <;> simp [hc.2]
      · have := run_equalIn_struct (P := P) w 9999 t xs ys (by rw [hfs]; exact hu) hc.1
        rw [hfs] at this
        have h2 := eqFlds_run (P := P) (w := w) (xs := xs) (ys := ys) (fun i hi => ⟨p i, hv1 i hi, hd1 i hi⟩) (fun i hi => ⟨q i, hv2 i hi, hd2 i hi⟩) 9998 fs.toList r h
        exact this.trans h2
  · cases h
theorem abits_run {op : BinOp} {k : IntKind} {a b n : Int} (h : abits op k a b = some n) (w : World) : (Op.intBits op k a b).run P w = .ok (.int k n) w := by
  cases op <;> simp only [abits, Option.some.injEq, reduceCtorEq] at h <;> subst h <;> simp [Op.intBits]
theorem ashift_run {op : BinOp} {k : IntKind} {a b n : Int} {yk : IntKind} (h : ashift op k a b = some n) (w : World) : (Op.shift op k a yk b).run P w = .ok (.int k n) w := by
  unfold ashift at h
  split at h
  · cases h
  · rename_i h0
    cases op <;> simp only [Option.some.injEq, reduceCtorEq] at h <;> subst h <;> simp [Op.shift, h0]
theorem abin_sound {op : BinOp} {t : TypeId} {x y z : AV} {u v : Value} {B : Nat → Prop} {ox oy : Operand} (hx : VR H θ w B x u) (hy : VR H θ w B y v) (h : abin P op t x y = some z) :
    ∃ r, (do eqGuard op t ox oy u v; binOp op t u v : Sem Value).run P w = .ok r w ∧ VR H θ w B z r := by
  unfold abin at h
  split at h
  · rename_i k m k' n
    have hu := hx.data_inv.int_eq
    have hv := hy.data_inv.int_eq
    subst hu
    subst hv
    split at h
    · rename_i hsh
      simp only [Option.map_eq_some_iff] at h
      obtain ⟨r, hr, rfl⟩ := h
      refine ⟨.int k r, ?_, .data _ _ (.int _ _)⟩
      rw [Sem.run_bind, eqGuard_run rfl (by simp)]
      have := ashift_run (P := P) (yk := k') hr w
      cases op <;> simp [isShift] at hsh <;> simpa [binOp] using this
    split at h
    · rename_i hnsh hk
      subst hk
      have key : ∀ r, (binOp op t (.int k m) (.int k n)).run P w = .ok r w → VR H θ w B z r → ∃ r, (do eqGuard op t ox oy (.int k m) (.int k n); binOp op t (.int k m) (.int k n) : Sem Value).run P w = .ok r w ∧ VR H θ w B z r := by
        intro r h1 h2
        exact ⟨r, by rw [Sem.run_bind, eqGuard_run rfl (by simp)]; exact h1, h2⟩
      cases op <;> simp only [Option.some.injEq, reduceCtorEq] at h
      case add => subst h; exact key _ (by simp [binOp, Op.intArith]) (.data _ _ (.int _ _))
      case sub => subst h; exact key _ (by simp [binOp, Op.intArith]) (.data _ _ (.int _ _))
      case mul => subst h; exact key _ (by simp [binOp, Op.intArith]) (.data _ _ (.int _ _))
      case quo =>
        split at h
        · cases h
        · rename_i h0
          simp only [Option.some.injEq] at h
          subst h
          exact key _ (by simp [binOp, Op.intDiv, h0]) (.data _ _ (.int _ _))
      case rem =>
        split at h
        · cases h
        · rename_i h0
          simp only [Option.some.injEq] at h
          subst h
          exact key _ (by simp [binOp, Op.intDiv, h0]) (.data _ _ (.int _ _))
      all_goals first
        | (simp only [acmp, Option.some.injEq] at h; subst h; exact key _ (by simp [binOp, Op.intCmp]) (.data _ _ (.bool _)))
        | (simp only [Option.map_eq_some_iff] at h; obtain ⟨r, hr, rfl⟩ := h; exact key _ (by have := abits_run (P := P) hr w; simpa [binOp] using this) (.data _ _ (.int _ _)))
    · cases h
  · rename_i d0 l0
    obtain ⟨ao, cap, hu, h2⟩ := hx.data_inv.list_inv
    have hv : v = .slice none 0 0 := by cases hy; rfl
    obtain ⟨pa, hpa⟩ : ∃ pa, ao = some pa := by
      rcases h2 with h2 | ⟨pa, _, _, h2, _⟩
      · cases h2
      · exact ⟨pa, h2⟩
    subst hpa
    subst hu
    subst hv
    have heq : ∀ {e : TypeId}, P.underlying t = some (.slice e) → (Op.equal t (.slice (some pa) (d0 :: l0).length cap) (.slice none 0 0)).run P w = .ok false w := fun {e} ht => by
      have : ∀ n, (Op.equalIn (n + 1) t (.slice (some pa) (d0 :: l0).length cap) (.slice none 0 0)).run P w = .ok false w := fun n => by
        simp only [Op.equalIn, Sem.run_bind, run_underlying ht, Result.andThen_ok, Sem.run_pure]
      exact this 9999
    split at h
    · rename_i ht
      simp only [Option.some.injEq] at h
      subst h
      refine ⟨.bool false, ?_, .data _ _ (.bool _)⟩
      rw [Sem.run_bind, eqGuard_run rfl (by simp)]
      simp only [Result.andThen_ok, binOp, Sem.run_bind, heq ht, Sem.run_pure]
      try rfl
    · rename_i ht
      simp only [Option.some.injEq] at h
      subst h
      refine ⟨.bool true, ?_, .data _ _ (.bool _)⟩
      rw [Sem.run_bind, eqGuard_run rfl (by simp)]
      simp only [Result.andThen_ok, binOp, Sem.run_bind, heq ht, Sem.run_pure]
      try rfl
    · cases h
  · rename_i p q
    have hx' := hx.data_inv
    have hy' := hy.data_inv
    cases op <;> simp only [reduceCtorEq] at h
    · simp only [Option.map_eq_some_iff] at h
      obtain ⟨r, hr, rfl⟩ := h
      obtain ⟨h1, h2, xs, ys, rfl, rfl⟩ := eqAgg_run (op := .eql) (ox := ox) (oy := oy) hx' hy' hr
      refine ⟨.bool r, ?_, .data _ _ (.bool _)⟩
      rw [Sem.run_bind, h1]
      simp only [Result.andThen_ok, binOp, Sem.run_bind, h2, Sem.run_pure]
    · simp only [Option.map_eq_some_iff] at h
      obtain ⟨r, hr, rfl⟩ := h
      obtain ⟨h1, h2, xs, ys, rfl, rfl⟩ := eqAgg_run (op := .neq) (ox := ox) (oy := oy) hx' hy' hr
      refine ⟨.bool (!r), ?_, .data _ _ (.bool _)⟩
      rw [Sem.run_bind, h1]
      simp only [Result.andThen_ok, binOp, Sem.run_bind, h2, Sem.run_pure]
  · rename_i m n
    have hu := hx.data_inv.str_eq
    have hv := hy.data_inv.str_eq
    subst hu
    subst hv
    have key : ∀ r, (binOp op t (.string ⟨m.toArray⟩) (.string ⟨n.toArray⟩)).run P w = .ok r w → VR H θ w B z r → ∃ r, (do eqGuard op t ox oy (.string ⟨m.toArray⟩) (.string ⟨n.toArray⟩); binOp op t (.string ⟨m.toArray⟩) (.string ⟨n.toArray⟩) : Sem Value).run P w = .ok r w ∧ VR H θ w B z r := by
      intro r h1 h2
      exact ⟨r, by rw [Sem.run_bind, eqGuard_run rfl (by simp)]; exact h1, h2⟩
    split at h
    · split at h
      · rename_i hlen
        simp only [Option.some.injEq] at h
        subst h
        have hs1 : (⟨m.toArray⟩ : ByteArray).size = m.length := by simp [ByteArray.size]
        have hs2 : (⟨n.toArray⟩ : ByteArray).size = n.length := by simp [ByteArray.size]
        have hap : (⟨m.toArray⟩ : ByteArray) ++ ⟨n.toArray⟩ = ⟨(m ++ n).toArray⟩ := by
          apply ByteArray.ext
          simp
        refine key (.string ⟨(m ++ n).toArray⟩) ?_ (.data _ _ (.str _))
        have hmax : IntKind.i64.max = 9223372036854775807 := by decide
        simp only [maxLen] at hlen
        simp only [binOp, Op.stringOp, hs1, hs2, hap, hmax]
        rw [if_neg (by omega)]
        rfl
      · cases h
    · rename_i hop
      split at h
      · rename_i b hb
        simp only [Option.some.injEq] at h
        subst h
        refine key _ ?_ (.data _ _ (.bool b))
        have hr := scmp_run (P := P) hb w
        cases op <;> simp_all [binOp]
      · cases h
  · rename_i m n
    have hu := hx.data_inv.bool_eq
    have hv := hy.data_inv.bool_eq
    subst hu
    subst hv
    split at h
    · rename_i ht
      simp only [Option.some.injEq] at h
      subst h
      refine ⟨.bool (m == n), ?_, .data _ _ (.bool _)⟩
      rw [Sem.run_bind, eqGuard_run rfl (by simp)]
      simp only [Result.andThen_ok, binOp, Sem.run_bind, equal_bool ht, Sem.run_pure]
    · rename_i ht
      simp only [Option.some.injEq] at h
      subst h
      refine ⟨.bool (!(m == n)), ?_, .data _ _ (.bool _)⟩
      rw [Sem.run_bind, eqGuard_run rfl (by simp)]
      simp only [Result.andThen_ok, binOp, Sem.run_bind, equal_bool ht, Sem.run_pure]
    · cases h
  · cases h
theorem y_bin (hs : St c H θ w sl a) {op : BinOp} {t t' : TypeId} {x y : Operand} {z : AV} (ho : o.op = .binOp op t x y t') (h : abin P op t (aev sl x) (aev sl y) = some z) : Yields P c o a w sl H θ z H := by
  obtain ⟨r, hr, hv⟩ := abin_sound (ox := x) (oy := y) (aev_sound hs x) (aev_sound hs y) h
  refine .read hs (v := r) ?_ hv
  simp only [execOp, ho]
  rw [Sem.run_bind, hr]
  rfl
theorem y_un (hs : St c H θ w sl a) {op : UnOp} {t : TypeId} {x : Operand} {z : AV} (ho : o.op = .unOp op t x) (h : aun op (aev sl x) = some z) : Yields P c o a w sl H θ z H := by
  have hx := aev_sound hs x
  unfold aun at h
  split at h
  · rename_i b hb
    simp only [Option.some.injEq] at h
    subst h
    rw [hb] at hx
    have he := hx.data_inv.bool_eq
    exact .read hs (v := .bool (!b)) (by simp [execOp, ho, he, Op.unary]) (.data _ _ (.bool _))
  · rename_i k n hn
    simp only [Option.some.injEq] at h
    subst h
    rw [hn] at hx
    have he := hx.data_inv.int_eq
    exact .read hs (v := .int k (k.wrap (0 - n))) (by simp [execOp, ho, he, Op.unary, Op.intArith]) (.data _ _ (.int _ _))
  · rename_i k n hn
    simp only [Option.map_eq_some_iff] at h
    obtain ⟨r, hr, rfl⟩ := h
    rw [hn] at hx
    have he := hx.data_inv.int_eq
    have := abits_run (P := P) hr w
    exact .read hs (v := .int k r) (by simp [execOp, ho, he, Op.unary, this]) (.data _ _ (.int _ _))
  · cases h
theorem y_makeFunc (hs : St c H θ w sl a) {f : FuncId} {caps : Array Operand} (ho : o.op = .makeFunc (.func f) #[] caps) : Yields P c o a w sl H θ (.fn f (caps.toList.map (aev sl))) H := by
  refine .read hs (v := .func (.func f) #[] (caps.map a.eval)) (by simp [execOp, ho, Instr.makeFunc]) ?_
  refine .fn f _ _ (fun i => a.eval (caps.getD i (.const undef))) (by simp) (fun i hi => ?_) (fun i hi => ?_)
  · simp only [List.length_map, Array.length_toList] at hi
    simp [hi]
  · simp only [List.length_map, Array.length_toList] at hi
    simp only [List.getElem_map, Array.getElem_toList]
    have : caps.getD i (.const undef) = caps[i] := by simp [hi]
    rw [this]
    exact aev_sound hs _
theorem y_makeFuncB (hs : St c H θ w sl a) {f : FuncId} {first : Array Operand} (ho : o.op = .makeFunc (.func f) first #[]) : Yields P c o a w sl H θ (.bnd f (first.toList.map (aev sl))) H := by
  refine .read hs (v := .func (.func f) (first.map a.eval) #[]) (by simp [execOp, ho, Instr.makeFunc]) ?_
  refine .bnd f _ _ (fun i => a.eval (first.getD i (.const undef))) (by simp) (fun i hi => ?_) (fun i hi => ?_)
  · simp only [List.length_map, Array.length_toList] at hi
    simp [hi]
  · simp only [List.length_map, Array.length_toList] at hi
    simp only [List.getElem_map, Array.getElem_toList]
    have : first.getD i (.const undef) = first[i] := by simp [hi]
    rw [this]
    exact aev_sound hs _
theorem y_extract (hs : St c H θ w sl a) {x : Operand} {i : Nat} {z : AV} (ho : o.op = .extract x i) (h : aextract (aev sl x) i = some z) : Yields P c o a w sl H θ z H := by
  have hx := aev_sound hs x
  unfold aextract at h
  split at h
  · rename_i j _ _ ds hds
    rw [hds] at hx
    split at h
    · rename_i d hd
      simp only [Option.some.injEq] at h
      subst h
      have hx' := hx.data_inv
      generalize hv : a.eval x = v at hx'
      cases hx' with
      | tup _ vs u hz hv1 hh =>
        have hi := (List.getElem?_eq_some_iff.1 hd).1
        have he := (List.getElem?_eq_some_iff.1 hd).2
        have h3 := hh j hi
        rw [he] at h3
        exact .read hs (v := u j) (by simp [execOp, ho, hv, Instr.extract, hv1 j hi]) (.data _ _ h3)
    · cases h
  · rename_i j _ _ l hl
    rw [hl] at hx
    generalize hv : a.eval x = v at hx
    cases hx with
    | tup _ vs u hz hv1 hh =>
      have hi := (List.getElem?_eq_some_iff.1 h).1
      have he := (List.getElem?_eq_some_iff.1 h).2
      have h3 := hh j hi
      rw [he] at h3
      exact .read hs (v := u j) (by simp [execOp, ho, hv, Instr.extract, hv1 j hi]) h3
  · cases h
theorem row_val (hs : HSim c H θ w) {ob n : Nat} {e : TypeId} {sz : Nat} {l : List D} {v : Value} (hx : VR H θ w (vis c H θ w) (.row ob n) v) (hg : H.get ob = some (.row e sz l)) (hn : l.length = n) :
    v = θ ob ∧ ∃ ao cap, v = .slice ao n cap := by
  cases hx with
  | row _ _ _ hv hr h =>
    have he := (h _ _ hg rfl).2 hn
    obtain ⟨_, _, _, vs, hown, _, _⟩ := row_cells hs hg
    rw [← he] at hown
    refine ⟨he, ?_⟩
    rcases hown.2 with ⟨h1, h3⟩ | ⟨g, cap, cur, h1, _⟩
    · exact ⟨none, 0, by rw [h1, ← hn, h3]⟩
    · exact ⟨_, cap, by rw [h1, hn]⟩
theorem frz_val (hs : HSim c H θ w) {ob n : Nat} {l : List D} {v : Value} (hx : VR H θ w (vis c H θ w) (.row ob n) v) (hg : H.get ob = some (.frz l)) (hn : l.length = n) :
    DR w (vis c H θ w) (.list l) v := by
  cases hx with
  | row _ _ _ hv hr h =>
    rw [(h _ _ hg rfl).2 hn]
    exact hs.objs ob _ hg
theorem arr_val (hs : HSim c H θ w) {ob n : Nat} {e : TypeId} {sz m : Nat} {cs : List AV} {v : Value} (hx : VR H θ w (vis c H θ w) (.row ob n) v) (hg : H.get ob = some (.arr e sz m cs)) (hn : m = n) :
    v = θ ob ∧ ∃ ao cap, v = .slice ao n cap := by
  cases hx with
  | row _ _ _ hv hr h =>
    have he := (h _ _ hg rfl).2 hn
    obtain ⟨_, _, vs, hown, _, _⟩ := arr_cells hs hg
    rw [← he] at hown
    refine ⟨he, ?_⟩
    rcases hown.2 with ⟨h1, h3⟩ | ⟨g, cap, cur, h1, _⟩
    · exact ⟨none, 0, by rw [h1, ← hn, h3]⟩
    · exact ⟨_, cap, by rw [h1, hn]⟩
theorem map_val (hs : HSim c H θ w) {ob : Nat} {ks vs : List D} {v : Value} (hx : VR H θ w (vis c H θ w) (.mref ob) v) (hg : H.get ob = some (.map ks vs)) :
    ∃ b clock es, v = .map (some b) ∧ θ ob = .map (some b) ∧ w.heap[b]? = some (.map es clock) ∧ (c.n0 ≤ b ∨ c.Init b) ∧ es.size = ks.length ∧ es.size = vs.length ∧ Born es clock ∧
      (∀ i (hi : i < ks.length) e, es[i]? = some e → DR w (vis c H θ w) (ks[i]) e.key) ∧ ∀ i (hi : i < vs.length) e, es[i]? = some e → DR w (vis c H θ w) (vs[i]) e.val := by
  cases hx with
  | mref _ _ hv hr h =>
    obtain ⟨b, clock, es, h1, h2⟩ := hs.objs ob _ hg
    exact ⟨b, clock, es, by rw [h ks vs hg, h1], h1, h2⟩
theorem alen_sound (hs : HSim c H θ w) {t ty : TypeId} {x : AV} {v : Value} {n : Int} (hx : VR H θ w (vis c H θ w) x v) (h : alen P H t x = some n) :
    (Builtin.len_ #[t] ty #[v]).run P w = .ok (.int .i64 n) w := by
  have hslice : ∀ {e ao m cap}, P.underlying t = some (.slice e) → v = .slice ao m cap → n = (m : Int) → (Builtin.len_ #[t] ty #[v]).run P w = .ok (.int .i64 n) w := by
    intro e ao m cap hu hv hn
    subst hv
    subst hn
    simp [Builtin.len_, run_underlying hu, goInt]
  unfold alen at h
  split at h
  · rename_i e hu
    split at h
    · simp only [Option.some.injEq] at h
      subst h
      obtain ⟨ao, cap, rfl, _⟩ := hx.data_inv.list_inv
      exact hslice hu rfl rfl
    · simp only [Option.some.injEq] at h
      subst h
      cases hx
      exact hslice hu rfl rfl
    · split at h
      · rename_i hg
        split at h
        · rename_i hn
          simp only [Option.some.injEq] at h
          subst h
          obtain ⟨_, ao, cap, hv⟩ := row_val hs hx hg hn
          exact hslice hu hv rfl
        · cases h
      · rename_i hg
        split at h
        · rename_i hn
          simp only [Option.some.injEq] at h
          subst h
          obtain ⟨ao, cap, hv, _⟩ := (frz_val hs hx hg hn).list_inv
          rw [hn] at hv
          exact hslice hu hv rfl
        · cases h
      · rename_i hg
        split at h
        · rename_i hn
          simp only [Option.some.injEq] at h
          subst h
          obtain ⟨_, ao, cap, hv⟩ := arr_val hs hx hg hn
          exact hslice hu hv rfl
        · cases h
      · cases h
    · cases h
  · rename_i hu
    split at h
    · rename_i ks vs
      simp only [Option.some.injEq] at h
      subst h
      have hd := hx.data_inv
      cases hd with
      | nilmap => simp [Builtin.len_, run_underlying hu, goInt]
      | map _ _ b clock es hb hw hk hv _ _ _ => simp [Builtin.len_, run_underlying hu, goInt, run_getObj_map w b es clock hw, hk]
    · split at h
      · rename_i hg
        simp only [Option.some.injEq] at h
        subst h
        obtain ⟨b, clock, es, rfl, _, hw, _, hk, _⟩ := map_val hs hx hg
        simp [Builtin.len_, run_underlying hu, goInt, run_getObj_map w b es clock hw, hk]
      · cases h
    · cases h
  · rename_i hu
    split at h
    · simp only [Option.some.injEq] at h
      subst h
      have hv := hx.data_inv.str_eq
      subst hv
      rename_i s
      have hz : (⟨s.toArray⟩ : ByteArray).size = s.length := by simp [ByteArray.size]
      simp [Builtin.len_, run_underlying hu, goInt, hz]
    · cases h
  · cases h
end
end Go.Ab
namespace Go.Ab
open Go Go.RowKit
theorem run_mapM_list {α β : Type} {P : Program} {w : World} (f : α → Sem β) (g : α → Option β) (hf : ∀ x y, g x = some y → (f x).run P w = .ok y w) :
    ∀ (l : List α) (r : List β), l.mapM g = some r → (l.mapM f).run P w = .ok r w
  | [], r, h => by simp at h; subst h; simp
  | x :: l, r, h => by
    simp only [List.mapM_cons, Option.bind_eq_bind, Option.bind_eq_some_iff, Option.pure_def, Option.some.injEq] at h
    obtain ⟨y, hy, r', hr, rfl⟩ := h
    simp [List.mapM_cons, hf x y hy, run_mapM_list f g hf l r' hr]
theorem run_mapM {α β : Type} {P : Program} {w : World} (f : α → Sem β) (g : α → Option β) (hf : ∀ x y, g x = some y → (f x).run P w = .ok y w) (a : Array α) (r : List β) (h : a.toList.mapM g = some r) :
    (a.mapM f).run P w = .ok r.toArray w := by
  have h1 := run_mapM_list f g hf a.toList r h
  rw [Array.mapM_eq_mapM_toList]
  simp [h1]
theorem tplaces_mapM {P : Program} : ∀ (fs : List Field) (l : List (Nat × Nat)), tplaces P fs = some l → fs.mapM (fun f => (tsize P f.type).map fun n => (f.offset, n)) = some l
  | [], l, h => by simp only [tplaces, Option.some.injEq] at h; subst h; simp
  | f :: r, l, h => by
    simp only [tplaces] at h
    split at h
    · rename_i n l' h1 h2
      simp only [Option.some.injEq] at h
      subst h
      simp [List.mapM_cons, h1, tplaces_mapM r l' h2]
    · cases h
section
variable {P : Program} {c : Ctx} {H H' : Heap} {θ θ' : Nat → Value} {w w' : World} {sl : List AV} {a : Act} {o : Oper} {r : AV}
theorem fill_step (off : Nat) (vc cells : List Value) (h : off + vc.length ≤ cells.length) :
    vc.zipIdx.foldl (fun (cs : Array Value) (x : Value × Nat) => cs.setIfInBounds (off + x.2) x.1) cells.toArray = (over off vc cells).toArray := by
  have key : ∀ (vc : List Value) (k : Nat) (cells : List Value), off + k + vc.length ≤ cells.length →
      (vc.zipIdx k).foldl (fun (cs : Array Value) (x : Value × Nat) => cs.setIfInBounds (off + x.2) x.1) cells.toArray = (over (off + k) vc cells).toArray := by
    intro vc
    induction vc with
    | nil => intro k cells _; simp [over]
    | cons x vc ih =>
      intro k cells hl
      simp only [List.length_cons] at hl
      simp only [List.zipIdx_cons, List.foldl_cons, List.setIfInBounds_toArray]
      rw [ih (k + 1) (cells.set (off + k) x) (by simp; omega)]
      congr 1
      apply List.ext_getElem?
      intro i
      rw [over_get (by simp; omega), over_get (by simp; omega), List.getElem?_set]
      simp only [List.length_cons]
      by_cases c1 : i < off + k
      · rw [if_pos (by omega), if_pos c1, if_neg (by omega)]
      · rw [if_neg c1]
        by_cases c2 : i = off + k
        · subst c2
          rw [if_pos (by omega), if_pos rfl, if_pos (by omega), if_pos (by omega)]
          simp
        · rw [if_neg (show ¬ i < off + (k + 1) by omega)]
          by_cases c3 : i < off + (k + 1) + vc.length
          · rw [if_pos c3, if_pos (by omega), show i - (off + k) = (i - (off + (k + 1))) + 1 from by omega, List.getElem?_cons_succ]
          · rw [if_neg c3, if_neg (by omega), if_neg (by omega)]
  have := key vc 0 cells (by omega)
  simpa using this
theorem fill_sound {place : Nat → Option (Nat × Nat)} {B : Nat → Prop} : ∀ (parts : List (Nat × Operand)) (vals : Operand → Value) (avs : Operand → AV) (cells : List AV) (vs : List Value) (cs : List AV),
    (∀ x, VR H θ w B (avs x) (vals x)) → vs.length = cells.length → (∀ i (hi : i < cells.length) u, vs[i]? = some u → VR H θ w B (cells[i]) u ∧ u.oneCell' = true) →
    setCells cells place (parts.map fun (i, x) => (i, avs x)) = some cs →
    ∃ vs' : List Value, Instr.fill place vs.toArray (parts.map fun (i, x) => (i, vals x)) = some vs'.toArray ∧ vs'.length = cs.length ∧ ∀ i (hi : i < cs.length) u, vs'[i]? = some u → VR H θ w B (cs[i]) u ∧ u.oneCell' = true
  | [], vals, avs, cells, vs, cs, hx, hl, hv, h => by
    simp only [List.map_nil, setCells, Option.some.injEq] at h
    subst h
    exact ⟨vs, rfl, hl, hv⟩
  | (i, x) :: parts, vals, avs, cells, vs, cs, hx, hl, hv, h => by
    simp only [List.map_cons, setCells] at h
    split at h
    · rename_i off size xs hp hc
      split at h
      · rename_i hsz
        split at h
        · rename_i cells' hlay
          obtain ⟨hz, hxs⟩ := cells_sound (hx x) hc
          obtain ⟨hfit, rfl⟩ := lay_some hlay
          have hcond : ((vals x).cells.size ≠ size || decide (off + (vals x).cells.size > vs.toArray.size)) = false := by
            simp only [List.size_toArray, hz, hsz, hl]
            simp
            omega
          have hstep := fill_step off (vals x).cells.toList vs (by simp only [Array.length_toList]; omega)
          obtain ⟨vs', h1, h2, h3⟩ := fill_sound parts vals avs (over off xs cells) (over off (vals x).cells.toList vs) cs hx
            (by rw [over_length (by simp only [Array.length_toList]; omega), over_length hfit, hl])
            (fun j hj u hu => by
              rw [over_get (by simp only [Array.length_toList]; omega)] at hu
              have hj' : j < cells.length := by rw [over_length hfit] at hj; exact hj
              have hx' : (over off xs cells)[j]? = some (over off xs cells)[j] := List.getElem?_eq_getElem hj
              rw [over_get hfit] at hx'
              simp only [Array.length_toList, hz] at hu
              by_cases c1 : j < off
              · rw [if_pos c1] at hu hx'
                rw [List.getElem?_eq_getElem hj', Option.some.injEq] at hx'
                rw [← hx']
                exact hv j hj' u hu
              · rw [if_neg c1] at hu hx'
                by_cases c2 : j < off + xs.length
                · rw [if_pos c2] at hu hx'
                  rw [List.getElem?_eq_getElem (show j - off < xs.length by omega), Option.some.injEq] at hx'
                  rw [← hx']
                  exact hxs (j - off) (by omega) u (by simpa using hu)
                · rw [if_neg c2] at hu hx'
                  rw [List.getElem?_eq_getElem hj', Option.some.injEq] at hx'
                  rw [← hx']
                  exact hv j hj' u hu) h
          refine ⟨vs', ?_, h2, h3⟩
          simp only [List.map_cons, Instr.fill, hp]
          rw [if_neg (by rw [hcond]; simp)]
          rw [← h1]
          congr 1
          rw [← hstep]
          rw [← Array.foldl_toList, Array.toList_zipIdx]
        · cases h
      · cases h
    · cases h
theorem y_build (hs : St c H θ w sl a) {t : TypeId} {parts : Array (Nat × Operand)} {y : AV} (ho : o.op = .build t parts) (h : abuild P t (parts.toList.map fun (i, x) => (i, aev sl x)) = some y) : Yields P c o a w sl H θ y H := by
  unfold abuild at h
  split at h
  · rename_i fs z hu hz
    split at h
    · rename_i cells pl hc hpl
      split at h
      · rename_i cs hset
        simp only [Option.some.injEq] at h
        subst h
        have hz' := hz
        simp only [tzero, Option.bind_eq_some_iff] at hz'
        obtain ⟨i, hi, hzz⟩ := hz'
        obtain ⟨hsz, hcs⟩ := cells_sound (cav_sound (H := H) (θ := θ) (w := w) (B := vis c H θ w) z) hc
        obtain ⟨vs', h1, h2, h3⟩ := fill_sound parts.toList a.eval (aev sl) cells z.cells.toList cs (fun x => aev_sound hs x) (by simpa using hsz) (fun i hi u hu => hcs i hi u (by simpa using hu)) hset
        refine .read hs (v := .agg vs'.toArray) ?_ (mkAgg_sound (.agg _ _ (fun i => vs'.getD i undef) (by simpa using h2) (fun i hi => ?_) (fun i hi => ?_)))
        · have hm := run_mapM (P := P) (w := w) (fun f : Field => (do pure (f.offset, ← sizeOf f.type) : Sem (Nat × Nat))) (fun f => (tsize P f.type).map fun n => (f.offset, n))
            (fun f y hy => by
              simp only [Option.map_eq_some_iff] at hy
              obtain ⟨n, hn, rfl⟩ := hy
              simp [run_sizeOf' hn]) fs pl (tplaces_mapM _ _ hpl)
          have hpl' : (fun (i : Nat) => pl.toArray[i]?) = fun (i : Nat) => pl[i]? := by funext i; simp
          simp only [Array.toArray_toList] at h1
          simp only [execOp, ho, Instr.build, Sem.run_bind, zeroValue, typeInfo, run_program, Result.andThen_ok, hi, Sem.run_pure, hzz, run_underlying hu, hm, hpl']
          have hmap : (Array.map (fun x => (x.1, a.eval x.2)) parts).toList = parts.toList.map fun x => (x.1, a.eval x.2) := by simp
          rw [hmap, h1]
          rfl
        · have : i < vs'.length := by omega
          have hx : vs'[i]? = some (vs'.getD i undef) := by simp [this]
          exact ⟨by simpa using hx, (h3 i hi _ hx).2⟩
        · have : i < vs'.length := by omega
          have hx : vs'[i]? = some (vs'.getD i undef) := by simp [this]
          exact (h3 i hi _ hx).1
      · cases h
    · cases h
  · cases h
end
end Go.Ab
