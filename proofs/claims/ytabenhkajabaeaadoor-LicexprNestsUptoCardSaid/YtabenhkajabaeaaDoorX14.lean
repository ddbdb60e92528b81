/-
  One text of the proof (own work): contracts of functions of the program, by the abstract machine.
-/
import Derived.Test.YtabenhkajabaeaaDoorX13
set_option linter.unusedVariables false
set_option linter.unusedSimpArgs false
namespace Go.Ab
open Go Go.RowKit
section
variable {P : Program} {c : Ctx} {H H' : Heap} {θ θ' : Nat → Value} {w w' : World} {sl : List AV} {a : Act} {o : Oper} {r : AV}
theorem y_call (hs : St c H θ w sl a) {k : Nat} (hbk : H.bnd k) (hnk : H.next ≤ k) {fo : Operand} {args : Array Operand} {ts : Array TypeId} {f : FuncId} {caps : List AV} {s : CSpec} (ho : o.op = .call { callee := .value fo, args := args, argTypes := ts })
    (hf : calleeN (aev sl fo) args.toList.isEmpty = some (f, caps)) (hS : SpecOK P f s) (h : acall k H s (args.toList.map (aev sl) ++ caps) = some (r, H')) : Yields P c o a w sl H θ r H' := by
  have hk : ¬ H.ref k := by
    rintro (h | h)
    · omega
    · have := hbk k h; omega
  obtain ⟨cs, hinv, hcz, hcs⟩ : ∃ cs : Array Value, ((callFunc f (args.map a.eval ++ cs)).run P w = .ok (.enter f (args.map a.eval ++ cs)) w → (execOp a.eval o).run P w = .ok (.enter f (args.map a.eval ++ cs)) w) ∧ cs.size = caps.length ∧ ∀ i (hi : i < caps.length) u, cs[i]? = some u → VR H θ w (vis c H θ w) (caps[i]) u := by
    have hfo := aev_sound hs fo
    unfold calleeN at hf
    split at hf
    · rename_i f' l he
      split at hf
      · rename_i hb
        simp only [Option.some.injEq, Prod.mk.injEq] at hf
        obtain ⟨rfl, rfl⟩ := hf
        have hargs0 : args = #[] := by apply Array.ext'; simpa using hb
        subst hargs0
        rw [he] at hfo
        generalize hfv : a.eval fo = fv at hfo
        cases hfo with
        | bnd _ _ vs u hz hv hh =>
          refine ⟨vs, fun h1 => ?_, hz, fun i hi x hx => ?_⟩
          · have h1' : (callFunc f' vs).run P w = .ok (.enter f' vs) w := by simpa using h1
            simp [execOp, ho, resolve, hfv, Deferred.ofValue, invoke, h1']
          · have := hv i hi
            rw [hx] at this
            simp only [Option.some.injEq] at this
            subst this
            exact hh i hi
      · cases hf
    · unfold callee at hf
      split at hf
      · rename_i f' cps he
        simp only [Option.some.injEq, Prod.mk.injEq] at hf
        obtain ⟨rfl, rfl⟩ := hf
        rw [he] at hfo
        have hd := hfo.data_inv
        generalize hfv : a.eval fo = fv at hd
        cases hd with
        | clo _ _ vs u hz hv hh =>
          refine ⟨vs, fun h1 => by simp [execOp, ho, resolve, hfv, Deferred.ofValue, invoke, h1], by simpa using hz, fun i hi x hx => ?_⟩
          simp only [List.length_map] at hi
          have := hv i hi
          rw [hx] at this
          simp only [Option.some.injEq] at this
          subst this
          simp only [List.getElem_map]
          exact .data _ _ (hh i hi)
      · rename_i f' cps he
        simp only [Option.some.injEq, Prod.mk.injEq] at hf
        obtain ⟨rfl, rfl⟩ := hf
        rw [he] at hfo
        generalize hfv : a.eval fo = fv at hfo
        cases hfo with
        | fn _ _ vs u hz hv hh =>
          refine ⟨vs, fun h1 => by simp [execOp, ho, resolve, hfv, Deferred.ofValue, invoke, h1], hz, fun i hi x hx => ?_⟩
          have := hv i hi
          rw [hx] at this
          simp only [Option.some.injEq] at this
          subst this
          exact hh i hi
      · cases hf
  have hargz : (args.map a.eval ++ cs).size = (args.toList.map (aev sl) ++ caps).length := by simp [hcz]
  have hargs : ∀ {H1 : Heap}, St c H1 θ w sl a → (∀ x u, x ∈ caps → VR H θ w (vis c H θ w) x u → VR H1 θ w (vis c H1 θ w) x u) → ∀ i (hi : i < (args.toList.map (aev sl) ++ caps).length) u, (args.map a.eval ++ cs)[i]? = some u → VR H1 θ w (vis c H1 θ w) ((args.toList.map (aev sl) ++ caps)[i]) u := by
    intro H1 hs1 hcap i hi u hu
    by_cases c1 : i < args.size
    · rw [Array.getElem?_append_left (by simpa using c1)] at hu
      rw [List.getElem_append_left (by simpa using c1)]
      simp only [List.getElem_map, Array.getElem_toList]
      rw [Array.getElem?_map, Array.getElem?_eq_getElem c1] at hu
      simp only [Option.map_some, Option.some.injEq] at hu
      subst hu
      exact aev_sound hs1 _
    · rw [Array.getElem?_append_right (by simp; omega)] at hu
      rw [List.getElem_append_right (by simp; omega)]
      simp only [Array.size_map, List.length_map, Array.length_toList] at hu ⊢
      have hi2 : i - args.size < caps.length := by simp only [List.length_append, List.length_map, Array.length_toList] at hi; omega
      exact hcap _ _ (List.getElem_mem hi2) (hcs _ hi2 u hu)
  have go : ∀ (R : Value → World → Prop), CallOK P f (args.map a.eval ++ cs) w R → ∀ (K : Act → World → Prop) (Q : Exit → Act → World → Prop), (∀ v w', R v w' → K (a.put o.dst v) w') → o.wp P a w K Q := by
    rintro R ⟨⟨fn, hfn, hname, hbody⟩, hcalls⟩ K Q hK
    have hrun : (execOp a.eval o).run P w = .ok (.enter f (args.map a.eval ++ cs)) w := by
      have h1 : (callFunc f (args.map a.eval ++ cs)).run P w = .ok (.enter f (args.map a.eval ++ cs)) w := by
        simp only [callFunc, Sem.run_bind, run_program, Result.andThen_ok, hfn, hname, hbody, Bool.false_eq_true, if_false, Sem.run_pure]
      exact hinv h1
    unfold Oper.wp
    rw [hrun, Oper.upon_enter]
    refine hcalls.mono ?_
    rintro e w' ⟨v, rfl, hR⟩
    exact hK v w' hR
  have hnew : ∀ {H1 : Heap} {w' : World}, HSim c H1 θ w → Below w.heap.size w w' → ∀ b, (vis c H1 θ w b ∨ (w.heap.size ≤ b ∧ b < w'.heap.size)) → vis c H1 θ w' b := by
    intro H1 w' hs1 hb b hor
    rcases hor with h1 | ⟨h1, h2⟩
    · exact ⟨by have := h1.1; have := hb.size; omega, h1.2.1, h1.2.2⟩
    · exact ⟨h2, fun ho => by have := own_lt hs1 ho; omega, fun hlt => by have := hs1.size; omega⟩
  have hkept : ∀ {w' : World}, Below w.heap.size w w' → Kept c w w' := fun hb => ⟨hb.os, hb.tape, hb.output, hb.size, fun b h1 _ => hb.block b (Nat.lt_of_lt_of_le h1 hs.sim.size)⟩
  unfold acall at h
  split at h
  · rename_i g
    have hcall := loc_call hs.sim hbk hnk hS hargz (hargs hs (fun _ _ _ h => h)) h
    intro K Q hK
    refine go _ hcall K Q fun v w' hR => ?_
    obtain ⟨θ', h1, h2, h3, h4, h5⟩ := hR
    exact hK v w' θ' h2 ⟨h1, hs.defers, hs.size, fun i x u hx hu => (hs.vals i x u hx hu).mono h5 h4⟩ h3 h4
  · rename_i g
    split at h
    · rename_i ds hds
      split at h
      · rename_i d hd
        simp only [Option.some.injEq, Prod.mk.injEq] at h
        obtain ⟨rfl, rfl⟩ := h
        obtain ⟨hl, hds⟩ := mapOpt_some hds
        obtain ⟨hfl, hcall⟩ := hS ds d hd
        have hcall := hcall w (seen c w) (args.map a.eval ++ cs) (fun b hb => hb.1) (by rw [hargz, hl]) (fun i hi u hu => toD_sound hs.sim 4 _ _ _ (hargs hs (fun _ _ _ h => h) i (by omega) u hu) (hds i (by omega) hi))
        intro K Q hK
        refine go _ hcall K Q fun v w' hR => ?_
        obtain ⟨hdr, hb⟩ := hR
        have hs' := hs.grow (w' := w') hb.block hb.size
        exact hK v w' θ (.data _ _ (hdr.flat (hfl rfl))) hs' (hkept hb) (HLe.refl _ _)
      · cases h
    · cases h
  · rename_i g
    split at h
    · rename_i H1 hfr
      obtain ⟨hf1, hf2, hf3⟩ := freeze_closed _ _ _ hfr
      obtain ⟨hs1, hl1⟩ := hf1 _ _ _ _ _ hs
      split at h
      · rename_i ds hds
        split at h
        · rename_i d hd
          simp only [Option.some.injEq, Prod.mk.injEq] at h
          obtain ⟨rfl, rfl⟩ := h
          obtain ⟨hl, hds⟩ := mapOpt_some hds
          obtain ⟨hfl, hcall⟩ := hS ds d hd
          have hcap : ∀ x u, x ∈ caps → VR H θ w (vis c H θ w) x u → VR H1 θ w (vis c H1 θ w) x u := fun x u _ hxu => vr_of_st hs (fun sl a h => hf1 _ _ _ _ _ h) hxu
          have hcall := hcall w (vis c H1 θ w) (args.map a.eval ++ cs) (fun b hb => hb.1) (by rw [hargz, hl]) (fun i hi u hu => closed_reads hs1.sim (hargs hs1 hcap i (by omega) u hu) (hf3 _ (List.getElem_mem _)) (hds i (by omega) hi))
          intro K Q hK
          refine go _ hcall K Q fun v w' hR => ?_
          obtain ⟨hdr, hb⟩ := hR
          have hs' := hs1.grow (w' := w') hb.block hb.size
          exact hK v w' θ (.data _ _ (hdr.mono fun b hb' => ⟨hnew hs1.sim hb b hb', rfl⟩)) hs' (hkept hb) hl1
        · cases h
      · cases h
    · cases h
  · rename_i g
    split at h
    · rename_i H1 hfr
      obtain ⟨hf1, hf2, hf3⟩ := freeze_closed _ _ _ hfr
      obtain ⟨hs1, hl1⟩ := hf1 _ _ _ _ _ hs
      split at h
      · rename_i ds hds
        split at h
        · rename_i e sz l hd
          simp only [Option.some.injEq, Prod.mk.injEq] at h
          obtain ⟨rfl, rfl⟩ := h
          obtain ⟨hl, hds⟩ := mapOpt_some hds
          obtain ⟨hsz, hcl, hone, hcall⟩ := hS ds e sz l hd
          have hcap : ∀ x u, x ∈ caps → VR H θ w (vis c H θ w) x u → VR H1 θ w (vis c H1 θ w) x u := fun x u _ hxu => vr_of_st hs (fun sl a h => hf1 _ _ _ _ _ h) hxu
          have hcall := hcall w (vis c H1 θ w) (args.map a.eval ++ cs) (fun b hb => hb.1) (by rw [hargz, hl]) (fun i hi u hu => closed_reads hs1.sim (hargs hs1 hcap i (by omega) u hu) (hf3 _ (List.getElem_mem _)) (hds i (by omega) hi))
          have hk1 : ¬ H1.ref k := fun hr => hk (freeze_ref _ _ _ hfr k hr)
          intro K Q hK
          refine go _ hcall K Q fun v w' hR => ?_
          obtain ⟨⟨us, hrow, hel⟩, hb⟩ := hR
          obtain ⟨θ', g1, g2, g3⟩ := add_row' (w' := w') hs1 hk1 hsz hcl hone hrow hel hb.block hb.size
          exact hK v w' θ' g1 g2 (hkept hb) (hl1.trans g3)
        · cases h
      · cases h
    · cases h
end
end Go.Ab
