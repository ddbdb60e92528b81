/-
  One text of the proof (own work): contracts of functions of the program, by the abstract machine.
-/
import Derived.Test.YtapnigckcnknoaaDoorX7
set_option linter.unusedVariables false
set_option linter.unusedSimpArgs false
namespace Go.Ab
open Go Go.RowKit
section
variable {P : Program} {c : Ctx} {H H' : Heap} {θ θ' : Nat → Value} {w w' : World} {sl : List AV} {a : Act} {o : Oper} {r : AV}
theorem y_call (hs : St c H θ w sl a) {k : Nat} (hbk : H.bnd k) (hnk : H.next ≤ k) {fo : Operand} {args : Array Operand} {ts : Array TypeId} {f : FuncId} {caps : List AV} {s : CSpec} (ho : o.op = .call { callee := .value fo, args := args, argTypes := ts })
    (hf : calleeN (aev sl fo) args.toList.isEmpty = some (f, caps)) (hS : SpecOK P f s) (h : acall k H s (args.toList.map (aev sl) ++ caps) = some (r, H')) : Yields P c o a w sl H θ r H' := by
  have hk : ¬ H.ref k := by
    rintro (h | h)
    · omega
    · have := hbk k h; omega
  obtain ⟨cs, hinv, hcz, hcs⟩ : ∃ cs : Array Value, ((callFunc f (args.map a.eval ++ cs)).run P w = .ok (.enter f (args.map a.eval ++ cs)) w → (execOp a.eval o).run P w = .ok (.enter f (args.map a.eval ++ cs)) w) ∧ cs.size = caps.length ∧ ∀ i (hi : i < caps.length) u, cs[i]? = some u → VR H θ w (vis c H θ w) (caps[i]) u := by
    have hfo := aev_sound hs fo
    unfold calleeN at hf
    split at hf
    · rename_i f' l he
      split at hf
      · rename_i hb
        simp only [Option.some.injEq, Prod.mk.injEq] at hf
        obtain ⟨rfl, rfl⟩ := hf
        have hargs0 : args = #[] := by apply Array.ext'; simpa using hb
        subst hargs0
        rw [he] at hfo
        generalize hfv : a.eval fo = fv at hfo
        cases hfo with
        | bnd _ _ vs u hz hv hh =>
          refine ⟨vs, fun h1 => ?_, hz, fun i hi x hx => ?_⟩
          · have h1' : (callFunc f' vs).run P w = .ok (.enter f' vs) w := by simpa using h1
            simp [execOp, ho, resolve, hfv, Deferred.ofValue, invoke, h1']
          · have := hv i hi
            rw [hx] at this
            simp only [Option.some.injEq] at this
            subst this
            exact hh i hi
      · cases hf
    · unfold callee at hf
      split at hf
      · rename_i f' cps he
        simp only [Option.some.injEq, Prod.mk.injEq] at hf
        obtain ⟨rfl, rfl⟩ := hf
        rw [he] at hfo
        have hd := hfo.data_inv
        generalize hfv : a.eval fo = fv at hd
        cases hd with
        | clo _ _ vs u hz hv hh =>
          refine ⟨vs, fun h1 => by simp [execOp, ho, resolve, hfv, Deferred.ofValue, invoke, h1], by simpa using hz, fun i hi x hx => ?_⟩
          simp only [List.length_map] at hi
          have := hv i hi
          rw [hx] at this
          simp only [Option.some.injEq] at this
          subst this
          simp only [List.getElem_map]
          exact .data _ _ (hh i hi)
      · rename_i f' cps he
        simp only [Option.some.injEq, Prod.mk.injEq] at hf
        obtain ⟨rfl, rfl⟩ := hf
        rw [he] at hfo
        generalize hfv : a.eval fo = fv at hfo
        cases hfo with
        | fn _ _ vs u hz hv hh =>
          refine ⟨vs, fun h1 => by simp [execOp, ho, resolve, hfv, Deferred.ofValue, invoke, h1], hz, fun i hi x hx => ?_⟩
          have := hv i hi
          rw [hx] at this
          simp only [Option.some.injEq] at this
          subst this
          exact hh i hi
      · cases hf
  have hargz : (args.map a.eval ++ cs).size = (args.toList.map (aev sl) ++ caps).length := by simp [hcz]
  have hargs : ∀ {H1 : Heap}, St c H1 θ w sl a → (∀ x u, x ∈ caps → VR H θ w (vis c H θ w) x u → VR H1 θ w (vis c H1 θ w) x u) → ∀ i (hi : i < (args.toList.map (aev sl) ++ caps).length) u, (args.map a.eval ++ cs)[i]? = some u → VR H1 θ w (vis c H1 θ w) ((args.toList.map (aev sl) ++ caps)[i]) u := by
    intro H1 hs1 hcap i hi u hu
    by_cases c1 : i < args.size
    · rw [Array.getElem?_append_left (by simpa using c1)] at hu
      rw [List.getElem_append_left (by simpa using c1)]
      simp only [List.getElem_map, Array.getElem_toList]
      rw [Array.getElem?_map, Array.getElem?_eq_getElem c1] at hu
      simp only [Option.map_some, Option.some.injEq] at hu
      subst hu
      exact aev_sound hs1 _
    · rw [Array.getElem?_append_right (by simp; omega)] at hu
      rw [List.getElem_append_right (by simp; omega)]
      simp only [Array.size_map, List.length_map, Array.length_toList] at hu ⊢
      have hi2 : i - args.size < caps.length := by simp only [List.length_append, List.length_map, Array.length_toList] at hi; omega
      exact hcap _ _ (List.getElem_mem hi2) (hcs _ hi2 u hu)
  have go : ∀ (R : Value → World → Prop), CallOK P f (args.map a.eval ++ cs) w R → ∀ (K : Act → World → Prop) (Q : Exit → Act → World → Prop), (∀ v w', R v w' → K (a.put o.dst v) w') → o.wp P a w K Q := by
    rintro R ⟨⟨fn, hfn, hname, hbody⟩, hcalls⟩ K Q hK
    have hrun : (execOp a.eval o).run P w = .ok (.enter f (args.map a.eval ++ cs)) w := by
      have h1 : (callFunc f (args.map a.eval ++ cs)).run P w = .ok (.enter f (args.map a.eval ++ cs)) w := by
        simp only [callFunc, Sem.run_bind, run_program, Result.andThen_ok, hfn, hname, hbody, Bool.false_eq_true, if_false, Sem.run_pure]
      exact hinv h1
    unfold Oper.wp
    rw [hrun, Oper.upon_enter]
    refine hcalls.mono ?_
    rintro e w' ⟨v, rfl, hR⟩
    exact hK v w' hR
  have hnew : ∀ {H1 : Heap} {w' : World}, HSim c H1 θ w → Below w.heap.size w w' → ∀ b, (vis c H1 θ w b ∨ (w.heap.size ≤ b ∧ b < w'.heap.size)) → vis c H1 θ w' b := by
    intro H1 w' hs1 hb b hor
    rcases hor with h1 | ⟨h1, h2⟩
    · exact ⟨by have := h1.1; have := hb.size; omega, h1.2.1, h1.2.2⟩
    · exact ⟨h2, fun ho => by have := own_lt hs1 ho; omega, fun hlt => by have := hs1.size; omega⟩
  have hkept : ∀ {w' : World}, Below w.heap.size w w' → Kept c w w' := fun hb => ⟨hb.os, hb.tape, hb.output, hb.size, fun b h1 _ => hb.block b (Nat.lt_of_lt_of_le h1 hs.sim.size)⟩
  unfold acall at h
  split at h
  · rename_i g
    have hcall := loc_call hs.sim hbk hnk hS hargz (hargs hs (fun _ _ _ h => h)) h
    intro K Q hK
    refine go _ hcall K Q fun v w' hR => ?_
    obtain ⟨θ', h1, h2, h3, h4, h5⟩ := hR
    exact hK v w' θ' h2 ⟨h1, hs.defers, hs.size, fun i x u hx hu => (hs.vals i x u hx hu).mono h5 h4⟩ h3 h4
  · rename_i g
    split at h
    · rename_i ds hds
      split at h
      · rename_i d hd
        simp only [Option.some.injEq, Prod.mk.injEq] at h
        obtain ⟨rfl, rfl⟩ := h
        obtain ⟨hl, hds⟩ := mapOpt_some hds
        obtain ⟨hfl, hcall⟩ := hS ds d hd
        have hcall := hcall w (seen c w) (args.map a.eval ++ cs) (fun b hb => hb.1) (by rw [hargz, hl]) (fun i hi u hu => toD_sound hs.sim 4 _ _ _ (hargs hs (fun _ _ _ h => h) i (by omega) u hu) (hds i (by omega) hi))
        intro K Q hK
        refine go _ hcall K Q fun v w' hR => ?_
        obtain ⟨hdr, hb⟩ := hR
        have hs' := hs.grow (w' := w') hb.block hb.size
        exact hK v w' θ (.data _ _ (hdr.flat (hfl rfl))) hs' (hkept hb) (HLe.refl _ _)
      · cases h
    · cases h
  · rename_i g
    split at h
    · rename_i H1 hfr
      obtain ⟨hf1, hf2, hf3⟩ := freeze_closed _ _ _ hfr
      obtain ⟨hs1, hl1⟩ := hf1 _ _ _ _ _ hs
      split at h
      · rename_i ds hds
        split at h
        · rename_i d hd
          simp only [Option.some.injEq, Prod.mk.injEq] at h
          obtain ⟨rfl, rfl⟩ := h
          obtain ⟨hl, hds⟩ := mapOpt_some hds
          obtain ⟨hfl, hcall⟩ := hS ds d hd
          have hcap : ∀ x u, x ∈ caps → VR H θ w (vis c H θ w) x u → VR H1 θ w (vis c H1 θ w) x u := fun x u _ hxu => vr_of_st hs (fun sl a h => hf1 _ _ _ _ _ h) hxu
          have hcall := hcall w (vis c H1 θ w) (args.map a.eval ++ cs) (fun b hb => hb.1) (by rw [hargz, hl]) (fun i hi u hu => closed_reads hs1.sim (hargs hs1 hcap i (by omega) u hu) (hf3 _ (List.getElem_mem _)) (hds i (by omega) hi))
          intro K Q hK
          refine go _ hcall K Q fun v w' hR => ?_
          obtain ⟨hdr, hb⟩ := hR
          have hs' := hs1.grow (w' := w') hb.block hb.size
          exact hK v w' θ (.data _ _ (hdr.mono fun b hb' => ⟨hnew hs1.sim hb b hb', rfl⟩)) hs' (hkept hb) hl1
        · cases h
      · cases h
    · cases h
  · rename_i g
    split at h
    · rename_i H1 hfr
      obtain ⟨hf1, hf2, hf3⟩ := freeze_closed _ _ _ hfr
      obtain ⟨hs1, hl1⟩ := hf1 _ _ _ _ _ hs
      split at h
      · rename_i ds hds
        split at h
        · rename_i e sz l hd
          simp only [Option.some.injEq, Prod.mk.injEq] at h
          obtain ⟨rfl, rfl⟩ := h
          obtain ⟨hl, hds⟩ := mapOpt_some hds
          obtain ⟨hsz, hcl, hone, hcall⟩ := hS ds e sz l hd
          have hcap : ∀ x u, x ∈ caps → VR H θ w (vis c H θ w) x u → VR H1 θ w (vis c H1 θ w) x u := fun x u _ hxu => vr_of_st hs (fun sl a h => hf1 _ _ _ _ _ h) hxu
          have hcall := hcall w (vis c H1 θ w) (args.map a.eval ++ cs) (fun b hb => hb.1) (by rw [hargz, hl]) (fun i hi u hu => closed_reads hs1.sim (hargs hs1 hcap i (by omega) u hu) (hf3 _ (List.getElem_mem _)) (hds i (by omega) hi))
          have hk1 : ¬ H1.ref k := fun hr => hk (freeze_ref _ _ _ hfr k hr)
          intro K Q hK
          refine go _ hcall K Q fun v w' hR => ?_
          obtain ⟨⟨us, hrow, hel⟩, hb⟩ := hR
          obtain ⟨θ', g1, g2, g3⟩ := add_row' (w' := w') hs1 hk1 hsz hcl hone hrow hel hb.block hb.size
          exact hK v w' θ' g1 g2 (hkept hb) (hl1.trans g3)
        · cases h
      · cases h
    · cases h
end
end Go.Ab
namespace Go.Ab
open Go Go.RowKit
def KeyLe (H H' : Heap) (k : Nat) : Prop := H'.next = H.next ∧ ∀ o, (H'.get o).isSome → (H.get o).isSome ∨ o = k
theorem KeyLe.refl (H : Heap) (k : Nat) : KeyLe H H k := ⟨rfl, fun _ h => .inl h⟩
theorem KeyLe.set (H : Heap) (k : Nat) (x : Obj) : KeyLe H (H.set k x) k := ⟨rfl, fun o h => by
  rw [Heap.get_set] at h
  by_cases ho : o = k
  · exact .inr ho
  · rw [if_neg ho] at h; exact .inl h⟩
theorem KeyLe.old {H : Heap} {o : Nat} {y : Obj} (hg : H.get o = some y) (k : Nat) (x : Obj) : KeyLe H (H.set o x) k := ⟨rfl, fun p h => by
  rw [Heap.get_set] at h
  by_cases hp : p = o
  · exact .inl (by rw [hp, hg]; rfl)
  · rw [if_neg hp] at h; exact .inl h⟩
theorem KeyLe.trans {H H1 H2 : Heap} {k : Nat} (h : KeyLe H H1 k) (h' : KeyLe H1 H2 k) : KeyLe H H2 k := ⟨h'.1.trans h.1, fun o ho => by
  rcases h'.2 o ho with h2 | h2
  · exact h.2 o h2
  · exact .inr h2⟩
def nextK (k : Nat) (H' : Heap) : Nat := if H'.next ≤ k then k + 1 else H'.next
theorem nextK_gt (k : Nat) (H' : Heap) : k < nextK k H' := by unfold nextK; split <;> omega
theorem nextK_ge (k : Nat) (H' : Heap) : H'.next ≤ nextK k H' := by unfold nextK; split <;> omega
def KeyOK (H H' : Heap) (k : Nat) : Prop := H.next ≤ H'.next ∧ H'.bnd (nextK k H')
theorem KeyLe.ok {H H' : Heap} {k : Nat} (h : KeyLe H H' k) (hb : H.bnd k) : KeyOK H H' k := ⟨by rw [h.1]; exact Nat.le_refl _, fun o ho => by
  have := nextK_gt k H'
  rcases h.2 o ho with h2 | h2
  · have := hb o h2; omega
  · omega⟩
theorem freeze_keys : ∀ (xs : List AV) (H H' : Heap) (k : Nat), freeze H xs = some H' → KeyLe H H' k
  | [], H, H', k, h => by simp only [freeze, Option.some.injEq] at h; subst h; exact .refl _ _
  | x :: r, H, H', k, h => by
    cases x with
    | row ob n =>
      simp only [freeze] at h
      split at h
      · rename_i e sz l hg
        split at h
        · exact (KeyLe.old hg k _).trans (freeze_keys r _ _ k h)
        · cases h
      · exact freeze_keys r _ _ k h
      · cases h
    | data d => simp only [freeze, AV.closed, if_true] at h; exact freeze_keys r _ _ k h
    | nils => simp only [freeze, AV.closed, if_true] at h; exact freeze_keys r _ _ k h
    | junk => simp [freeze, AV.closed] at h
    | ptr _ _ => simp [freeze, AV.closed] at h
    | rref _ _ _ _ => simp [freeze, AV.closed] at h
    | agg _ => simp [freeze, AV.closed] at h
    | tup _ => simp [freeze, AV.closed] at h
    | fn _ _ => simp [freeze, AV.closed] at h
    | bnd _ _ => simp [freeze, AV.closed] at h
    | mref _ => simp [freeze, AV.closed] at h
section
variable {P : Program} {c : Ctx} {H H' : Heap} {θ θ' : Nat → Value} {w w' : World} {sl : List AV} {a : Act} {o : Oper} {r : AV} {Γ : FuncId → Option CSpec} {k : Nat}
theorem acall_keys {s : CSpec} {xs : List AV} (h : acall k H s xs = some (r, H')) (hb : H.bnd k) (hn : H.next ≤ k) : KeyOK H H' k := by
  unfold acall at h
  split at h
  · obtain ⟨h1, h2⟩ := callLoc_next h hb hn
    refine ⟨by omega, fun o ho => ?_⟩
    have := h2 o ho
    have := nextK_ge k H'
    omega
  · split at h
    · split at h
      · simp only [Option.some.injEq, Prod.mk.injEq] at h; obtain ⟨rfl, rfl⟩ := h; exact (KeyLe.refl _ _).ok hb
      · cases h
    · cases h
  · split at h
    · rename_i hf
      split at h
      · split at h
        · simp only [Option.some.injEq, Prod.mk.injEq] at h; obtain ⟨rfl, rfl⟩ := h; exact (freeze_keys _ _ _ _ hf).ok hb
        · cases h
      · cases h
    · cases h
  · split at h
    · rename_i hf
      split at h
      · split at h
        · simp only [Option.some.injEq, Prod.mk.injEq] at h; obtain ⟨rfl, rfl⟩ := h; exact ((freeze_keys _ _ _ _ hf).trans (KeyLe.set _ _ _)).ok hb
        · cases h
      · cases h
    · cases h
theorem astore_keys {t : TypeId} {p x : AV} (h : astore P H t p x = some H') : KeyLe H H' k := by
  unfold astore at h
  split at h
  · split at h
    · split at h
      · split at h
        · rename_i hg
          split at h
          · simp only [Option.some.injEq] at h; subst h; exact .old hg _ _
          · cases h
        · cases h
      · split at h
        · rename_i hg
          split at h
          · split at h
            · split at h
              · simp only [Option.some.injEq] at h; subst h; exact .old hg _ _
              · cases h
            · cases h
          · cases h
        · rename_i hg
          split at h
          · split at h
            · simp only [Option.some.injEq] at h; subst h; exact .old hg _ _
            · cases h
          · cases h
        · cases h
      · cases h
    · cases h
  · cases h
theorem asList_keys {x : AV} {l : List D} (hl : asList H x = some (l, H')) : KeyLe H H' k := by
  unfold asList at hl
  split at hl
  · simp only [Option.some.injEq, Prod.mk.injEq] at hl; obtain ⟨_, rfl⟩ := hl; exact .refl _ _
  · simp only [Option.some.injEq, Prod.mk.injEq] at hl; obtain ⟨_, rfl⟩ := hl; exact .refl _ _
  · split at hl
    · rename_i hg
      split at hl
      · simp only [Option.some.injEq, Prod.mk.injEq] at hl; obtain ⟨_, rfl⟩ := hl; exact .old hg _ _
      · cases hl
    · split at hl
      · simp only [Option.some.injEq, Prod.mk.injEq] at hl; obtain ⟨_, rfl⟩ := hl; exact .refl _ _
      · cases hl
    · cases hl
  · cases hl
theorem aslice_keys {t : TypeId} {x : AV} {lo hi mx : Option AV} (h : aslice P H t x lo hi mx = some (r, H')) : KeyLe H H' k := by
  unfold aslice at h
  split at h
  · split at h
    · split at h
      · rename_i hl
        split at h
        · split at h
          · simp only [Option.some.injEq, Prod.mk.injEq] at h
            obtain ⟨rfl, rfl⟩ := h
            exact asList_keys hl
          · cases h
        · cases h
      · cases h
    · cases h
  · split at h
    · split at h
      · split at h
        · simp only [Option.some.injEq, Prod.mk.injEq] at h; obtain ⟨rfl, rfl⟩ := h; exact .refl _ _
        · cases h
      · cases h
    · split at h
      · rename_i hl
        split at h
        · split at h
          · simp only [Option.some.injEq, Prod.mk.injEq] at h
            obtain ⟨rfl, rfl⟩ := h
            exact asList_keys hl
          · cases h
        · cases h
      · cases h
    · cases h
theorem appendD_keys {e : TypeId} {x y : AV} (h : appendD P k H e x y = some (r, H')) : KeyLe H H' k := by
  unfold appendD at h
  split at h
  · split at h
    · split at h
      · split at h
        · simp only [Option.some.injEq, Prod.mk.injEq] at h; obtain ⟨rfl, rfl⟩ := h; exact .set _ _ _
        · cases h
      · split at h
        · rename_i hg
          split at h
          · simp only [Option.some.injEq, Prod.mk.injEq] at h; obtain ⟨rfl, rfl⟩ := h; exact .old hg _ _
          · cases h
        · cases h
      · cases h
    · cases h
  · cases h
theorem appendA_keys {e : TypeId} {x y : AV} (h : appendA P k H e x y = some (r, H')) : KeyLe H H' k := by
  unfold appendA at h
  split at h
  · split at h
    · split at h
      · split at h
        · simp only [Option.some.injEq, Prod.mk.injEq] at h; obtain ⟨rfl, rfl⟩ := h; exact .set _ _ _
        · cases h
      · split at h
        · rename_i hg
          split at h
          · simp only [Option.some.injEq, Prod.mk.injEq] at h; obtain ⟨rfl, rfl⟩ := h; exact .old hg _ _
          · cases h
        · cases h
      · cases h
    · cases h
  · cases h
theorem aappend_keys {ts : Array TypeId} {x y : AV} (h : aappend P k H ts x y = some (r, H')) : KeyLe H H' k := by
  unfold aappend at h
  split at h
  · split at h
    · split at h
      · split at h
        · exact appendA_keys h
        · exact appendD_keys h
      · cases h
    · cases h
  · cases h
theorem amapUpdate_keys {t : TypeId} {m i x : AV} (h : amapUpdate P H t m i x = some H') : KeyLe H H' k := by
  unfold amapUpdate at h
  split at h
  · split at h
    · rename_i hg
      split at h
      · split at h
        · simp only [Option.some.injEq] at h; subst h; exact .old hg _ _
        · cases h
      · cases h
    · cases h
  · cases h
theorem aconvertS_keys {s d : TypeId} {x : AV} (h : aconvertS P k H s d x = some (r, H')) : KeyLe H H' k := by
  unfold aconvertS at h
  split at h
  · split at h
    · split at h
      · simp only [Option.some.injEq, Prod.mk.injEq] at h; obtain ⟨_, rfl⟩ := h; exact .set _ _ _
      · cases h
    · cases h
  · split at h
    · split at h
      · simp only [Option.some.injEq, Prod.mk.injEq] at h; obtain ⟨_, rfl⟩ := h; exact .refl _ _
      · cases h
    · cases h
  · split at h
    · simp only [Option.some.injEq, Prod.mk.injEq] at h; obtain ⟨_, rfl⟩ := h; exact .refl _ _
    · cases h
theorem map_pair {α : Type} {x : Option α} {r : α} {H H' : Heap} (h : x.map (·, H) = some (r, H')) : x = some r ∧ H' = H := by
  cases x with
  | none => cases h
  | some y => simp only [Option.map_some, Option.some.injEq, Prod.mk.injEq] at h; exact ⟨by rw [h.1], h.2.symm⟩
theorem astep_sound {nst : Bool} (hΓ : ∀ f s, Γ f = some s → SpecOK P f s) (hs : St c H θ w sl a) (hb : H.bnd k) (hn : H.next ≤ k) (h : astep P Γ nst k sl H o.op = some (r, H')) : Yields P c o a w sl H θ r H' ∧ KeyOK H H' k := by
  have hk : ¬ H.ref k := by
    rintro (h | h)
    · omega
    · have := hb k h; omega
  cases hop : o.op with
  | move x =>
    rw [hop] at h
    simp only [astep, Option.some.injEq, Prod.mk.injEq] at h
    obtain ⟨rfl, rfl⟩ := h
    exact ⟨y_move hs (.inl hop), (KeyLe.refl _ _).ok hb⟩
  | assign x =>
    rw [hop] at h
    simp only [astep, Option.some.injEq, Prod.mk.injEq] at h
    obtain ⟨rfl, rfl⟩ := h
    exact ⟨y_move hs (.inr hop), (KeyLe.refl _ _).ok hb⟩
  | pick x y z =>
    rw [hop] at h
    simp only [astep] at h
    split at h
    · rename_i b hbb
      simp only [Option.some.injEq, Prod.mk.injEq] at h
      obtain ⟨rfl, rfl⟩ := h
      exact ⟨y_pick hs hop hbb, (KeyLe.refl _ _).ok hb⟩
    · cases h
  | alloc e =>
    rw [hop] at h
    simp only [astep] at h
    split at h
    · rename_i z hz
      unfold boxOf at h
      split at h
      · rename_i cs hc
        simp only [Option.some.injEq, Prod.mk.injEq] at h
        obtain ⟨rfl, rfl⟩ := h
        exact ⟨y_alloc hs hk hop hz hc, (KeyLe.set _ _ _).ok hb⟩
      · cases h
    · cases h
  | box e x =>
    rw [hop] at h
    simp only [astep] at h
    unfold boxOf at h
    split at h
    · rename_i cs hc
      simp only [Option.some.injEq, Prod.mk.injEq] at h
      obtain ⟨rfl, rfl⟩ := h
      exact ⟨y_box hs hk hop hc, (KeyLe.set _ _ _).ok hb⟩
    · cases h
  | build t parts =>
    rw [hop] at h
    simp only [astep] at h
    obtain ⟨h1, rfl⟩ := map_pair h
    exact ⟨y_build hs hop h1, (KeyLe.refl _ _).ok hb⟩
  | buildSlice t len parts =>
    rw [hop] at h
    simp only [astep] at h
    split at h
    · refine ⟨y_buildArr hs hk hop h, ?_⟩
      unfold abuildArr at h
      split at h
      · split at h
        · split at h
          · split at h
            · simp only [Option.some.injEq, Prod.mk.injEq] at h; obtain ⟨rfl, rfl⟩ := h; exact (KeyLe.set _ _ _).ok hb
            · cases h
          · cases h
        · cases h
      · cases h
    · refine ⟨y_buildSlice hs hk hop h, ?_⟩
      unfold abuildSlice at h
      split at h
      · split at h
        · split at h
          · split at h
            · simp only [Option.some.injEq, Prod.mk.injEq] at h; obtain ⟨rfl, rfl⟩ := h; exact (KeyLe.set _ _ _).ok hb
            · cases h
          · cases h
        · cases h
      · cases h
  | load t x =>
    rw [hop] at h
    simp only [astep] at h
    obtain ⟨h1, rfl⟩ := map_pair h
    exact ⟨y_load hs hop h1, (KeyLe.refl _ _).ok hb⟩
  | store t x y =>
    rw [hop] at h
    simp only [astep, Option.map_eq_some_iff, Prod.mk.injEq] at h
    obtain ⟨H1, h1, rfl, rfl⟩ := h
    exact ⟨y_store hs hop h1, (astore_keys h1).ok hb⟩
  | binOp op t x y t' =>
    rw [hop] at h
    simp only [astep] at h
    obtain ⟨h1, rfl⟩ := map_pair h
    exact ⟨y_bin hs hop h1, (KeyLe.refl _ _).ok hb⟩
  | nilCheck x =>
    rw [hop] at h
    simp only [astep] at h
    obtain ⟨h1, rfl⟩ := map_pair h
    exact ⟨y_nil hs hop h1, (KeyLe.refl _ _).ok hb⟩
  | unOp op t x =>
    rw [hop] at h
    simp only [astep] at h
    obtain ⟨h1, rfl⟩ := map_pair h
    exact ⟨y_un hs hop h1, (KeyLe.refl _ _).ok hb⟩
  | makeFunc fn first caps =>
    rw [hop] at h
    simp only [astep] at h
    obtain ⟨h1, rfl⟩ := map_pair h
    unfold amakeFunc at h1
    split at h1
    · rename_i f hfirst
      simp only [Option.some.injEq] at h1
      subst h1
      have hf : first = #[] := by apply Array.ext'; simpa using hfirst
      subst hf
      exact ⟨y_makeFunc hs hop, (KeyLe.refl _ _).ok hb⟩
    · rename_i f x r hfirst
      split at h1
      · rename_i hc
        simp only [Option.some.injEq] at h1
        subst h1
        have hf : caps = #[] := by apply Array.ext'; simpa using hc
        subst hf
        rw [← hfirst]
        exact ⟨y_makeFuncB hs hop, (KeyLe.refl _ _).ok hb⟩
      · cases h1
    · cases h1
  | makeSlice t l cp =>
    rw [hop] at h
    simp only [astep] at h
    split at h
    · refine ⟨y_makeArr hs hk hop h, ?_⟩
      unfold amakeArr at h
      split at h
      · split at h
        · split at h
          · split at h
            · simp only [Option.some.injEq, Prod.mk.injEq] at h; obtain ⟨rfl, rfl⟩ := h; exact (KeyLe.set _ _ _).ok hb
            · cases h
          · cases h
        · cases h
      · cases h
    · refine ⟨y_make hs hk hop h, ?_⟩
      unfold amake at h
      split at h
      · split at h
        · split at h
          · split at h
            · simp only [Option.some.injEq, Prod.mk.injEq] at h; obtain ⟨rfl, rfl⟩ := h; exact (KeyLe.set _ _ _).ok hb
            · cases h
          · cases h
        · cases h
      · cases h
  | index t x i =>
    rw [hop] at h
    simp only [astep] at h
    obtain ⟨h1, rfl⟩ := map_pair h
    exact ⟨y_indexV hs hop h1, (KeyLe.refl _ _).ok hb⟩
  | convert s d x =>
    rw [hop] at h
    simp only [astep] at h
    exact ⟨y_convertS hs hk hop h, (aconvertS_keys h).ok hb⟩
  | makeMap t rsv =>
    rw [hop] at h
    cases rsv with
    | some x => simp [astep] at h
    | none =>
      simp only [astep, Option.some.injEq, Prod.mk.injEq] at h
      obtain ⟨rfl, rfl⟩ := h
      exact ⟨y_makeMap hs hk hop, (KeyLe.set _ _ _).ok hb⟩
  | lookup t x i ok =>
    rw [hop] at h
    simp only [astep] at h
    obtain ⟨h1, rfl⟩ := map_pair h
    exact ⟨y_lookup hs hop h1, (KeyLe.refl _ _).ok hb⟩
  | mapUpdate t m i x =>
    rw [hop] at h
    simp only [astep, Option.map_eq_some_iff, Prod.mk.injEq] at h
    obtain ⟨H1, h1, rfl, rfl⟩ := h
    exact ⟨y_mapUpdate hs hop h1, (amapUpdate_keys h1).ok hb⟩
  | slice t x lo hi mx =>
    rw [hop] at h
    simp only [astep] at h
    exact ⟨y_slice hs hop h, (aslice_keys h).ok hb⟩
  | fieldAddr s x f =>
    rw [hop] at h
    simp only [astep] at h
    obtain ⟨h1, rfl⟩ := map_pair h
    exact ⟨y_field hs hop h1, (KeyLe.refl _ _).ok hb⟩
  | field s x f =>
    rw [hop] at h
    simp only [astep] at h
    obtain ⟨h1, rfl⟩ := map_pair h
    exact ⟨y_fieldV hs hop h1, (KeyLe.refl _ _).ok hb⟩
  | indexAddr t x i =>
    rw [hop] at h
    simp only [astep] at h
    obtain ⟨h1, rfl⟩ := map_pair h
    exact ⟨y_index hs hop h1, (KeyLe.refl _ _).ok hb⟩
  | extract x i =>
    rw [hop] at h
    simp only [astep] at h
    obtain ⟨h1, rfl⟩ := map_pair h
    exact ⟨y_extract hs hop h1, (KeyLe.refl _ _).ok hb⟩
  | call cl =>
    rw [hop] at h
    obtain ⟨cal, args, ts⟩ := cl
    cases cal with
    | builtin b =>
      simp only [astep] at h
      unfold abuiltin at h
      split at h
      · rename_i x hx
        have hx' := hx
        have ha : ∃ ox, args = #[ox] ∧ aev sl ox = x := by
          obtain ⟨l⟩ := args
          match l, hx with
          | [ox], hx => simp at hx; exact ⟨ox, rfl, hx⟩
          | [], hx => simp at hx
          | _ :: _ :: _, hx => simp at hx
        obtain ⟨ox, rfl, rfl⟩ := ha
        split at h
        · rename_i t ht
          have ht' : ts = #[t] := by apply Array.ext'; simpa using ht
          subst ht'
          split at h
          · rename_i n hn
            simp only [Option.some.injEq, Prod.mk.injEq] at h
            obtain ⟨rfl, rfl⟩ := h
            exact ⟨y_len hs hop hn, (KeyLe.refl _ _).ok hb⟩
          · cases h
        · cases h
      · rename_i x y hx
        have ha : ∃ ox oy, args = #[ox, oy] ∧ aev sl ox = x ∧ aev sl oy = y := by
          obtain ⟨l⟩ := args
          match l, hx with
          | [ox, oy], hx => simp at hx; exact ⟨ox, oy, rfl, hx.1, hx.2⟩
          | [], hx => simp at hx
          | [_], hx => simp at hx
          | _ :: _ :: _ :: _, hx => simp at hx
        obtain ⟨ox, oy, rfl, rfl, rfl⟩ := ha
        exact ⟨y_append hs hk hop h, (aappend_keys h).ok hb⟩
      · rename_i j m j' n hx
        have ha : ∃ ox oy, args = #[ox, oy] ∧ aev sl ox = .data (.int j m) ∧ aev sl oy = .data (.int j' n) := by
          obtain ⟨l⟩ := args
          match l, hx with
          | [ox, oy], hx => simp at hx; exact ⟨ox, oy, rfl, hx.1, hx.2⟩
          | [], hx => simp at hx
          | [_], hx => simp at hx
          | _ :: _ :: _ :: _, hx => simp at hx
        obtain ⟨ox, oy, rfl, h1, h2⟩ := ha
        split at h
        · rename_i hj
          subst hj
          simp only [Option.some.injEq, Prod.mk.injEq] at h
          obtain ⟨rfl, rfl⟩ := h
          exact ⟨y_max hs hop h1 h2, (KeyLe.refl _ _).ok hb⟩
        · cases h
      · rename_i j m j' n hx
        have ha : ∃ ox oy, args = #[ox, oy] ∧ aev sl ox = .data (.int j m) ∧ aev sl oy = .data (.int j' n) := by
          obtain ⟨l⟩ := args
          match l, hx with
          | [ox, oy], hx => simp at hx; exact ⟨ox, oy, rfl, hx.1, hx.2⟩
          | [], hx => simp at hx
          | [_], hx => simp at hx
          | _ :: _ :: _ :: _, hx => simp at hx
        obtain ⟨ox, oy, rfl, h1, h2⟩ := ha
        split at h
        · rename_i hj
          subst hj
          simp only [Option.some.injEq, Prod.mk.injEq] at h
          obtain ⟨rfl, rfl⟩ := h
          exact ⟨y_min hs hop h1 h2, (KeyLe.refl _ _).ok hb⟩
        · cases h
      · cases h
    | value fo =>
      simp only [astep] at h
      split at h
      · rename_i f caps hf
        split at h
        · rename_i s hS
          exact ⟨y_call hs hb hn hop hf (hΓ f s hS) h, acall_keys h hb hn⟩
        · cases h
      · cases h
    | invoke _ _ => simp [astep] at h
  | _ => rw [hop] at h; simp [astep] at h
def wantedA (ops : Array Oper) (sl : List AV) (o : Oper) : Option Bool := match o.guard with
  | none => some true
  | some (j, want) => match (ops[j]?).bind (·.dst) with
    | some d => match sl.getD d .junk with
      | .data (.bool b) => some (b == want)
      | .tup [] => some false
      | _ => none
    | none => none
def putA (sl : List AV) (d : Option Nat) (x : AV) : List AV := match d with
  | some d => sl.set d x
  | none => sl
def runOp (P : Program) (Γ : FuncId → Option CSpec) (nst : Bool) (k : Nat) (ops : Array Oper) (o : Oper) (sl : List AV) (H : Heap) : Option (List AV × Heap) := match wantedA ops sl o with
  | some true => match astep P Γ nst k sl H o.op with
    | some (r, H') => some (putA sl o.dst r, H')
    | none => none
  | some false => some (putA sl o.dst (.tup []), H)
  | none => none
def Heap.bump (H : Heap) (n : Nat) : Heap := { H with next := n }
def runOps (P : Program) (Γ : FuncId → Option CSpec) (nst : Bool) (ops : Array Oper) : Nat → List Oper → List AV → Heap → Option (List AV × Heap)
  | k, [], sl, H => some (sl, H.bump k)
  | k, o :: l, sl, H => match runOp P Γ nst k ops o sl H with
    | some (sl', H') => runOps P Γ nst ops (nextK k H') l sl' H'
    | none => none
theorem vr_undef {B : Nat → Prop} : VR H θ w B (.tup []) undef := .tup [] #[] (fun _ => undef) rfl (fun i hi => by simp at hi) (fun i hi => by simp at hi)
theorem wanted_sound {ops : Array Oper} {b : Bool} (hs : St c H θ w sl a) (h : wantedA ops sl o = some b) : Region.wanted o (yielded ops a.tmps) = b := by
  unfold wantedA at h
  unfold Region.wanted
  split at h
  · rename_i hg
    simp only [Option.some.injEq] at h
    subst h
    rw [hg]
  · rename_i j want hg
    split at h
    · rename_i d hd
      split at h
      · rename_i v hv
        simp only [Option.some.injEq] at h
        subst h
        rw [hg]
        have hx := aev_sound hs (.tmp d)
        simp only [aev, hv, Act.eval] at hx
        have he := hx.data_inv.bool_eq
        have hlt : d < sl.length := by
          rcases Nat.lt_or_ge d sl.length with h1 | h1
          · exact h1
          · rw [List.getD_eq_getElem?_getD, List.getElem?_eq_none h1] at hv; cases hv
        have hlt' : d < a.tmps.size := by rw [hs.size]; exact hlt
        have : a.tmps[d]? = some (.bool v) := by
          rw [Array.getElem?_eq_getElem hlt']
          simp [hlt'] at he
          rw [he]
        simp [yielded, hd, this]
      · rename_i hv
        simp only [Option.some.injEq] at h
        subst h
        rw [hg]
        have hx := aev_sound hs (.tmp d)
        simp only [aev, hv, Act.eval] at hx
        have he : a.tmps.getD d undef = .tuple #[] := by
          generalize a.tmps.getD d undef = q at hx
          cases hx with
          | tup _ vs u hz _ _ => simp at hz; rw [hz]
        have hlt : d < sl.length := by
          rcases Nat.lt_or_ge d sl.length with h1 | h1
          · exact h1
          · rw [List.getD_eq_getElem?_getD, List.getElem?_eq_none h1] at hv; cases hv
        have hlt' : d < a.tmps.size := by rw [hs.size]; exact hlt
        have : a.tmps[d]? = some (.tuple #[]) := by
          rw [Array.getElem?_eq_getElem hlt']
          simp [hlt'] at he
          rw [he]
        simp [yielded, hd, this]
      · cases h
    · cases h
theorem St.putA (hs : St c H θ w sl a) {x : AV} {v : Value} (hx : VR H θ w (vis c H θ w) x v) (d : Option Nat) : St c H θ w (Ab.putA sl d x) (a.put d v) := hs.putO hx d
theorem vr_bump {B : Nat → Prop} {n : Nat} (hn : H.next ≤ n) {x : AV} {v : Value} (h : VR H θ w B x v) : VR (H.bump n) θ w B x v :=
  h.mono (fun b hb => ⟨hb, rfl⟩) ⟨fun o ho => by
    rcases ho with ho | ho
    · exact .inl (Nat.lt_of_lt_of_le ho hn)
    · exact .inr ho, fun o x _ h => ⟨x, h, x.evo_refl, fun _ => rfl⟩⟩
theorem HLe.bump {n : Nat} (hn : H.next ≤ n) : HLe H θ (H.bump n) θ := ⟨fun o ho => by
    rcases ho with ho | ho
    · exact .inl (Nat.lt_of_lt_of_le ho hn)
    · exact .inr ho, fun o x _ h => ⟨x, h, x.evo_refl, fun _ => rfl⟩⟩
theorem HSim.bump (hs : HSim c H θ w) {n : Nat} (hn : H.next ≤ n) : HSim c (H.bump n) θ w := by
  refine ⟨hs.size, fun o x hg => ?_, hs.inj⟩
  have h := hs.objs o x hg
  cases x with
  | box cs =>
    obtain ⟨b, e, vs, h1, h2, h3, h4, h5⟩ := h
    exact ⟨b, e, vs, h1, h2, h3, h4, fun i hi u hu => ⟨vr_bump hn (h5 i hi u hu).1, (h5 i hi u hu).2⟩⟩
  | row e sz l => exact h
  | arr e sz m cs =>
    obtain ⟨h1, h2, vs, h3, h4, h5⟩ := h
    exact ⟨h1, h2, vs, h3, h4, fun i hi u hu => ⟨vr_bump hn (h5 i hi u hu).1, (h5 i hi u hu).2⟩⟩
  | frz l => exact h
  | map ks vs => exact h
  | dead => trivial
theorem St.bump (hs : St c H θ w sl a) {n : Nat} (hn : H.next ≤ n) : St c (H.bump n) θ w sl a :=
  ⟨hs.sim.bump hn, hs.defers, hs.size, fun i x v h1 h2 => vr_bump hn (hs.vals i x v h1 h2)⟩
theorem runOps_sound {ops : Array Oper} {nst : Bool} (hΓ : ∀ f s, Γ f = some s → SpecOK P f s) {Q : Exit → Act → World → Prop} : ∀ (l : List Oper) (k : Nat) (sl : List AV) (H : Heap) (θ : Nat → Value) (w : World) (a : Act) (sl' : List AV) (H' : Heap),
    runOps P Γ nst ops k l sl H = some (sl', H') → St c H θ w sl a → H.bnd k → H.next ≤ k → (∀ a' w' θ', St c H' θ' w' sl' a' → H'.bnd H'.next → k ≤ H'.next → Kept c w w' → HLe H θ H' θ' → Q .normal a' w') → wpList P ops Q l a w
  | [], k, sl, H, θ, w, a, sl', H', h, hs, hb, hn, hQ => by
    simp only [runOps, Option.some.injEq, Prod.mk.injEq] at h
    obtain ⟨rfl, rfl⟩ := h
    exact hQ a w θ (hs.bump hn) (fun o ho => hb o ho) (Nat.le_refl _) (Kept.refl c w) (HLe.bump hn)
  | o :: l, k, sl, H, θ, w, a, sl', H', h, hs, hb, hn, hQ => by
    simp only [runOps] at h
    split at h
    · rename_i sl1 H1 h1
      unfold runOp at h1
      split at h1
      · rename_i hw
        have hwant := wanted_sound hs hw
        split at h1
        · rename_i r H2 hstep
          simp only [Option.some.injEq, Prod.mk.injEq] at h1
          obtain ⟨rfl, rfl⟩ := h1
          obtain ⟨hy, hkey⟩ := astep_sound hΓ hs hb hn hstep
          refine wpList_step fun K hK => ?_
          rw [if_pos hwant]
          refine hy K Q fun v w' θ' hv hs' hk' hl' => hK _ _ ?_
          refine runOps_sound hΓ l (nextK k H2) _ _ θ' w' _ sl' H' h (hs'.putA hv _) hkey.2 (nextK_ge _ _) fun a' w2 θ2 hs2 hb2 hn2 hk2 hl2 => hQ a' w2 θ2 hs2 hb2 (by have := nextK_gt k H2; omega) (hk'.trans hk2) (hl'.trans hl2)
        · cases h1
      · rename_i hw
        have hwant := wanted_sound hs hw
        simp only [Option.some.injEq, Prod.mk.injEq] at h1
        obtain ⟨rfl, rfl⟩ := h1
        refine wpList_step fun K hK => ?_
        rw [if_neg (by rw [hwant]; simp)]
        refine hK _ _ ?_
        exact runOps_sound hΓ l (nextK k H) _ _ θ w _ sl' H' h (hs.putA vr_undef _) (fun p hp => by have := hb p hp; have := nextK_gt k H; omega) (nextK_ge _ _) fun a' w2 θ2 hs2 hb2 hn2 hk2 hl2 => hQ a' w2 θ2 hs2 hb2 (by have := nextK_gt k H; omega) hk2 hl2
      · cases h1
    · cases h
theorem awp_region {id : Nat} {ops : Array Oper} {nst : Bool} {Q : Exit → List AV → Heap → Prop} (hΓ : ∀ f s, Γ f = some s → SpecOK P f s) {sl' : List AV} {H' : Heap}
    (h : runOps P Γ nst ops H.next ops.toList sl H = some (sl', H')) (hQ : Q .normal sl' H') : awp P c (.region id ops false) Q sl H := by
  intro θ w a hs
  refine wp_region_list ?_
  refine runOps_sound hΓ ops.toList H.next sl H θ w a sl' H' h hs.st hs.wf (Nat.le_refl _) fun a' w' θ' hs' hb hn hk hl => ?_
  exact ⟨sl', _, θ', hQ, ⟨hs', hb, Nat.le_trans hs.base hn⟩, hk, hl.evo hs.base⟩
end
end Go.Ab
namespace Go.Ab
open Go Go.RowKit
def resOne (P : Program) (sl : List AV) (H : Heap) : ResultVar → Option AV
  | .tmp t => some (sl.getD t .junk)
  | .cell a t => aload P H t (sl.getD a .junk)
def resAll (P : Program) (sl : List AV) (H : Heap) : List ResultVar → Option (List AV)
  | [] => some []
  | x :: r => match resOne P sl H x, resAll P sl H r with
    | some y, some l => some (y :: l)
    | _, _ => none
def resA (P : Program) (rs : List ResultVar) (sl : List AV) (H : Heap) : Option AV := match rs with
  | [x] => resOne P sl H x
  | l => match resAll P sl H l with
    | some ys => some (.tup ys)
    | none => none
def Exit.over : Exit → Bool
  | .normal => true
  | .ret => true
  | _ => false
def RetD (P : Program) (rs : List ResultVar) (d : D) (e : Exit) (sl : List AV) (H : Heap) : Prop := Exit.over e = true ∧ ∃ x, resA P rs sl H = some x ∧ toD H 4 x = some d
def RetO (P : Program) (rs : List ResultVar) (e : TypeId) (sz : Nat) (l : List D) (ex : Exit) (sl : List AV) (H : Heap) : Prop :=
  Exit.over ex = true ∧ ∃ o, resA P rs sl H = some (.row o l.length) ∧ H.get o = some (.row e sz l)
def emptyH : Heap := ⟨[], 0⟩
def start (n : Nat) (ds : List D) : List AV := ds.map .data ++ List.replicate (n - ds.length) .junk
def ctxOf (w : World) (B : Nat → Prop) : Ctx := ⟨w.heap.size, B, fun _ => False, fun _ _ h => h, 0⟩
section
variable {P : Program} {c : Ctx} {H H' : Heap} {θ θ' : Nat → Value} {w w' : World} {sl : List AV} {a : Act}
def resSem (tmps : Array Value) : ResultVar → Sem Value
  | .tmp t => pure (tmps.getD t undef)
  | .cell p t => do loadVar t (← asAddr (tmps.getD p undef))
theorem results_eq (fn : Func) (tmps : Array Value) : results fn tmps = (do let vs ← fn.results.mapM (resSem tmps); pure (if h : vs.size = 1 then vs[0] else .tuple vs)) := by
  unfold results
  congr 2
theorem resOne_sound (hs : St c H θ w sl a) {x : ResultVar} {y : AV} (h : resOne P sl H x = some y) :
    ∃ v, (resSem a.tmps x).run P w = .ok v w ∧ VR H θ w (vis c H θ w) y v := by
  cases x with
  | tmp t =>
    simp only [resOne, Option.some.injEq] at h
    subst h
    exact ⟨_, rfl, aev_sound hs (.tmp t)⟩
  | cell p t =>
    simp only [resOne] at h
    obtain ⟨u, hr, hv⟩ := aload_sound hs (aev_sound hs (.tmp p)) h
    refine ⟨u, ?_, hv⟩
    simp only [Act.eval] at hr
    generalize hq : a.tmps.getD p undef = q at hr
    cases q with
    | pointer ad =>
      cases ad with
      | some ad =>
        simp only [Instr.loadAt, Instr.sureAddr, Sem.run_bind, Sem.run_pure, Result.andThen_ok] at hr
        simp only [resSem, hq, asAddr, Sem.run_bind, Sem.run_pure, Result.andThen_ok]
        exact hr
      | none => simp [Instr.loadAt, Instr.sureAddr] at hr
    | _ => simp [Instr.loadAt, Instr.sureAddr] at hr
theorem resAll_sound (hs : St c H θ w sl a) : ∀ (l : List ResultVar) (ys : List AV), resAll P sl H l = some ys →
    ∃ vs : List Value, (l.mapM (resSem a.tmps)).run P w = .ok vs w ∧ vs.length = ys.length ∧ ∀ i (hi : i < ys.length) u, vs[i]? = some u → VR H θ w (vis c H θ w) (ys[i]) u
  | [], ys, h => by
    simp only [resAll, Option.some.injEq] at h
    subst h
    exact ⟨[], by simp, rfl, fun i hi => by simp at hi⟩
  | x :: l, ys, h => by
    simp only [resAll] at h
    split at h
    · rename_i y ys' h1 h2
      simp only [Option.some.injEq] at h
      subst h
      obtain ⟨v, hr, hv⟩ := resOne_sound hs h1
      obtain ⟨vs, hr2, hl, hvs⟩ := resAll_sound hs l ys' h2
      refine ⟨v :: vs, ?_, by simp [hl], fun i hi u hu => ?_⟩
      · simp only [List.mapM_cons, Sem.run_bind, hr, Result.andThen_ok, hr2, Sem.run_pure]
      · cases i with
        | zero => simp at hu; subst hu; exact hv
        | succ i => exact hvs i (by simpa using hi) u (by simpa using hu)
    · cases h
theorem resA_sound (hs : St c H θ w sl a) {fn : Func} {y : AV} (h : resA P fn.results.toList sl H = some y) : ∃ v, (results fn a.tmps).run P w = .ok v w ∧ VR H θ w (vis c H θ w) y v := by
  have hrun : ∀ vs : List Value, (fn.results.toList.mapM (resSem a.tmps)).run P w = .ok vs w →
      (results fn a.tmps).run P w = .ok (if h : vs.length = 1 then vs[0] else .tuple vs.toArray) w := by
    intro vs hvs
    have hm : (fn.results.mapM (resSem a.tmps)).run P w = .ok vs.toArray w := by
      rw [Array.mapM_eq_mapM_toList, Sem.run_map, hvs]
      rfl
    rw [results_eq, Sem.run_bind, hm]
    simp
  generalize hrs : fn.results.toList = rs at h hrun
  unfold resA at h
  split at h
  · rename_i x
    obtain ⟨v, hr, hv⟩ := resOne_sound hs h
    refine ⟨v, ?_, hv⟩
    have := hrun [v] (by simp only [List.mapM_cons, List.mapM_nil, Sem.run_bind, hr, Result.andThen_ok, Sem.run_pure])
    simpa using this
  · rename_i hne
    split at h
    · rename_i ys hys
      simp only [Option.some.injEq] at h
      subst h
      obtain ⟨vs, hr, hl, hvs⟩ := resAll_sound hs _ _ hys
      have hlen : ys.length = rs.length := by
        have : ∀ (l : List ResultVar) (ys : List AV), resAll P sl H l = some ys → ys.length = l.length := by
          intro l
          induction l with
          | nil => intro ys h; simp only [resAll, Option.some.injEq] at h; subst h; rfl
          | cons x l ih =>
            intro ys h
            simp only [resAll] at h
            split at h
            · rename_i y ys' _ h2
              simp only [Option.some.injEq] at h
              subst h
              simp [ih ys' h2]
            · cases h
        exact this _ _ hys
      have h1 : ¬ vs.length = 1 := by
        intro h1
        have h2 : rs.length = 1 := by omega
        obtain ⟨x, hx⟩ := List.length_eq_one_iff.1 h2
        exact hne x hx
      have := hrun vs hr
      rw [dif_neg h1] at this
      refine ⟨_, this, .tup ys _ (fun i => vs.getD i undef) (by simpa using hl) (fun i hi => ?_) (fun i hi => ?_)⟩
      · simp [show i < vs.length by omega]
      · exact hvs i hi _ (by simp [show i < vs.length by omega])
    · cases h
theorem start_st {fn : Func} {ds : List D} {B : Nat → Prop} {vs : Array Value} (hB : ∀ b, B b → b < w.heap.size) (hz : vs.size = ds.length) (hvs : ∀ i (hi : i < ds.length) u, vs[i]? = some u → DR w B (ds[i]) u) :
    StW (ctxOf w B) emptyH (fun _ => undef) w (start fn.ntmps ds) { tmps := vs ++ Array.replicate (fn.ntmps - vs.size) undef, defers := [] } := by
  have hno : ∀ o, emptyH.get o = none := fun o => rfl
  refine ⟨⟨⟨Nat.le_refl _, fun o x h => (by rw [hno] at h; cases h), fun o o' x x' h => (by rw [hno] at h; cases h)⟩, rfl, by simp [start, hz], fun i x v hx hv => ?_⟩, fun o h => (by rw [hno] at h; cases h), Nat.zero_le _⟩
  unfold start at hx
  by_cases hi : i < ds.length
  · rw [List.getElem?_append_left (by simpa using hi), List.getElem?_map, List.getElem?_eq_getElem hi] at hx
    simp only [Option.map_some, Option.some.injEq] at hx
    subst hx
    rw [Array.getElem?_append_left (by omega)] at hv
    refine .data _ _ ((hvs i hi v hv).mono fun b hb => ⟨⟨hB b hb, fun ⟨o, x, hg, _⟩ => (by rw [hno] at hg; cases hg), fun _ => .inl hb⟩, rfl⟩)
  · rw [List.getElem?_append_right (by simp; omega), List.getElem?_replicate] at hx
    split at hx
    · simp only [Option.some.injEq] at hx
      subst hx
      exact .junk v
    · cases hx
theorem kept_below {B : Nat → Prop} (h : Kept (ctxOf w B) w w') : Below w.heap.size w w' := ⟨h.os, h.tape, h.output, h.size, fun b hb => h.block b hb (fun hf => hf)⟩
theorem pure_of_awp {f : FuncId} {fn : Func} {code : Code} {n : Nat} {rs : List ResultVar} {fl : Bool} {g : List D → Option D} (hf : P.funcs[f]? = some fn) (hname : (fn.name == "runtime.NumGoroutine") = false) (hb : fn.body = some code) (hn : fn.ntmps = n) (hrs : fn.results.toList = rs)
    (h : ∀ ds d, g ds = some d → (fl = true → d.Flat) ∧ ∀ c : Ctx, c.base = 0 → awp P c code (RetD P rs d) (start n ds) emptyH) : PureOK P f fl g := by
  subst hn
  subst hrs
  intro ds d hd
  obtain ⟨hfl, hawp⟩ := h ds d hd
  refine ⟨hfl, fun w B vs hB hz hvs => ⟨⟨fn, hf, hname, by rw [hb]; rfl⟩, ?_⟩⟩
  refine calls_of_wp hf hb (Go.wp_mono (hawp (ctxOf w B) rfl _ w _ (start_st hB hz hvs)) ?_)
  rintro e a' w' ⟨sl', H', θ', ⟨hov, x, hx, hxd⟩, hst, hk, _⟩
  obtain ⟨v, hr, hv⟩ := resA_sound hst.st hx
  have hdr := toD_sound hst.st.sim 4 x v d hv hxd
  have hbel := kept_below hk
  have hdr' : DR w' (fun b => B b ∨ (w.heap.size ≤ b ∧ b < w'.heap.size)) d v := hdr.mono fun b hb => ⟨by
    rcases Nat.lt_or_ge b w.heap.size with h1 | h1
    · rcases hb.2 h1 with h2 | h2
      · exact .inl h2
      · exact h2.elim
    · exact .inr ⟨h1, hb.1⟩, rfl⟩
  cases e with
  | normal => exact ⟨hst.st.defers, v, hr, v, rfl, hdr', hbel⟩
  | ret => exact ⟨hst.st.defers, v, hr, v, rfl, hdr', hbel⟩
  | exit id => cases hov
  | goto l => cases hov
  | panic ch => cases hov
  | outgrown => cases hov
theorem own_of_awp {f : FuncId} {fn : Func} {code : Code} {n : Nat} {rs : List ResultVar} {g : List D → Option (TypeId × Nat × List D)} (hf : P.funcs[f]? = some fn) (hname : (fn.name == "runtime.NumGoroutine") = false) (hb : fn.body = some code) (hn : fn.ntmps = n) (hrs : fn.results.toList = rs)
    (h : ∀ ds e sz l, g ds = some (e, sz, l) → (0 < sz ∧ elemsOK sz l = true) ∧ ∀ c : Ctx, c.base = 0 → awp P c code (RetO P rs e sz l) (start n ds) emptyH) : OwnOK P f g := by
  subst hn
  subst hrs
  intro ds e sz l hd
  obtain ⟨⟨h0, hok⟩, hawp⟩ := h ds e sz l hd
  obtain ⟨hcl, hone⟩ := elemsOK_spec hok
  refine ⟨h0, hcl, hone, fun w B vs hB hz hvs => ⟨⟨fn, hf, hname, by rw [hb]; rfl⟩, ?_⟩⟩
  refine calls_of_wp hf hb (Go.wp_mono (hawp (ctxOf w B) rfl _ w _ (start_st hB hz hvs)) ?_)
  rintro ex a' w' ⟨sl', H', θ', ⟨hov, o, hx, hg⟩, hst, hk, _⟩
  obtain ⟨v, hr, hv⟩ := resA_sound hst.st hx
  have hbel := kept_below hk
  obtain ⟨hve, _⟩ := row_val hst.st.sim hv hg rfl
  obtain ⟨_, _, _, us, hown, hbl, hus⟩ := row_cells hst.st.sim hg
  rw [← hve] at hown hbl
  have hown' : ownsM w' w.heap.size e sz v l.length us := by
    refine ⟨hown.1, ?_⟩
    rcases hown.2 with h1 | ⟨gb, cap, cur, h1, _, h3⟩
    · exact .inl h1
    · refine .inr ⟨gb, cap, cur, h1, ?_, h3⟩
      rcases hbl gb (by rw [h1]; rfl) with h4 | h4
      · exact h4
      · exact h4.elim
  have hR : (∃ us, ownsM w' w.heap.size e sz v l.length us ∧ ∀ i (hi : i < (flat l).length) u, us[i]? = some u → DR w' (fun b => (B b ∨ (w.heap.size ≤ b ∧ b < w'.heap.size)) ∧ blk v ≠ some b) ((flat l)[i]) u) ∧ Below w.heap.size w w' := by
    refine ⟨⟨us, hown', fun i hi u hu => (hus i hi u hu).mono fun b hb => ⟨⟨?_, fun he => hb.2.1 ⟨o, _, hg, rfl, by rw [← hve]; exact he⟩⟩, rfl⟩⟩, hbel⟩
    rcases Nat.lt_or_ge b w.heap.size with h1 | h1
    · rcases hb.2.2 h1 with h2 | h2
      · exact .inl h2
      · exact h2.elim
    · exact .inr ⟨h1, hb.1⟩
  cases ex with
  | normal => exact ⟨hst.st.defers, v, hr, v, rfl, hR⟩
  | ret => exact ⟨hst.st.defers, v, hr, v, rfl, hR⟩
  | exit id => cases hov
  | goto l => cases hov
  | panic ch => cases hov
  | outgrown => cases hov
section
variable {Q : Exit → List AV → Heap → Prop} {K : List AV → Heap → Prop} {id id' : Nat}
theorem awp_cond {cond : Operand} {tc ec : Code} {b : Bool} (hc : aev sl cond = .data (.bool b)) (ht : b = true → awp P c tc Q sl H) (he : b = false → awp P c ec Q sl H) : awp P c (.cond cond tc ec) Q sl H := by
  intro θ w a hs
  have h := aev_sound hs.st cond
  rw [hc] at h
  refine wp_cond_split h.data_inv.bool_eq (fun hb => ht hb θ w a hs) (fun hb => he hb θ w a hs)
theorem awp_cond_t {cond : Operand} {tc ec : Code} (hc : aev sl cond = .data (.bool true)) (ht : awp P c tc Q sl H) : awp P c (.cond cond tc ec) Q sl H := awp_cond hc (fun _ => ht) (fun h => by cases h)
theorem awp_cond_f {cond : Operand} {tc ec : Code} (hc : aev sl cond = .data (.bool false)) (he : awp P c ec Q sl H) : awp P c (.cond cond tc ec) Q sl H := awp_cond hc (fun h => by cases h) (fun _ => he)
theorem then_normal (h : K sl H) : thenA K Q .normal sl H := h
theorem then_ret (h : Q .ret sl H) : thenA K Q .ret sl H := h
theorem then_exit (h : Q (.exit id) sl H) : thenA K Q (.exit id) sl H := h
theorem block_normal (h : Q .normal sl H) : inBlockA id Q .normal sl H := h
theorem block_ret (h : Q .ret sl H) : inBlockA id Q .ret sl H := h
theorem block_exit (h : Q .normal sl H) : inBlockA id Q (.exit id) sl H := by simp only [inBlockA, if_true]; exact h
theorem block_out (hne : (id' == id) = false) (h : Q (.exit id') sl H) : inBlockA id Q (.exit id') sl H := by
  simp only [inBlockA]
  rw [if_neg (by intro e; subst e; simp at hne)]
  exact h
end
end
end Go.Ab
