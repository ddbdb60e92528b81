/-
  One text of the proof (own work): contracts of functions of the program, by the abstract machine.
-/
import Derived.Test.YtapnigckcnknoaaDoorX9
set_option linter.unusedVariables false
set_option linter.unusedSimpArgs false
namespace Go.Ab
open Go Go.RowKit
def beforeB (ops : Array Oper) : Nat → Nat → Nat → Bool
  | 0, _, _ => false
  | n + 1, m, i => match ops[m]? with
    | some o => o.after.toList.any fun e => Region.binds .any e && (e.on == i || beforeB ops n e.on i)
    | none => false
def same2 (P : Program) (Γ : FuncId → Option CSpec) (ops : Array Oper) (H H1 : Heap) (m : Nat) : Nat → List Oper → List AV → Prop
  | _, [], _ => True
  | i, o :: l, sl => (beforeB ops 8 m i = true ∨ qval P Γ ops H1 sl o = qval P Γ ops H sl o) ∧ match qval P Γ ops H sl o with
    | some x => same2 P Γ ops H H1 m (i + 1) l (putA sl o.dst x)
    | none => True
section
variable {P : Program} {Γ : FuncId → Option CSpec} {c : Ctx} {H H' : Heap} {θ θ' : Nat → Value} {w w' : World} {sl : List AV} {a : Act} {o : Oper} {r : AV}
theorem before_listed {ops : Array Oper} {listed : Array Bool} (hcl : ∀ i o, ops[i]? = some o → listed.getD i false = true → ∀ e ∈ o.after, Region.binds .any e = true → listed.getD e.on false = true) :
    ∀ n m i, beforeB ops n m i = true → listed.getD m false = true → listed.getD i false = true
  | 0, m, i, h, _ => by simp [beforeB] at h
  | n + 1, m, i, h, hl => by
    unfold beforeB at h
    split at h
    · rename_i o ho
      simp only [List.any_eq_true, Bool.and_eq_true, Bool.or_eq_true, beq_iff_eq] at h
      obtain ⟨e, he, hb, h⟩ := h
      have h1 := hcl m o ho hl e (by simpa using he) hb
      rcases h with rfl | h
      · exact h1
      · exact before_listed hcl n e.on i h h1
    · cases h
theorem astep_congr {nst : Bool} {k : Nat} {sl sl' : List AV} {op : Op} (h : ∀ x ∈ op.operands, aev sl x = aev sl' x) : astep P Γ nst k sl H op = astep P Γ nst k sl' H op := by
  have pairs : ∀ ps : Array (Nat × Operand), (∀ x ∈ ps.map (·.2), aev sl x = aev sl' x) →
      (ps.toList.map fun (i, x) => (i, aev sl x)) = (ps.toList.map fun (i, x) => (i, aev sl' x)) := fun ps hp =>
    List.map_congr_left fun p hm => by
      obtain ⟨i, x⟩ := p
      simp only [hp x (Array.mem_map.2 ⟨(i, x), by simpa using hm, rfl⟩)]
  cases op <;> simp only [Op.operands] at h <;> simp only [astep]
  case build t ps => rw [pairs ps fun x hx => h x (by simpa using hx)]
  case buildSlice t n ps => rw [pairs ps fun x hx => h x (by simpa using hx)]
  case call c =>
    have hargs : c.args.toList.map (aev sl) = c.args.toList.map (aev sl') := by
      refine List.map_congr_left fun x hx => h x ?_
      have h2 : x ∈ c.args := by simpa using hx
      simp [Call.operands, h2]
    simp only [hargs]
    cases hc : c.callee with
    | value f => have hf : aev sl f = aev sl' f := h f (by simp [Call.operands, hc]); simp only [hf]
    | invoke r m => rfl
    | builtin b => rfl
  case makeFunc fn first caps =>
    unfold amakeFunc
    have h1 : first.toList.map (aev sl) = first.toList.map (aev sl') := List.map_congr_left fun x hx => h x (by simp at hx ⊢; exact .inl hx)
    have h2 : caps.toList.map (aev sl) = caps.toList.map (aev sl') := List.map_congr_left fun x hx => h x (by simp at hx ⊢; exact .inr hx)
    cases hfl : first.toList with
    | nil => cases fn <;> first | rfl | (dsimp only; rw [h2])
    | cons x r => rw [hfl] at h1; cases fn <;> first | rfl | (dsimp only; rw [h1])
  case makeMap t r => cases r <;> rfl
  case slice t x lo hi mx => cases lo <;> cases hi <;> cases mx <;> simp_all
  all_goals (first | rfl | (simp_all; done))
theorem runOp_congr {nst : Bool} {k : Nat} {ops : Array Oper} {sl sl' : List AV} (h : ∀ t ∈ o.looksAt ops, sl.getD t .junk = sl'.getD t .junk) (hlen : sl.length = sl'.length) {s2 : List AV} {H2 : Heap} (h1 : runOp P Γ nst k ops o sl' H = some (s2, H2)) :
    ∃ x, s2 = putA sl' o.dst x ∧ runOp P Γ nst k ops o sl H = some (putA sl o.dst x, H2) := by
  have hw : wantedA ops sl o = wantedA ops sl' o := by
    unfold wantedA
    cases hg : o.guard with
    | none => rfl
    | some gw =>
      obtain ⟨g, want⟩ := gw
      dsimp only
      cases ht : (ops[g]?).bind (·.dst) with
      | none => rfl
      | some t =>
        have := h t (by simp [Oper.looksAt, hg, ht])
        simp only [this]
  have hq : astep P Γ nst k sl H o.op = astep P Γ nst k sl' H o.op := astep_congr fun x hx => by
    cases x with
    | tmp t => exact h t (List.mem_append_left _ (List.mem_filterMap.2 ⟨.tmp t, by simpa using hx, rfl⟩))
    | _ => rfl
  unfold runOp at h1 ⊢
  rw [hw, hq]
  split at h1
  · split at h1
    · rename_i r H' hst
      simp only [Option.some.injEq, Prod.mk.injEq] at h1
      obtain ⟨rfl, rfl⟩ := h1
      exact ⟨r, rfl, rfl⟩
    · cases h1
  · simp only [Option.some.injEq, Prod.mk.injEq] at h1
    obtain ⟨rfl, rfl⟩ := h1
    exact ⟨_, rfl, rfl⟩
  · cases h1
variable {ops : Array Oper} {n0 : Nat} {L : Nat → List AV}
theorem draw_mix {nst : Bool} {k k1 : Nat} {H1 H2 : Heap} {om : Oper} (hΓ : ∀ f s, Γ f = some s → SpecOK P f s) (hd : drawOK ops (n0 + 1) = true)
    (hL : ∀ i o, i < n0 → ops[i]? = some o → ∃ x, qval P Γ ops H (L i) o = some x ∧ L (i + 1) = putA (L i) o.dst x ∧ (beforeB ops 8 n0 i = true ∨ qval P Γ ops H1 (L i) o = some x))
    (hom : ops[n0]? = some om) (hLm : runOp P Γ nst k ops om (L n0) H = some (L (n0 + 1), H2)) (hH1 : H1 = H2.bump k1) (hk1 : nextK k H2 ≤ k1) (hk : H.next ≤ k)
    {Q : Exit → Act → World → Prop} : ∀ (n : Nat) (todo : List Nat) (listed : Array Bool) (cur : List AV) (Hc : Heap) (θ : Nat → Value) (w : World) (a : Act), todo.length = n → todo.Nodup → (∀ i, i ∈ todo ↔ i < n0 + 1 ∧ listed.getD i false = false) →
    Mid ops (n0 + 1) L listed cur → (Hc = if listed.getD n0 false then H1 else H) → Hc.bnd Hc.next → St c Hc θ w cur a →
    (∀ listed' θ' w' a', (∀ i, i < ops.size → listed'.getD i true = decide (i < n0 + 1)) → listed'.size = ops.size → St c H1 θ' w' (L (n0 + 1)) a' → H1.bnd H1.next → Kept c w w' → HLe Hc θ H1 θ' → wpAny P .any ops Q (ops.size - (n0 + 1)) listed' a' w') →
    wpAny P .any ops Q (todo.length + (ops.size - (n0 + 1))) listed a w := by
  obtain ⟨hn1, hspec⟩ := drawOK_spec hd
  have hLx : Lex ops (n0 + 1) L := fun i o h1 h2 => by
    by_cases hi : i < n0
    · obtain ⟨x, _, h, _⟩ := hL i o hi h2; exact ⟨x, h⟩
    · obtain rfl : i = n0 := by omega
      rw [hom] at h2
      cases h2
      obtain ⟨x, h3, _⟩ := runOp_congr (sl := L i) (fun t _ => rfl) rfl hLm
      exact ⟨x, h3⟩
  intro n
  induction n with
  | zero =>
    intro todo listed cur Hc θ w a hlen hnd htodo hm hc hbd hs hK
    have hnil : todo = [] := List.eq_nil_of_length_eq_zero hlen
    subst hnil
    have hall : ∀ i, i < n0 + 1 → listed.getD i false = true := fun i hi => by
      cases hb : listed.getD i false
      · exact absurd ((htodo i).2 ⟨hi, hb⟩) (by simp)
      · rfl
    rw [hall n0 (by omega), if_pos rfl] at hc
    subst hc
    rw [List.length_nil, Nat.zero_add]
    refine hK listed θ w a (fun i hi => ?_) hm.size ?_ hbd (Kept.refl c w) (HLe.refl _ _)
    · rw [getD_sz (by rw [hm.size]; exact hi) true false]
      by_cases h1 : i < n0 + 1
      · rw [hall i h1]; simp [h1]
      · cases hb : listed.getD i false
        · simp [h1]
        · exact absurd (hm.below i hb) h1
    · rw [← hm.done hd hLx hall]; exact hs
  | succ n ih =>
    intro todo listed cur Hc θ w a hlen hnd htodo hm hc hbd hs hK
    rw [hlen, show n + 1 + (ops.size - (n0 + 1)) = n + (ops.size - (n0 + 1)) + 1 from by omega]
    have hex : ∀ j, j ∈ todo → Region.ready .any ops listed ≠ [] := by
      intro j
      induction j using Nat.strongRecOn with
      | _ j ihj =>
        intro hj
        obtain ⟨hj1, hun⟩ := (htodo j).1 hj
        obtain ⟨oj, hoj⟩ : ∃ o, ops[j]? = some o := ⟨_, Array.getElem?_eq_getElem (by omega)⟩
        by_cases hall : ∀ e ∈ oj.after, Region.binds .any e = true → listed.getD e.on false = true
        · intro hnil
          have : j ∈ Region.ready .any ops listed := by
            rw [mem_ready]
            exact ⟨by rw [getD_sz (by rw [hm.size]; omega) true false]; exact hun, oj, hoj, hall⟩
          rw [hnil] at this
          simp at this
        · simp only [Classical.not_forall] at hall
          obtain ⟨e, he, hb, hne⟩ := hall
          have h3 := (hspec j oj hoj).1 e he hb
          exact ihj e.on h3 ((htodo e.on).2 ⟨by omega, by simpa using hne⟩)
    refine ⟨fun hr => ?_, fun j hj => ?_⟩
    · cases todo with
      | nil => simp at hlen
      | cons j r => exact absurd hr (hex j (by simp))
    rw [mem_ready] at hj
    obtain ⟨h0, oj, hoj, hr⟩ := hj
    have hlt : j < ops.size := (Array.getElem?_eq_some_iff.1 hoj).1
    have hun : listed.getD j false = false := by rw [getD_sz (by rw [hm.size]; exact hlt) false true]; exact h0
    have hj1 : j < n0 + 1 := by
      rcases Nat.lt_or_ge j (n0 + 1) with h1 | h1
      · exact h1
      · exfalso
        cases todo with
        | nil => simp at hlen
        | cons i r =>
          obtain ⟨hi1, hiu⟩ := (htodo i).1 (by simp)
          obtain ⟨oi, hoi⟩ : ∃ o, ops[i]? = some o := ⟨_, Array.getElem?_eq_getElem (by omega)⟩
          rcases (hspec j oj hoj).2 i oi hoi (by omega) with ⟨e, he, hb, hon⟩ | ⟨h4, _⟩
          · have := hr e he hb
            rw [hon] at this
            rw [this] at hiu; cases hiu
          · omega
    have hlook : ∀ t ∈ oj.looksAt ops, cur.getD t .junk = (L j).getD t .junk := fun t ht => hm.look hd hLx hoj hj1 hun hr ht
    have hmem : j ∈ todo := (htodo j).2 ⟨hj1, hun⟩
    have hlen' : (todo.erase j).length = n := by rw [List.length_erase_of_mem hmem, hlen]; rfl
    have htodo' : ∀ i, i ∈ todo.erase j ↔ i < n0 + 1 ∧ (listed.setIfInBounds j true).getD i false = false := fun i => by
      rw [hnd.mem_erase_iff, htodo i, listed_set (by rw [hm.size]; exact hlt)]
      by_cases hij : i = j
      · subst hij; simp
      · simp [hij]
    by_cases hjn : j = n0
    · subst hjn
      rw [hom] at hoj
      cases hoj
      rw [hun] at hc
      simp only [Bool.false_eq_true, if_false] at hc
      subst hc
      obtain ⟨x, hx1, hx2⟩ := runOp_congr hlook (hm.len j (by omega)).symm hLm
      refine op_any hΓ hom hx2 hs (fun o ho => Nat.lt_of_lt_of_le (hbd o ho) hk) hk fun a' w' θ' hs' hkey hk' hl' => ?_
      have hn2 : H2.next ≤ k1 := Nat.le_trans (nextK_ge _ _) hk1
      have hs2 : St c H1 θ' w' (putA cur om.dst x) a' := by rw [hH1]; exact hs'.bump hn2
      have hl2 : HLe Hc θ H1 θ' := by rw [hH1]; exact hl'.trans (HLe.bump hn2)
      have hbd2 : H1.bnd H1.next := by
        rw [hH1]
        exact fun o ho => Nat.lt_of_lt_of_le (hkey.2 o ho) hk1
      have := ih (todo.erase j) (listed.setIfInBounds j true) (putA cur om.dst x) H1 θ' w' a' hlen' (hnd.erase j) htodo' (hm.next hd hLx hom hj1 hun hr hx1)
        (by rw [listed_set (by rw [hm.size]; exact hlt)]; simp) hbd2 hs2 fun l2 θ2 w2 a2 h1 h2 h3 h4 h5 h6 => hK l2 θ2 w2 a2 h1 h2 h3 h4 (hk'.trans h5) (hl2.trans h6)
      rw [hlen'] at this
      exact this
    · obtain ⟨x, hx, hLj, hor⟩ := hL j oj (by omega) hoj
      have hq0 : qval P Γ ops Hc (L j) oj = some x := by
        rw [hc]
        split
        · rename_i hl
          rcases hor with h | h
          · have := before_listed hm.closed _ _ _ h hl
            rw [this] at hun; cases hun
          · exact h
        · exact hx
      have hq : qval P Γ ops Hc cur oj = some x := by rw [← hq0]; exact qval_congr hlook
      refine op_quiet hΓ hoj hq hs hbd fun a' w' θ' hs' hk' hl' => ?_
      have := ih (todo.erase j) (listed.setIfInBounds j true) (putA cur oj.dst x) Hc θ' w' a' hlen' (hnd.erase j) htodo' (hm.next hd hLx hoj hj1 hun hr hLj)
        (by rw [listed_set (by rw [hm.size]; exact hlt)]; simp [Ne.symm hjn, hc]) hbd hs' fun l2 θ2 w2 a2 h1 h2 h3 h4 h5 h6 => hK l2 θ2 w2 a2 h1 h2 h3 h4 (hk'.trans h5) (hl'.trans h6)
      rw [hlen'] at this
      exact this
theorem same2_at {H1 : Heap} {m : Nat} (hLe : ∀ i o, i < n0 → ops[i]? = some o → ∃ x, qval P Γ ops H (L i) o = some x ∧ L (i + 1) = putA (L i) o.dst x) (h : same2 P Γ ops H H1 m 0 (ops.toList.take n0) (L 0)) (hn : n0 ≤ ops.size) :
    ∀ i, i ≤ n0 → same2 P Γ ops H H1 m i ((ops.toList.take n0).drop i) (L i)
  | 0, _ => h
  | i + 1, hi => by
    have ih := same2_at hLe h hn i (by omega)
    obtain ⟨o, ho⟩ : ∃ o, ops[i]? = some o := ⟨_, Array.getElem?_eq_getElem (by omega)⟩
    have hd : (ops.toList.take n0).drop i = o :: (ops.toList.take n0).drop (i + 1) := by
      have hl : i < (ops.toList.take n0).length := by simp; omega
      rw [List.drop_eq_getElem_cons hl]
      congr 1
      have h2 : (ops.toList.take n0)[i]? = some o := by
        rw [List.getElem?_take_of_lt (by omega)]
        simpa using ho
      rw [List.getElem?_eq_getElem hl] at h2
      exact Option.some.inj h2
    rw [hd] at ih
    obtain ⟨x, hx, hLx⟩ := hLe i o (by omega) ho
    simp only [same2, hx] at ih
    rw [hLx]
    exact ih.2
theorem awp_mix {id : Nat} {nst nst' : Bool} {Q : Exit → List AV → Heap → Prop} (n0 : Nat) (hmix : P.follows .mixedOrders = true) (hΓ : ∀ f s, Γ f = some s → SpecOK P f s) (hd : drawOK ops (n0 + 1) = true) {sl1 sl2 sl' : List AV} {H2 H' : Heap} {om : Oper} {k1 : Nat} (hk1 : H.next + n0 + 1 = k1)
    (h1 : qruns P Γ ops H (ops.toList.take n0) sl = some sl1) (hom : ops[n0]? = some om) (hm : runOp P Γ nst (H.next + n0) ops om sl1 H = some (sl2, H2)) (hn2 : nextK (H.next + n0) H2 ≤ k1)
    (hsame : same2 P Γ ops H (H2.bump k1) n0 0 (ops.toList.take n0) sl)
    (h2 : runOps P Γ nst' ops k1 (ops.toList.drop (n0 + 1)) sl2 (H2.bump k1) = some (sl', H')) (hQ : Q .normal sl' H') : awp P c (.region id ops true) Q sl H := by
  intro θ w a hs
  subst hk1
  obtain ⟨hn1, hspec⟩ := drawOK_spec hd
  obtain ⟨L0, hL0, hL1, hL⟩ := lex_states (n1 := n0) (by omega) h1
  let L : Nat → List AV := fun i => if i ≤ n0 then L0 i else sl2
  have hLle : ∀ i, i ≤ n0 → L i = L0 i := fun i hi => by simp only [L, if_pos hi]
  have hLn : L (n0 + 1) = sl2 := by simp only [L]; rw [if_neg (by omega)]
  have hLq : ∀ i o, i < n0 → ops[i]? = some o → ∃ x, qval P Γ ops H (L i) o = some x ∧ L (i + 1) = putA (L i) o.dst x := fun i o hi ho => by
    rw [hLle i (by omega), hLle (i + 1) (by omega)]
    exact hL i o hi ho
  have hsm := same2_at (L := L) hLq (by rw [hLle 0 (by omega), hL0]; exact hsame) (by omega)
  have hLm : runOp P Γ nst (H.next + n0) ops om (L n0) H = some (L (n0 + 1), H2) := by rw [hLle n0 (by omega), hLn, hL1]; exact hm
  have hlenL : ∀ i, i ≤ n0 + 1 → (L i).length = sl.length := by
    intro i
    induction i with
    | zero => intro _; rw [hLle 0 (by omega), hL0]
    | succ i ih =>
      intro hi
      by_cases hin : i < n0
      · obtain ⟨o, ho⟩ : ∃ o, ops[i]? = some o := ⟨_, Array.getElem?_eq_getElem (by omega)⟩
        obtain ⟨x, _, hx⟩ := hLq i o (by omega) ho
        rw [hx, putA_length]
        exact ih (by omega)
      · obtain rfl : i = n0 := by omega
        obtain ⟨x, h3, _⟩ := runOp_congr (sl := L i) (fun t _ => rfl) rfl hLm
        rw [h3, putA_length]
        exact ih (by omega)
  have hno : ∀ i, (Array.replicate ops.size false).getD i false = false := fun i => by
    simp only [Array.getD_eq_getD_getElem?, Array.getElem?_replicate]
    split <;> rfl
  refine wp_region_any hmix ?_
  have key := draw_mix (c := c) (k := H.next + n0) (k1 := H.next + n0 + 1) (L := L) hΓ hd (fun i o hi ho => by
      obtain ⟨x, hx, hx2⟩ := hLq i o hi ho
      refine ⟨x, hx, hx2, ?_⟩
      have h3 := hsm i (by omega)
      have hdr : (ops.toList.take n0).drop i = o :: (ops.toList.take n0).drop (i + 1) := by
        have hl : i < (ops.toList.take n0).length := by simp; omega
        rw [List.drop_eq_getElem_cons hl]
        congr 1
        have h2 : (ops.toList.take n0)[i]? = some o := by
          rw [List.getElem?_take_of_lt (by omega)]
          simpa using ho
        rw [List.getElem?_eq_getElem hl] at h2
        exact Option.some.inj h2
      rw [hdr] at h3
      simp only [same2] at h3
      rcases h3.1 with h4 | h4
      · exact .inl h4
      · exact .inr (by rw [h4]; exact hx)) hom hLm rfl hn2 (by omega) (Q := fun e a' w' => ∃ sl' H' θ', Q e sl' H' ∧ StW c H' θ' w' sl' a' ∧ Kept c w w' ∧ Evo c.base H θ H' θ') (n0 + 1) (List.range (n0 + 1)) (Array.replicate ops.size false) sl H θ { w with drawn := w.drawn + 1 } a (by simp) List.nodup_range
    (fun i => by rw [hno]; simp) ⟨by simp, fun i o _ h => (by rw [hno] at h; cases h), fun i h => (by rw [hno] at h; cases h), hlenL, fun t => ⟨0, Nat.zero_le _, fun i o _ _ _ => (by rw [hno]; simp), by rw [hLle 0 (by omega), hL0]⟩⟩
    (by rw [hno]; simp) hs.wf (hs.st.drawn _) fun listed' θ' w' a' hli hsz hs' hbd' hk' hl' => ?_
  · rw [List.length_range, Nat.add_sub_cancel' hn1] at key
    exact key
  · refine draw_tail hΓ hd (ops.toList.drop (n0 + 1)) (n0 + 1) (H.next + n0 + 1) listed' (L (n0 + 1)) (H2.bump (H.next + n0 + 1)) θ' w' a' sl' H' (Nat.le_refl _) rfl hli hsz hn1 (by rw [hLn]; exact h2) hs' hbd' (Nat.le_refl _) fun a2 w2 θ2 hs2 hb2 hn2 hk2 hl2 => ?_
    have hkk : Kept c w w2 := by
      have h3 := hk'.trans hk2
      exact ⟨h3.os, h3.tape, h3.output, h3.size, h3.block⟩
    exact ⟨sl', _, θ2, hQ, ⟨hs2, hb2, by have := hs.base; omega⟩, hkk, (hl'.trans hl2).evo hs.base⟩
end
end Go.Ab
namespace Go.Ab
open Go Go.RowKit
def Weak (b : Nat) (sl : List AV) (H : Heap) (sl' : List AV) (H' : Heap) : Prop := ∀ c θ w a, c.base = b → StW c H θ w sl a → ∃ θ', StW c H' θ' w sl' a ∧ Evo b H θ H' θ'
theorem Weak.refl (b : Nat) (sl : List AV) (H : Heap) : Weak b sl H sl H := fun _ θ _ _ _ h => ⟨θ, h, Evo.refl _ _ _⟩
theorem Weak.trans {b : Nat} {s1 s2 s3 : List AV} {H1 H2 H3 : Heap} (h : Weak b s1 H1 s2 H2) (k : Weak b s2 H2 s3 H3) : Weak b s1 H1 s3 H3 := fun c θ w a hb hs => by
  obtain ⟨θ', h1, e1⟩ := h c θ w a hb hs
  obtain ⟨θ2, h2, e2⟩ := k c θ' w a hb h1
  exact ⟨θ2, h2, e1.trans e2⟩
section
variable {P : Program} {c : Ctx} {H H' : Heap} {θ θ' : Nat → Value} {w w' : World} {sl sl' : List AV} {a : Act} {b : Nat}
theorem awp_weak {code : Code} {Q : Exit → List AV → Heap → Prop} (h : Weak c.base sl H sl' H') (k : awp P c code Q sl' H') : awp P c code Q sl H := fun θ w a hs => by
  obtain ⟨θ', h1, e1⟩ := h c θ w a rfl hs
  exact Go.wp_mono (k θ' w a h1) fun _ _ _ ⟨sl2, H2, θ2, q, s, kk, e2⟩ => ⟨sl2, H2, θ2, q, s, kk, e1.trans e2⟩
theorem awp_post {code : Code} {Q Q' : Exit → List AV → Heap → Prop} (k : awp P c code Q sl H) (h : ∀ e sl H, Q e sl H → ∃ sl' H', Weak c.base sl H sl' H' ∧ Q' e sl' H') : awp P c code Q' sl H := fun θ w a hs =>
  Go.wp_mono (k θ w a hs) fun e a' w' ⟨sl1, H1, θ1, q, s, kk, ev⟩ => by
    obtain ⟨sl2, H2, hw, hq⟩ := h e sl1 H1 q
    obtain ⟨θ2, hs2, e2⟩ := hw c θ1 w' a' rfl s
    exact ⟨sl2, H2, θ2, hq, hs2, kk, ev.trans e2⟩
theorem awp_mid {code : Code} {K : List AV → Heap → Prop} {Q : Exit → List AV → Heap → Prop} {Y : Type} (S : Y → List AV) (T : Y → List (Nat × Obj)) (N : Nat) (J : Y → Prop)
    (h : awp P c code (thenA (fun sl H => ∃ y, J y ∧ Weak c.base sl H (S y) ⟨T y, N⟩) Q) sl H) (k : ∀ y, J y → K (S y) ⟨T y, N⟩) : awp P c code (thenA K Q) sl H := by
  refine awp_post h fun e sl H q => ?_
  cases e with
  | normal => obtain ⟨y, hJ, hw⟩ := q; exact ⟨S y, ⟨T y, N⟩, hw, k y hJ⟩
  | exit id => exact ⟨sl, H, Weak.refl _ _ _, q⟩
  | goto l => exact ⟨sl, H, Weak.refl _ _ _, q⟩
  | ret => exact ⟨sl, H, Weak.refl _ _ _, q⟩
  | panic ch => exact ⟨sl, H, Weak.refl _ _ _, q⟩
  | outgrown => exact ⟨sl, H, Weak.refl _ _ _, q⟩
mutual
def AV.refsOK (n : Nat) : AV → Bool
  | .ptr o _ => decide (o < n)
  | .row o _ => decide (o < n)
  | .rref o _ _ _ => decide (o < n)
  | .mref o => decide (o < n)
  | .agg l => refsOKs n l
  | .tup l => refsOKs n l
  | .fn _ l => refsOKs n l
  | .bnd _ l => refsOKs n l
  | _ => true
def refsOKs (n : Nat) : List AV → Bool
  | [] => true
  | x :: r => x.refsOK n && refsOKs n r
end
def Obj.refsOK (n : Nat) : Obj → Bool
  | .box cs => refsOKs n cs
  | .arr _ _ _ cs => refsOKs n cs
  | _ => true
theorem refsOKs_get {n : Nat} : ∀ {l : List AV}, refsOKs n l = true → ∀ (i : Nat) (hi : i < l.length), (l[i]).refsOK n = true
  | [], _, i, hi => by simp at hi
  | x :: r, h, i, hi => by
    simp only [refsOKs, Bool.and_eq_true] at h
    cases i with
    | zero => exact h.1
    | succ i => exact refsOKs_get h.2 i (by simpa using hi)
theorem VR.trim {B B' : Nat → Prop} {n : Nat} (hB : ∀ b, B b → B' b) (hg : ∀ o x, H'.get o = some x → H.get o = some x) (hr : ∀ o, o < n → H'.ref o) {x : AV} {v : Value} (h : VR H θ w B x v) (hx : x.refsOK n = true) : VR H' θ w B' x v := by
  induction h with
  | data d v h => exact .data d v (h.mono fun b hb => ⟨hB b hb, rfl⟩)
  | junk v => exact .junk v
  | nils => exact .nils
  | ptr o off v hv hr' h =>
    simp only [AV.refsOK, decide_eq_true_eq] at hx
    exact .ptr o off v hv (hr o hx) fun cs hcs => h cs (hg _ _ hcs)
  | row o m v hv hr' h =>
    simp only [AV.refsOK, decide_eq_true_eq] at hx
    exact .row o m v hv (hr o hx) (fun x m hl => h x m (hg _ _ hl))
  | rref o m i off v hv hr' h =>
    simp only [AV.refsOK, decide_eq_true_eq] at hx
    exact .rref o m i off v hv (hr o hx) (fun x m sz hl => h x m sz (hg _ _ hl))
  | mref o v hv hr' h =>
    simp only [AV.refsOK, decide_eq_true_eq] at hx
    exact .mref o v hv (hr o hx) (fun ks vs hl => h ks vs (hg _ _ hl))
  | agg l vs u hz hv _ ih => simp only [AV.refsOK] at hx; exact .agg l vs u hz hv fun i hi => ih i hi (refsOKs_get hx i hi)
  | tup l vs u hz hv _ ih => simp only [AV.refsOK] at hx; exact .tup l vs u hz hv fun i hi => ih i hi (refsOKs_get hx i hi)
  | fn f l vs u hz hv _ ih => simp only [AV.refsOK] at hx; exact .fn f l vs u hz hv fun i hi => ih i hi (refsOKs_get hx i hi)
  | bnd f l vs u hz hv _ ih => simp only [AV.refsOK] at hx; exact .bnd f l vs u hz hv fun i hi => ih i hi (refsOKs_get hx i hi)
theorem own_sub (hg : ∀ o x, H'.get o = some x → H.get o = some x) {b : Nat} (h : own H' θ b) : own H θ b := by
  obtain ⟨o, x, h1, h2, h3⟩ := h
  exact ⟨o, x, hg _ _ h1, h2, h3⟩
theorem vis_sub (hg : ∀ o x, H'.get o = some x → H.get o = some x) {b : Nat} (h : vis c H θ w b) : vis c H' θ w b := ⟨h.1, fun h2 => h.2.1 (own_sub hg h2), h.2.2⟩
theorem StW.trim (hs : StW c H θ w sl a) (hg : ∀ o x, H'.get o = some x → H.get o = some x ∧ o < H'.next ∧ x.refsOK H'.next = true) (hsl : refsOKs H'.next sl = true) (hb : c.base ≤ H'.next) : StW c H' θ w sl a := by
  have hg' : ∀ o x, H'.get o = some x → H.get o = some x := fun o x h => (hg o x h).1
  have hr : ∀ o, o < H'.next → H'.ref o := fun o h => .inl h
  have hv : ∀ b, vis c H θ w b → vis c H' θ w b := fun b h => vis_sub hg' h
  refine ⟨⟨⟨hs.st.sim.size, fun o x h => ?_, fun o o' x x' h h' => hs.st.sim.inj o o' x x' (hg' _ _ h) (hg' _ _ h')⟩, hs.st.defers, hs.st.size, fun i x v hx hv' => ?_⟩, fun o ho => ?_, hb⟩
  · obtain ⟨h1, h2, h3⟩ := hg o x h
    have hob := hs.st.sim.objs o x h1
    cases x with
    | box cs =>
      obtain ⟨b, e, vs, k1, k2, k3, k4, k5⟩ := hob
      exact ⟨b, e, vs, k1, k2, k3, k4, fun i hi u hu => ⟨(k5 i hi u hu).1.trim hv hg' hr (refsOKs_get h3 i hi), (k5 i hi u hu).2⟩⟩
    | row e sz l =>
      obtain ⟨k1, k2, k3, vs, k4, k5, k6⟩ := hob
      exact ⟨k1, k2, k3, vs, k4, k5, fun i hi u hu => (k6 i hi u hu).mono fun b hb => ⟨hv b hb, rfl⟩⟩
    | arr e sz n cs =>
      obtain ⟨k1, k2, vs, k3, k4, k5⟩ := hob
      exact ⟨k1, k2, vs, k3, k4, fun i hi u hu => ⟨(k5 i hi u hu).1.trim hv hg' hr (refsOKs_get h3 i hi), (k5 i hi u hu).2⟩⟩
    | frz l => exact DR.mono hob fun b hb => ⟨hv b hb, rfl⟩
    | map ks vs =>
      obtain ⟨b, clock, es, k1, k2, k3, k4, k5, kst, k6, k7⟩ := hob
      exact ⟨b, clock, es, k1, k2, k3, k4, k5, kst, fun i hi e he => (k6 i hi e he).mono fun b hb => ⟨hv b hb, rfl⟩, fun i hi e he => (k7 i hi e he).mono fun b hb => ⟨hv b hb, rfl⟩⟩
    | dead => trivial
  · have hi : i < sl.length := (List.getElem?_eq_some_iff.1 hx).1
    have := refsOKs_get hsl i hi
    rw [List.getElem?_eq_getElem hi, Option.some.injEq] at hx
    rw [hx] at this
    exact (hs.st.vals i x v (by rw [List.getElem?_eq_getElem hi, hx]) hv').trim hv hg' hr this
  · cases hx : H'.get o with
    | none => rw [hx] at ho; cases ho
    | some x => exact (hg o x hx).2.1
def Conv (H : Heap) (x : AV) : AV → Prop
  | .junk => True
  | .data (.list l) => x = .data (.list l) ∨ (x = .nils ∧ l = []) ∨ ∃ o n, x = .row o n ∧ H.get o = some (.frz l) ∧ l.length = n
  | y => x = y
def ConvL (H : Heap) : List AV → List AV → Prop
  | [], [] => True
  | x :: l, y :: r => Conv H x y ∧ ConvL H l r
  | _, _ => False
theorem Conv.sound (hs : HSim c H θ w) {x y : AV} (h : Conv H x y) {v : Value} (hx : VR H θ w (vis c H θ w) x v) : VR H θ w (vis c H θ w) y v := by
  unfold Conv at h
  split at h
  · exact .junk v
  · rename_i l
    rcases h with rfl | ⟨rfl, rfl⟩ | ⟨o, n, rfl, hg, hn⟩
    · exact hx
    · cases hx
      exact .data _ _ (.empty none 0)
    · exact .data _ _ (frz_val hs hx hg hn)
  · subst h; exact hx
theorem ConvL.len {H : Heap} : ∀ {l r : List AV}, ConvL H l r → l.length = r.length
  | [], [], _ => rfl
  | x :: l, y :: r, h => by simp only [ConvL] at h; simp [h.2.len]
  | [], _ :: _, h => h.elim
  | _ :: _, [], h => h.elim
theorem ConvL.get {H : Heap} : ∀ {l r : List AV}, ConvL H l r → ∀ (i : Nat) (y : AV), r[i]? = some y → ∃ x, l[i]? = some x ∧ Conv H x y
  | [], [], _, i, y, h => by simp at h
  | x :: l, z :: r, hc, i, y, h => by
    simp only [ConvL] at hc
    cases i with
    | zero => simp at h; subst h; exact ⟨x, rfl, hc.1⟩
    | succ i => exact hc.2.get i y (by simpa using h)
  | [], _ :: _, h, _, _, _ => h.elim
  | _ :: _, [], h, _, _, _ => h.elim
theorem StW.conv (hs : StW c H θ w sl a) (h : ConvL H sl sl') : StW c H θ w sl' a := by
  refine ⟨⟨hs.st.sim, hs.st.defers, by rw [hs.st.size, h.len], fun i y v hy hv => ?_⟩, hs.wf, hs.base⟩
  obtain ⟨x, hx, hc⟩ := h.get i y hy
  exact hc.sound hs.st.sim (hs.st.vals i x v hx hv)
def TabSub (n : Nat) (tab : List (Nat × Obj)) : List (Nat × Obj) → Prop
  | [] => True
  | (o, x) :: r => look tab o = some x ∧ o < n ∧ x.refsOK n = true ∧ TabSub n tab r
theorem TabSub.get {n : Nat} {tab : List (Nat × Obj)} : ∀ {r : List (Nat × Obj)}, TabSub n tab r → ∀ (o : Nat) (x : Obj), look r o = some x → look tab o = some x ∧ o < n ∧ x.refsOK n = true
  | [], _, o, x, h => by simp [look] at h
  | (p, y) :: r, ht, o, x, h => by
    simp only [TabSub] at ht
    simp only [look] at h
    split at h
    · rename_i hp
      simp only [Option.some.injEq] at h
      subst h
      subst hp
      exact ⟨ht.1, ht.2.1, ht.2.2.1⟩
    · exact ht.2.2.2.get o x h
theorem Weak.of {tab tab' : List (Nat × Obj)} {n n' : Nat} (hb : b ≤ n') (h1 : ConvL ⟨tab, n⟩ sl sl') (h2 : TabSub n' tab tab') (h3 : refsOKs n' sl' = true) : Weak b sl ⟨tab, n⟩ sl' ⟨tab', n'⟩ := fun c θ w a hc hs =>
  ⟨θ, (hs.conv h1).trim (fun o x h => h2.get o x h) h3 (by rw [hc]; exact hb), fun o x' _ hx => ⟨x', (h2.get o x' hx).1, x'.evo_refl, fun _ => rfl⟩⟩
theorem Weak.freeze {o : Nat} {e : TypeId} {sz : Nat} {l : List D} (hg : H.get o = some (.row e sz l)) : Weak b sl H sl (H.set o (.frz l)) := fun c θ w a hc hs =>
  ⟨θ, ⟨hs.st.freeze hg, fun p hp => by
    rw [Heap.get_set] at hp
    by_cases h : p = o
    · subst h; exact hs.wf p (by rw [hg]; rfl)
    · rw [if_neg h] at hp; exact hs.wf p hp, hs.base⟩, (freeze_row hs.st.sim hg).2.2.2.evo (by rw [← hc]; exact hs.base)⟩
theorem StW.fresh (hs : StW c H θ w sl a) : ¬ H.ref H.next := by
  rintro (h | h)
  · omega
  · have := hs.wf _ h; omega
theorem Weak.nilrow {i : Nat} (e : TypeId) {sz : Nat} (hsz : 0 < sz) (hi : sl[i]? = some .nils) : Weak b sl H (sl.set i (.row H.next 0)) ⟨upd H.tab H.next (.row e sz []), H.next + 1⟩ := fun c θ w a hc hs => by
  have hk := hs.fresh
  obtain ⟨hlt, hxi⟩ := List.getElem?_eq_some_iff.1 hi
  have hrow : ownsM w w.heap.size e sz (.slice none 0 0) ([] : List D).length [] := ⟨by simp, .inl ⟨rfl, rfl⟩⟩
  have h := hs.st.sim.add (w' := w) (k := H.next) (x := .row e sz []) (val := .slice none 0 0) hk (fun _ _ => rfl) (Nat.le_refl _) (fun b hb => by simp [blk] at hb)
    (fun hvr => ⟨hsz, by simp, by simp [flat], [], ownsRow_base hrow (Nat.zero_le _), fun b hb => by simp [blk] at hb, fun i hi => by simp [flat] at hi⟩)
  have hst : St c (H.set H.next (.row e sz [])) (updθ θ H.next (.slice none 0 0)) w (sl.set i (.row H.next 0)) a := by
    refine ⟨h.1, hs.st.defers, by simp [hs.st.size], fun j x v hx hv => ?_⟩
    rw [List.getElem?_set] at hx
    by_cases hij : i = j
    · subst hij
      rw [if_pos rfl, if_pos hlt] at hx
      cases hx
      have hv' := hs.st.vals i .nils v hi hv
      cases hv'
      refine .row _ _ _ rfl (.inr (by rw [Heap.get_set, if_pos rfl]; rfl)) (fun x' m' hx' hm' => ?_)
      rw [Heap.get_set, if_pos rfl] at hx'
      cases hx'
      cases hm'
      exact ⟨Nat.le_refl _, fun _ => by simp [updθ]⟩
    · rw [if_neg hij] at hx
      exact h.2.1 x v (hs.st.vals j x v hx hv)
  have hbase := hs.base
  refine ⟨_, ⟨hst.bump (n := H.next + 1) (by simp [Heap.set]), fun p hp => ?_, Nat.le_succ_of_le hbase⟩, (h.2.2.trans (HLe.bump (n := H.next + 1) (by simp [Heap.set]))).evo (by rw [← hc]; exact hbase)⟩
  have hp' : ((H.set H.next (.row e sz [])).get p).isSome := hp
  rw [Heap.get_set] at hp'
  by_cases h : p = H.next
  · subst h; exact Nat.lt_succ_self _
  · rw [if_neg h] at hp'
    have := hs.wf p hp'
    exact Nat.lt_succ_of_lt this
theorem awp_loop_atN {X : Type} {x : Code} {Q : Exit → List AV → Heap → Prop} (S : X → List AV) (T : X → List (Nat × Obj)) (N : X → Nat) (I : X → Prop) (μ : X → Nat) (x0 : X) (hI : I x0) (h0 : Weak c.base sl H (S x0) ⟨T x0, N x0⟩)
    (round : ∀ y, I y → awp P c x (thenA (fun sl' H' => ∃ z, I z ∧ μ z < μ y ∧ Weak c.base sl' H' (S z) ⟨T z, N z⟩) Q) (S y) ⟨T y, N y⟩) : awp P c (.loop x) Q sl H := by
  refine awp_weak h0 ?_
  have key : ∀ n y, I y → μ y = n → ∀ H0 θ0 θ w1 a w, StW c ⟨T y, N y⟩ θ w1 (S y) a → Kept c w w1 → Evo c.base H0 θ0 ⟨T y, N y⟩ θ → ∀ (b : Frame) (k : List Item) (cs : List Frame),
      ∃ e a' w', (∃ sl' H' θ', Q e sl' H' ∧ StW c H' θ' w' sl' a' ∧ Kept c w w' ∧ Evo c.base H0 θ0 H' θ') ∧ Arrives P (lone (b.at a (.code x :: .inLoop x :: k)) cs w1) b k cs e a' w' := by
    intro n
    induction n using Nat.strongRecOn with
    | _ n ih =>
      intro y hIy hn H0 θ0 θ w1 a w hs hk hv b k cs
      obtain ⟨e, a1, w2, hq, harr⟩ := round y hIy θ w1 a hs b (.inLoop x :: k) cs
      obtain ⟨sl', H', θ', q, s, k', v'⟩ := hq
      have kk := hk.trans k'
      have vv := hv.trans v'
      cases e with
      | normal =>
        obtain ⟨z, hIz, hlt, hwk⟩ := q
        obtain ⟨θ2, hs2, e2⟩ := hwk c θ' w2 a1 rfl s
        obtain ⟨e2, a2, w3, hq2, harr2⟩ := ih _ (hn ▸ hlt) z hIz rfl H0 θ0 θ2 w2 a1 w hs2 kk (vv.trans e2) b k cs
        exact ⟨e2, a2, w3, hq2, .of_steps (Steps.trans harr (.one step_inLoop)) harr2⟩
      | exit id => exact ⟨_, a1, w2, ⟨sl', H', θ', q, s, kk, vv⟩, .pass (x := .inLoop x) rfl (fun _ _ => .inl (by simp)) harr⟩
      | goto l => exact ⟨_, a1, w2, ⟨sl', H', θ', q, s, kk, vv⟩, .pass (x := .inLoop x) rfl (fun _ _ => .inl (by simp)) harr⟩
      | ret => exact ⟨_, a1, w2, ⟨sl', H', θ', q, s, kk, vv⟩, .pass (x := .inLoop x) rfl (fun _ _ => .inl (by simp)) harr⟩
      | panic ch => exact ⟨_, a1, w2, ⟨sl', H', θ', q, s, kk, vv⟩, .pass (x := .inLoop x) rfl (fun _ _ => .inl (by simp)) harr⟩
      | outgrown => exact ⟨_, a1, w2, ⟨sl', H', θ', q, s, kk, vv⟩, .pass (x := .inLoop x) rfl (fun _ _ => .inl (by simp)) harr⟩
  intro θ w a hs b k cs
  obtain ⟨e, a', w', hq, harr⟩ := key _ x0 hI rfl ⟨T x0, N x0⟩ θ θ w a w hs (Kept.refl c w) (Evo.refl _ _ _) b k cs
  exact ⟨e, a', w', hq, .of_steps (.one step_loop) harr⟩
theorem awp_loop_at {X : Type} {x : Code} {Q : Exit → List AV → Heap → Prop} (S : X → List AV) (T : X → List (Nat × Obj)) (N : Nat) (I : X → Prop) (μ : X → Nat) (x0 : X) (hI : I x0) (h0 : Weak c.base sl H (S x0) ⟨T x0, N⟩)
    (round : ∀ y, I y → awp P c x (thenA (fun sl' H' => ∃ z, I z ∧ μ z < μ y ∧ Weak c.base sl' H' (S z) ⟨T z, N⟩) Q) (S y) ⟨T y, N⟩) : awp P c (.loop x) Q sl H := awp_loop_atN S T (fun _ => N) I μ x0 hI h0 round
end
def RetL (P : Program) (rs : List ResultVar) (b : Nat) (r : AV) (os : List Obj) (e : Exit) (sl : List AV) (H : Heap) : Prop :=
  Exit.over e = true ∧ ∃ x, resA P rs sl H = some x ∧ Weak b [x] H [r] ⟨enumO 0 os, os.length⟩
theorem loc_of_awp {P : Program} {f : FuncId} {fn : Func} {code : Code} {n : Nat} {rs : List ResultVar} {g : List AV → List Obj → Option (AV × List Obj)} (hf : P.funcs[f]? = some fn) (hname : (fn.name == "runtime.NumGoroutine") = false) (hb : fn.body = some code) (hn : fn.ntmps = n) (hrs : fn.results.toList = rs)
    (h : ∀ xs os r os', g xs os = some (r, os') → os.length ≤ os'.length → ∀ c : Ctx, c.base = os.length → awp P c code (RetL P rs os.length r os') (xs ++ List.replicate (n - xs.length) .junk) ⟨enumO 0 os, os.length⟩) : LocOK P f g := by
  subst hn
  subst hrs
  intro xs os r os' hg hle c θ w vs hbase hsim hz hvs
  refine ⟨⟨fn, hf, hname, by rw [hb]; rfl⟩, ?_⟩
  have hwf : (⟨enumO 0 os, os.length⟩ : Heap).bnd os.length := fun o ho => by
    rw [get_enumO] at ho
    exact (List.getElem?_eq_some_iff.1 (Option.eq_some_of_isSome ho)).1
  have hst : StW c ⟨enumO 0 os, os.length⟩ θ w (xs ++ List.replicate (fn.ntmps - xs.length) .junk) { tmps := vs ++ Array.replicate (fn.ntmps - vs.size) undef, defers := [] } := by
    refine ⟨⟨hsim, rfl, by simp [hz], fun i x v hx hv => ?_⟩, hwf, by rw [hbase]; exact Nat.le_refl _⟩
    by_cases hi : i < xs.length
    · rw [List.getElem?_append_left hi, List.getElem?_eq_getElem hi] at hx
      simp only [Option.some.injEq] at hx
      subst hx
      rw [Array.getElem?_append_left (by omega)] at hv
      exact hvs i hi v hv
    · rw [List.getElem?_append_right (by omega), List.getElem?_replicate] at hx
      split at hx
      · simp only [Option.some.injEq] at hx
        subst hx
        exact .junk v
      · cases hx
  refine calls_of_wp hf hb (Go.wp_mono (h xs os r os' hg hle c hbase θ w _ hst) ?_)
  rintro e a' w' ⟨sl', H', θ', ⟨hov, x, hx, hwk⟩, hst', hk, hev⟩
  obtain ⟨v, hr, hv⟩ := resA_sound hst'.st hx
  obtain ⟨θ2, hs2, e2⟩ := hwk c θ' w' { tmps := #[v], defers := [] } hbase ⟨⟨hst'.st.sim, rfl, rfl, fun i y u hy hu => by
    match i, hy, hu with
    | 0, hy, hu => simp at hy hu; subst hy; subst hu; exact hv
    | i + 1, hy, hu => simp at hy⟩, hst'.wf, hst'.base⟩
  have hR : ∃ θ'', HSim c ⟨enumO 0 os', os'.length⟩ θ'' w' ∧ VR ⟨enumO 0 os', os'.length⟩ θ'' w' (vis c ⟨enumO 0 os', os'.length⟩ θ'' w') r v ∧ Kept c w w' ∧ Evo os.length ⟨enumO 0 os, os.length⟩ θ ⟨enumO 0 os', os'.length⟩ θ'' := by
    refine ⟨θ2, hs2.st.sim, hs2.st.vals 0 r v rfl rfl, hk, ?_⟩
    rw [hbase] at hev
    exact hev.trans e2
  cases e with
  | normal => exact ⟨hst'.st.defers, v, hr, v, rfl, hR⟩
  | ret => exact ⟨hst'.st.defers, v, hr, v, rfl, hR⟩
  | exit id => cases hov
  | goto l => cases hov
  | panic ch => cases hov
  | outgrown => cases hov
end Go.Ab
namespace Go.Ab
open Go Go.RowKit
theorem getD_zero {α : Type} (x : α) (l : List α) (d : α) : (x :: l).getD 0 d = x := rfl
theorem getD_succ {α : Type} (x : α) (l : List α) (n : Nat) (d : α) : (x :: l).getD (n + 1) d = l.getD n d := rfl
theorem getE_zero {α : Type} (x : α) (l : List α) : (x :: l)[0]? = some x := rfl
theorem getE_succ {α : Type} (x : α) (l : List α) (n : Nat) : (x :: l)[n + 1]? = l[n]? := by simp
theorem obind_some {α β : Type} (x : α) (f : α → Option β) : (some x).bind f = f x := rfl
theorem omap_some {α β : Type} (x : α) (f : α → β) : (some x).map f = some (f x) := rfl
theorem omap_none {α β : Type} (f : α → β) : (none : Option α).map f = none := rfl
theorem arr_get {α : Type} (l : List α) (i : Nat) : (l.toArray)[i]? = l[i]? := by simp
@[go_sem] theorem nextK_le {k n : Nat} (tab : List (Nat × Obj)) (h : n ≤ k) : nextK k ⟨tab, n⟩ = k + 1 := by simp [nextK, h]
@[go_sem] theorem nextK_lt {k n : Nat} (tab : List (Nat × Obj)) (h : k < n) : nextK k ⟨tab, n⟩ = n := by simp [nextK, Nat.not_le.2 h]
attribute [go_sem] anil Value.oneCell' runOps runOp wantedA putA astep aev cav cav1 mkAgg allDat AV.dat1 D.one AV.cells D.cells loadD loadA aload takeN astore lay rebuild AV.plain plains afield afieldV aindex acmp scmp abin aun setCells abuild partsD abuildSlice amake boxOf bound cut cut3 cutS asList aslice
  asIndex aconvert aconvertS bytesOf aindexP aindexS tarr keyOK keySame keyFlds aggEq alookup amapUpdate mapOf isShift mapOpt toD AV.closed freeze acall callee calleeN alen srcList srcCells arrish appendD appendA aappend abuildArr partsA partsLoose zeroLoose AV.loose amakeArr arrRep abuiltin
  getAll nodupB idxOf ren rens renO backTo putAll enumO List.foldl_cons List.foldl_nil List.contains_nil List.contains_cons Bool.or_false Bool.false_or Bool.or_true Bool.true_or List.any_cons List.any_nil aextract amakeFunc Heap.get Heap.set Heap.bump look upd
  getD_zero getD_succ getE_zero getE_succ obind_some omap_some omap_none arr_get List.set_cons_zero List.set_cons_succ List.map_cons List.map_nil List.drop_zero List.drop_succ_cons List.drop_nil List.take_zero List.take_succ_cons List.take_nil List.length_cons List.length_nil
  qruns qval qstep calmB CSpec.fits
  Int.natCast_nonneg Int.ofNat_lt Int.toNat_natCast List.getElem?_map List.length_map List.getElem?_eq_getElem List.length_append List.length_replicate
  if_true if_false ite_true ite_false Bool.not_true Bool.not_false Bool.not_not Bool.true_and Bool.and_true Bool.false_and Bool.and_false Option.some_beq_some beq_self_eq_true true_and and_true List.isEmpty_cons List.isEmpty_nil List.all_cons List.all_nil
  List.cons_append List.nil_append List.toList_toArray List.size_toArray resA resOne resAll
theorem map_lit {α β : Type} (f : α → β) (l : List α) : List.map f (List.toArray l).toList = List.map f l := by simp
attribute [go_sem_proc] Nat.reduceAdd Nat.reduceSub Nat.reduceMul Nat.reduceEqDiff Nat.reduceLT Nat.reduceLeDiff reduceCtorEq reduceIte Nat.reduceBEq
def tstruct (P : Program) (t : TypeId) : Option (List (Nat × Nat)) := match P.underlying t with
  | some (.struct fs) => tplaces P fs.toList
  | _ => none
theorem abuild_of {P : Program} {t : TypeId} {z : Value} {cells : List AV} {pl : List (Nat × Nat)} (hz : tzero P t = some z) (hc : (cav z).cells = some cells) (hp : tstruct P t = some pl)
    {parts : List (Nat × AV)} : abuild P t parts = (setCells cells (pl[·]?) parts).map mkAgg := by
  unfold tstruct at hp
  unfold abuild
  split at hp
  · rename_i fs hu
    simp only [hu, hz, hc, hp]
    cases setCells cells (pl[·]?) parts <;> rfl
  · cases hp
section
variable {P : Program} {Γ : FuncId → Option CSpec} {c : Ctx} {sl sl1 sl' : List AV} {tab tab' : List (Nat × Obj)} {n n' m k : Nat} {ops : Array Oper} {Q : Exit → List AV → Heap → Prop} {id : Nat}
theorem awp_reg (hΓ : ∀ f s, Γ f = some s → SpecOK P f s) (h : runOps P Γ false ops n ops.toList sl ⟨tab, n⟩ = some (sl', ⟨tab', m⟩)) (hQ : Q .normal sl' ⟨tab', m⟩) : awp P c (.region id ops false) Q sl ⟨tab, n⟩ := awp_region hΓ h hQ
theorem awp_regN (hΓ : ∀ f s, Γ f = some s → SpecOK P f s) (h : runOps P Γ true ops n ops.toList sl ⟨tab, n⟩ = some (sl', ⟨tab', m⟩)) (hQ : Q .normal sl' ⟨tab', m⟩) : awp P c (.region id ops false) Q sl ⟨tab, n⟩ := awp_region hΓ h hQ
theorem awp_regd {nst : Bool} (n1 : Nat) (hmix : P.follows .mixedOrders = true) (hΓ : ∀ f s, Γ f = some s → SpecOK P f s) (hd : drawOK ops n1 = true) (h1 : qruns P Γ ops ⟨tab, n⟩ (ops.toList.take n1) sl = some sl1)
    (hk : n + n1 = k) (h2 : runOps P Γ nst ops k (ops.toList.drop n1) sl1 ⟨tab, n⟩ = some (sl', ⟨tab', m⟩)) (hQ : Q .normal sl' ⟨tab', m⟩) : awp P c (.region id ops true) Q sl ⟨tab, n⟩ := by
  subst hk
  exact awp_draw n1 hmix hΓ hd h1 h2 hQ
theorem awp_regt {n1 : Nat} (hmix : P.follows .mixedOrders = true) (hΓ : ∀ f s, Γ f = some s → SpecOK P f s) (hs : ops.size = n1 + 1) (hd : drawOK ops n1 = true) (h1 : qruns P Γ ops ⟨tab, n⟩ (ops.toList.take n1) sl = some sl1)
    (hk : n + n1 = k) (h2 : runOps P Γ false ops k (ops.toList.drop n1) sl1 ⟨tab, n⟩ = some (sl', ⟨tab', m⟩)) (hQ : Q .normal sl' ⟨tab', m⟩) : awp P c (.region id ops true) Q sl ⟨tab, n⟩ :=
  awp_regd n1 hmix hΓ hd h1 hk h2 hQ
theorem awp_regf (hmix : P.follows .mixedOrders = true) (hΓ : ∀ f s, Γ f = some s → SpecOK P f s) (hd : drawOK ops ops.size = true) (h1 : qruns P Γ ops ⟨tab, n⟩ ops.toList sl = some sl')
    (hn : n + ops.size = m) (hQ : Q .normal sl' ⟨tab, m⟩) : awp P c (.region id ops true) Q sl ⟨tab, n⟩ := by
  subst hn
  refine awp_draw (nst := false) ops.size hmix hΓ hd (sl1 := sl') ?_ (H' := ⟨tab, n + ops.size⟩) (sl' := sl') ?_ hQ
  · rw [← Array.length_toList, List.take_length]; exact h1
  · rw [← Array.length_toList, List.drop_length]; rfl
end
section
variable {P : Program} {Γ : FuncId → Option CSpec} {c : Ctx} {sl sl1 sl2 sl' : List AV} {tab tab2 tab' : List (Nat × Obj)} {n n2 m k k1 : Nat} {ops : Array Oper} {Q : Exit → List AV → Heap → Prop} {id : Nat} {om : Oper}
theorem same2_cons {H H1 : Heap} {m' i : Nat} {o : Oper} {l : List Oper} {sl : List AV} {x : AV} (h : beforeB ops 8 m' i = true ∨ qval P Γ ops H1 sl o = qval P Γ ops H sl o) (hx : qval P Γ ops H sl o = some x) (hr : same2 P Γ ops H H1 m' (i + 1) l (putA sl o.dst x)) : same2 P Γ ops H H1 m' i (o :: l) sl := by
  refine ⟨h, ?_⟩
  rw [hx]
  exact hr
theorem same2_nil {H H1 : Heap} {m' i : Nat} {sl : List AV} : same2 P Γ ops H H1 m' i [] sl := trivial
theorem awp_regm {nst nst' : Bool} (n0 : Nat) (hmix : P.follows .mixedOrders = true) (hΓ : ∀ f s, Γ f = some s → SpecOK P f s) (hd : drawOK ops (n0 + 1) = true) (h1 : qruns P Γ ops ⟨tab, n⟩ (ops.toList.take n0) sl = some sl1) (hom : ops[n0]? = some om)
    (hk : n + n0 = k) (hk1 : k + 1 = k1) (hm : runOp P Γ nst k ops om sl1 ⟨tab, n⟩ = some (sl2, ⟨tab2, n2⟩)) (hn2 : nextK k ⟨tab2, n2⟩ ≤ k1) (hs : same2 P Γ ops ⟨tab, n⟩ ⟨tab2, k1⟩ n0 0 (ops.toList.take n0) sl)
    (h2 : runOps P Γ nst' ops k1 (ops.toList.drop (n0 + 1)) sl2 ⟨tab2, k1⟩ = some (sl', ⟨tab', m⟩)) (hQ : Q .normal sl' ⟨tab', m⟩) : awp P c (.region id ops true) Q sl ⟨tab, n⟩ := by
  subst hk hk1
  exact awp_mix n0 hmix hΓ hd rfl h1 hom hm hn2 hs h2 hQ
end
noncomputable def encSpec {X Y : Type} (enc : X → List D) (dom : X → Prop) (out : X → Y) (ds : List D) : Option Y :=
  open Classical in if h : ∃ x, enc x = ds ∧ dom x then some (out h.choose) else none
theorem encSpec_eq {X Y : Type} {enc : X → List D} {dom : X → Prop} {out : X → Y} {x : X} (hx : dom x) (inj : ∀ y, enc y = enc x → out y = out x) : encSpec enc dom out (enc x) = some (out x) := by
  have h : ∃ y, enc y = enc x ∧ dom y := ⟨x, rfl, hx⟩
  unfold encSpec
  rw [dif_pos h, inj _ h.choose_spec.1]
theorem encSpec_some {X Y : Type} {enc : X → List D} {dom : X → Prop} {out : X → Y} {ds : List D} {d : Y} (h : encSpec enc dom out ds = some d) : ∃ x, enc x = ds ∧ dom x ∧ out x = d := by
  unfold encSpec at h
  split at h
  · rename_i hh
    exact ⟨hh.choose, hh.choose_spec.1, hh.choose_spec.2, by simpa using h⟩
  · cases h
theorem pure_enc {P : Program} {X : Type} {enc : X → List D} {dom : X → Prop} {out : X → D} {f : FuncId} {fn : Func} {code : Code} {n : Nat} {rs : List ResultVar} {fl : Bool} (hf : P.funcs[f]? = some fn) (hname : (fn.name == "runtime.NumGoroutine") = false)
    (hb : fn.body = some code) (hn : fn.ntmps = n) (hrs : fn.results.toList = rs) (h : ∀ x, dom x → (fl = true → (out x).Flat) ∧ ∀ c : Ctx, c.base = 0 → awp P c code (RetD P rs (out x)) (start n (enc x)) emptyH) : PureOK P f fl (encSpec enc dom out) := by
  refine pure_of_awp hf hname hb hn hrs fun ds d hd => ?_
  obtain ⟨x, rfl, hx, rfl⟩ := encSpec_some hd
  exact h x hx
theorem own_enc {P : Program} {X : Type} {enc : X → List D} {dom : X → Prop} {out : X → TypeId × Nat × List D} {f : FuncId} {fn : Func} {code : Code} {n : Nat} {rs : List ResultVar} (hf : P.funcs[f]? = some fn) (hname : (fn.name == "runtime.NumGoroutine") = false)
    (hb : fn.body = some code) (hn : fn.ntmps = n) (hrs : fn.results.toList = rs) (h : ∀ x, dom x → (0 < (out x).2.1 ∧ elemsOK (out x).2.1 (out x).2.2 = true) ∧ ∀ c : Ctx, c.base = 0 → awp P c code (RetO P rs (out x).1 (out x).2.1 (out x).2.2) (start n (enc x)) emptyH) : OwnOK P f (encSpec enc dom out) := by
  refine own_of_awp hf hname hb hn hrs fun ds e sz l hd => ?_
  obtain ⟨x, rfl, hx, hxo⟩ := encSpec_some hd
  have := h x hx
  rw [hxo] at this
  exact this
@[go_sem] theorem elemsOK_nil (sz : Nat) : elemsOK sz [] = true := rfl
@[go_sem] theorem elemsOK_cons (sz : Nat) (d : D) (l : List D) : elemsOK sz (d :: l) = (((d.cells.length == sz) && d.cells.all D.one) && elemsOK sz l) := rfl
@[go_sem] theorem beq_t (b : Bool) : (b == true) = b := by cases b <;> rfl
@[go_sem] theorem beq_f (b : Bool) : (b == false) = !b := by cases b <;> rfl
@[go_sem] theorem toD_data (H : Heap) (m : Nat) (d : D) : toD H m (.data d) = some d := by cases m <;> simp [toD]
@[go_sem] theorem mapOpt_data (H : Heap) (m : Nat) : ∀ l : List D, mapOpt (toD H m) (l.map .data) = some l
  | [] => rfl
  | d :: l => by simp only [List.map_cons, mapOpt, toD_data, mapOpt_data H m l]
theorem wrap_in {n : Int} (h : -9223372036854775808 ≤ n) (h' : n < 9223372036854775808) : IntKind.wrap .i64 n = n := by rw [IntKind.wrap_i64]; omega
end Go.Ab
