/-
  One text of the proof (own work): contracts of functions of the program, by the abstract machine.
-/
import Derived.Test.YtabenhkajabaeaaDoorX17
set_option linter.unusedVariables false
set_option linter.unusedSimpArgs false
namespace Go.Ab
open Go Go.RowKit
def beforeB (ops : Array Oper) : Nat → Nat → Nat → Bool
  | 0, _, _ => false
  | n + 1, m, i => match ops[m]? with
    | some o => o.after.toList.any fun e => Region.binds .any e && (e.on == i || beforeB ops n e.on i)
    | none => false
def same2 (P : Program) (Γ : FuncId → Option CSpec) (ops : Array Oper) (H H1 : Heap) (m : Nat) : Nat → List Oper → List AV → Prop
  | _, [], _ => True
  | i, o :: l, sl => (beforeB ops 8 m i = true ∨ qval P Γ ops H1 sl o = qval P Γ ops H sl o) ∧ match qval P Γ ops H sl o with
    | some x => same2 P Γ ops H H1 m (i + 1) l (putA sl o.dst x)
    | none => True
section
variable {P : Program} {Γ : FuncId → Option CSpec} {c : Ctx} {H H' : Heap} {θ θ' : Nat → Value} {w w' : World} {sl : List AV} {a : Act} {o : Oper} {r : AV}
theorem before_listed {ops : Array Oper} {listed : Array Bool} (hcl : ∀ i o, ops[i]? = some o → listed.getD i false = true → ∀ e ∈ o.after, Region.binds .any e = true → listed.getD e.on false = true) :
    ∀ n m i, beforeB ops n m i = true → listed.getD m false = true → listed.getD i false = true
  | 0, m, i, h, _ => by simp [beforeB] at h
  | n + 1, m, i, h, hl => by
    unfold beforeB at h
    split at h
    · rename_i o ho
      simp only [List.any_eq_true, Bool.and_eq_true, Bool.or_eq_true, beq_iff_eq] at h
      obtain ⟨e, he, hb, h⟩ := h
      have h1 := hcl m o ho hl e (by simpa using he) hb
      rcases h with rfl | h
      · exact h1
      · exact before_listed hcl n e.on i h h1
    · cases h
theorem astep_congr {nst : Bool} {k : Nat} {sl sl' : List AV} {op : Op} (h : ∀ x ∈ op.operands, aev sl x = aev sl' x) : astep P Γ nst k sl H op = astep P Γ nst k sl' H op := by
  have pairs : ∀ ps : Array (Nat × Operand), (∀ x ∈ ps.map (·.2), aev sl x = aev sl' x) →
      (ps.toList.map fun (i, x) => (i, aev sl x)) = (ps.toList.map fun (i, x) => (i, aev sl' x)) := fun ps hp =>
    List.map_congr_left fun p hm => by
      obtain ⟨i, x⟩ := p
      simp only [hp x (Array.mem_map.2 ⟨(i, x), by simpa using hm, rfl⟩)]
  cases op <;> simp only [Op.operands] at h <;> simp only [astep]
  case build t ps => rw [pairs ps fun x hx => h x (by simpa using hx)]
  case buildSlice t n ps => rw [pairs ps fun x hx => h x (by simpa using hx)]
  case call c =>
    have hargs : c.args.toList.map (aev sl) = c.args.toList.map (aev sl') := by
      refine List.map_congr_left fun x hx => h x ?_
      have h2 : x ∈ c.args := by simpa using hx
      simp [Call.operands, h2]
    simp only [hargs]
    cases hc : c.callee with
    | value f => have hf : aev sl f = aev sl' f := h f (by simp [Call.operands, hc]); simp only [hf]
    | invoke r m => rfl
    | builtin b => rfl
  case makeFunc fn first caps =>
    unfold amakeFunc
    have h1 : first.toList.map (aev sl) = first.toList.map (aev sl') := List.map_congr_left fun x hx => h x (by simp at hx ⊢; exact .inl hx)
    have h2 : caps.toList.map (aev sl) = caps.toList.map (aev sl') := List.map_congr_left fun x hx => h x (by simp at hx ⊢; exact .inr hx)
    cases hfl : first.toList with
    | nil => cases fn <;> first | rfl | (dsimp only; rw [h2])
    | cons x r => rw [hfl] at h1; cases fn <;> first | rfl | (dsimp only; rw [h1])
  case makeMap t r => cases r <;> rfl
  case slice t x lo hi mx => cases lo <;> cases hi <;> cases mx <;> simp_all
  all_goals (first | rfl | (simp_all; done))
theorem runOp_congr {nst : Bool} {k : Nat} {ops : Array Oper} {sl sl' : List AV} (h : ∀ t ∈ o.looksAt ops, sl.getD t .junk = sl'.getD t .junk) (hlen : sl.length = sl'.length) {s2 : List AV} {H2 : Heap} (h1 : runOp P Γ nst k ops o sl' H = some (s2, H2)) :
    ∃ x, s2 = putA sl' o.dst x ∧ runOp P Γ nst k ops o sl H = some (putA sl o.dst x, H2) := by
  have hw : wantedA ops sl o = wantedA ops sl' o := by
    unfold wantedA
    cases hg : o.guard with
    | none => rfl
    | some gw =>
      obtain ⟨g, want⟩ := gw
      dsimp only
      cases ht : (ops[g]?).bind (·.dst) with
      | none => rfl
      | some t =>
        have := h t (by simp [Oper.looksAt, hg, ht])
        simp only [this]
  have hq : astep P Γ nst k sl H o.op = astep P Γ nst k sl' H o.op := astep_congr fun x hx => by
    cases x with
    | tmp t => exact h t (List.mem_append_left _ (List.mem_filterMap.2 ⟨.tmp t, by simpa using hx, rfl⟩))
    | _ => rfl
  unfold runOp at h1 ⊢
  rw [hw, hq]
  split at h1
  · split at h1
    · rename_i r H' hst
      simp only [Option.some.injEq, Prod.mk.injEq] at h1
      obtain ⟨rfl, rfl⟩ := h1
      exact ⟨r, rfl, rfl⟩
    · cases h1
  · simp only [Option.some.injEq, Prod.mk.injEq] at h1
    obtain ⟨rfl, rfl⟩ := h1
    exact ⟨_, rfl, rfl⟩
  · cases h1
variable {ops : Array Oper} {n0 : Nat} {L : Nat → List AV}
theorem draw_mix {nst : Bool} {k k1 : Nat} {H1 H2 : Heap} {om : Oper} (hΓ : ∀ f s, Γ f = some s → SpecOK P f s) (hd : drawOK ops (n0 + 1) = true)
    (hL : ∀ i o, i < n0 → ops[i]? = some o → ∃ x, qval P Γ ops H (L i) o = some x ∧ L (i + 1) = putA (L i) o.dst x ∧ (beforeB ops 8 n0 i = true ∨ qval P Γ ops H1 (L i) o = some x))
    (hom : ops[n0]? = some om) (hLm : runOp P Γ nst k ops om (L n0) H = some (L (n0 + 1), H2)) (hH1 : H1 = H2.bump k1) (hk1 : nextK k H2 ≤ k1) (hk : H.next ≤ k)
    {Q : Exit → Act → World → Prop} : ∀ (n : Nat) (todo : List Nat) (listed : Array Bool) (cur : List AV) (Hc : Heap) (θ : Nat → Value) (w : World) (a : Act), todo.length = n → todo.Nodup → (∀ i, i ∈ todo ↔ i < n0 + 1 ∧ listed.getD i false = false) →
    Mid ops (n0 + 1) L listed cur → (Hc = if listed.getD n0 false then H1 else H) → Hc.bnd Hc.next → St c Hc θ w cur a →
    (∀ listed' θ' w' a', (∀ i, i < ops.size → listed'.getD i true = decide (i < n0 + 1)) → listed'.size = ops.size → St c H1 θ' w' (L (n0 + 1)) a' → H1.bnd H1.next → Kept c w w' → HLe Hc θ H1 θ' → wpAny P .any ops Q (ops.size - (n0 + 1)) listed' a' w') →
    wpAny P .any ops Q (todo.length + (ops.size - (n0 + 1))) listed a w := by
  obtain ⟨hn1, hspec⟩ := drawOK_spec hd
  have hLx : Lex ops (n0 + 1) L := fun i o h1 h2 => by
    by_cases hi : i < n0
    · obtain ⟨x, _, h, _⟩ := hL i o hi h2; exact ⟨x, h⟩
    · obtain rfl : i = n0 := by omega
      rw [hom] at h2
      cases h2
      obtain ⟨x, h3, _⟩ := runOp_congr (sl := L i) (fun t _ => rfl) rfl hLm
      exact ⟨x, h3⟩
  intro n
  induction n with
  | zero =>
    intro todo listed cur Hc θ w a hlen hnd htodo hm hc hbd hs hK
    have hnil : todo = [] := List.eq_nil_of_length_eq_zero hlen
    subst hnil
    have hall : ∀ i, i < n0 + 1 → listed.getD i false = true := fun i hi => by
      cases hb : listed.getD i false
      · exact absurd ((htodo i).2 ⟨hi, hb⟩) (by simp)
      · rfl
    rw [hall n0 (by omega), if_pos rfl] at hc
    subst hc
    rw [List.length_nil, Nat.zero_add]
    refine hK listed θ w a (fun i hi => ?_) hm.size ?_ hbd (Kept.refl c w) (HLe.refl _ _)
    · rw [getD_sz (by rw [hm.size]; exact hi) true false]
      by_cases h1 : i < n0 + 1
      · rw [hall i h1]; simp [h1]
      · cases hb : listed.getD i false
        · simp [h1]
        · exact absurd (hm.below i hb) h1
    · rw [← hm.done hd hLx hall]; exact hs
  | succ n ih =>
    intro todo listed cur Hc θ w a hlen hnd htodo hm hc hbd hs hK
    rw [hlen, show n + 1 + (ops.size - (n0 + 1)) = n + (ops.size - (n0 + 1)) + 1 from by omega]
    have hex : ∀ j, j ∈ todo → Region.ready .any ops listed ≠ [] := by
      intro j
      induction j using Nat.strongRecOn with
      | _ j ihj =>
        intro hj
        obtain ⟨hj1, hun⟩ := (htodo j).1 hj
        obtain ⟨oj, hoj⟩ : ∃ o, ops[j]? = some o := ⟨_, Array.getElem?_eq_getElem (by omega)⟩
        by_cases hall : ∀ e ∈ oj.after, Region.binds .any e = true → listed.getD e.on false = true
        · intro hnil
          have : j ∈ Region.ready .any ops listed := by
            rw [mem_ready]
            exact ⟨by rw [getD_sz (by rw [hm.size]; omega) true false]; exact hun, oj, hoj, hall⟩
          rw [hnil] at this
          simp at this
        · simp only [Classical.not_forall] at hall
          obtain ⟨e, he, hb, hne⟩ := hall
          have h3 := (hspec j oj hoj).1 e he hb
          exact ihj e.on h3 ((htodo e.on).2 ⟨by omega, by simpa using hne⟩)
    refine ⟨fun hr => ?_, fun j hj => ?_⟩
    · cases todo with
      | nil => simp at hlen
      | cons j r => exact absurd hr (hex j (by simp))
    rw [mem_ready] at hj
    obtain ⟨h0, oj, hoj, hr⟩ := hj
    have hlt : j < ops.size := (Array.getElem?_eq_some_iff.1 hoj).1
    have hun : listed.getD j false = false := by rw [getD_sz (by rw [hm.size]; exact hlt) false true]; exact h0
    have hj1 : j < n0 + 1 := by
      rcases Nat.lt_or_ge j (n0 + 1) with h1 | h1
      · exact h1
      · exfalso
        cases todo with
        | nil => simp at hlen
        | cons i r =>
          obtain ⟨hi1, hiu⟩ := (htodo i).1 (by simp)
          obtain ⟨oi, hoi⟩ : ∃ o, ops[i]? = some o := ⟨_, Array.getElem?_eq_getElem (by omega)⟩
          rcases (hspec j oj hoj).2 i oi hoi (by omega) with ⟨e, he, hb, hon⟩ | ⟨h4, _⟩
          · have := hr e he hb
            rw [hon] at this
            rw [this] at hiu; cases hiu
          · omega
    have hlook : ∀ t ∈ oj.looksAt ops, cur.getD t .junk = (L j).getD t .junk := fun t ht => hm.look hd hLx hoj hj1 hun hr ht
    have hmem : j ∈ todo := (htodo j).2 ⟨hj1, hun⟩
    have hlen' : (todo.erase j).length = n := by rw [List.length_erase_of_mem hmem, hlen]; rfl
    have htodo' : ∀ i, i ∈ todo.erase j ↔ i < n0 + 1 ∧ (listed.setIfInBounds j true).getD i false = false := fun i => by
      rw [hnd.mem_erase_iff, htodo i, listed_set (by rw [hm.size]; exact hlt)]
      by_cases hij : i = j
      · subst hij; simp
      · simp [hij]
    by_cases hjn : j = n0
    · subst hjn
      rw [hom] at hoj
      cases hoj
      rw [hun] at hc
      simp only [Bool.false_eq_true, if_false] at hc
      subst hc
      obtain ⟨x, hx1, hx2⟩ := runOp_congr hlook (hm.len j (by omega)).symm hLm
      refine op_any hΓ hom hx2 hs (fun o ho => Nat.lt_of_lt_of_le (hbd o ho) hk) hk fun a' w' θ' hs' hkey hk' hl' => ?_
      have hn2 : H2.next ≤ k1 := Nat.le_trans (nextK_ge _ _) hk1
      have hs2 : St c H1 θ' w' (putA cur om.dst x) a' := by rw [hH1]; exact hs'.bump hn2
      have hl2 : HLe Hc θ H1 θ' := by rw [hH1]; exact hl'.trans (HLe.bump hn2)
      have hbd2 : H1.bnd H1.next := by
        rw [hH1]
        exact fun o ho => Nat.lt_of_lt_of_le (hkey.2 o ho) hk1
      have := ih (todo.erase j) (listed.setIfInBounds j true) (putA cur om.dst x) H1 θ' w' a' hlen' (hnd.erase j) htodo' (hm.next hd hLx hom hj1 hun hr hx1)
        (by rw [listed_set (by rw [hm.size]; exact hlt)]; simp) hbd2 hs2 fun l2 θ2 w2 a2 h1 h2 h3 h4 h5 h6 => hK l2 θ2 w2 a2 h1 h2 h3 h4 (hk'.trans h5) (hl2.trans h6)
      rw [hlen'] at this
      exact this
    · obtain ⟨x, hx, hLj, hor⟩ := hL j oj (by omega) hoj
      have hq0 : qval P Γ ops Hc (L j) oj = some x := by
        rw [hc]
        split
        · rename_i hl
          rcases hor with h | h
          · have := before_listed hm.closed _ _ _ h hl
            rw [this] at hun; cases hun
          · exact h
        · exact hx
      have hq : qval P Γ ops Hc cur oj = some x := by rw [← hq0]; exact qval_congr hlook
      refine op_quiet hΓ hoj hq hs hbd fun a' w' θ' hs' hk' hl' => ?_
      have := ih (todo.erase j) (listed.setIfInBounds j true) (putA cur oj.dst x) Hc θ' w' a' hlen' (hnd.erase j) htodo' (hm.next hd hLx hoj hj1 hun hr hLj)
        (by rw [listed_set (by rw [hm.size]; exact hlt)]; simp [Ne.symm hjn, hc]) hbd hs' fun l2 θ2 w2 a2 h1 h2 h3 h4 h5 h6 => hK l2 θ2 w2 a2 h1 h2 h3 h4 (hk'.trans h5) (hl'.trans h6)
      rw [hlen'] at this
      exact this
theorem same2_at {H1 : Heap} {m : Nat} (hLe : ∀ i o, i < n0 → ops[i]? = some o → ∃ x, qval P Γ ops H (L i) o = some x ∧ L (i + 1) = putA (L i) o.dst x) (h : same2 P Γ ops H H1 m 0 (ops.toList.take n0) (L 0)) (hn : n0 ≤ ops.size) :
    ∀ i, i ≤ n0 → same2 P Γ ops H H1 m i ((ops.toList.take n0).drop i) (L i)
  | 0, _ => h
  | i + 1, hi => by
    have ih := same2_at hLe h hn i (by omega)
    obtain ⟨o, ho⟩ : ∃ o, ops[i]? = some o := ⟨_, Array.getElem?_eq_getElem (by omega)⟩
    have hd : (ops.toList.take n0).drop i = o :: (ops.toList.take n0).drop (i + 1) := by
      have hl : i < (ops.toList.take n0).length := by simp; omega
      rw [List.drop_eq_getElem_cons hl]
      congr 1
      have h2 : (ops.toList.take n0)[i]? = some o := by
        rw [List.getElem?_take_of_lt (by omega)]
        simpa using ho
      rw [List.getElem?_eq_getElem hl] at h2
      exact Option.some.inj h2
    rw [hd] at ih
    obtain ⟨x, hx, hLx⟩ := hLe i o (by omega) ho
    simp only [same2, hx] at ih
    rw [hLx]
    exact ih.2
theorem awp_mix {id : Nat} {nst nst' : Bool} {Q : Exit → List AV → Heap → Prop} (n0 : Nat) (hmix : P.follows .mixedOrders = true) (hΓ : ∀ f s, Γ f = some s → SpecOK P f s) (hd : drawOK ops (n0 + 1) = true) {sl1 sl2 sl' : List AV} {H2 H' : Heap} {om : Oper} {k1 : Nat} (hk1 : H.next + n0 + 1 = k1)
    (h1 : qruns P Γ ops H (ops.toList.take n0) sl = some sl1) (hom : ops[n0]? = some om) (hm : runOp P Γ nst (H.next + n0) ops om sl1 H = some (sl2, H2)) (hn2 : nextK (H.next + n0) H2 ≤ k1)
    (hsame : same2 P Γ ops H (H2.bump k1) n0 0 (ops.toList.take n0) sl)
    (h2 : runOps P Γ nst' ops k1 (ops.toList.drop (n0 + 1)) sl2 (H2.bump k1) = some (sl', H')) (hQ : Q .normal sl' H') : awp P c (.region id ops true) Q sl H := by
  intro θ w a hs
  subst hk1
  obtain ⟨hn1, hspec⟩ := drawOK_spec hd
  obtain ⟨L0, hL0, hL1, hL⟩ := lex_states (n1 := n0) (by omega) h1
  let L : Nat → List AV := fun i => if i ≤ n0 then L0 i else sl2
  have hLle : ∀ i, i ≤ n0 → L i = L0 i := fun i hi => by simp only [L, if_pos hi]
  have hLn : L (n0 + 1) = sl2 := by simp only [L]; rw [if_neg (by omega)]
  have hLq : ∀ i o, i < n0 → ops[i]? = some o → ∃ x, qval P Γ ops H (L i) o = some x ∧ L (i + 1) = putA (L i) o.dst x := fun i o hi ho => by
    rw [hLle i (by omega), hLle (i + 1) (by omega)]
    exact hL i o hi ho
  have hsm := same2_at (L := L) hLq (by rw [hLle 0 (by omega), hL0]; exact hsame) (by omega)
  have hLm : runOp P Γ nst (H.next + n0) ops om (L n0) H = some (L (n0 + 1), H2) := by rw [hLle n0 (by omega), hLn, hL1]; exact hm
  have hlenL : ∀ i, i ≤ n0 + 1 → (L i).length = sl.length := by
    intro i
    induction i with
    | zero => intro _; rw [hLle 0 (by omega), hL0]
    | succ i ih =>
      intro hi
      by_cases hin : i < n0
      · obtain ⟨o, ho⟩ : ∃ o, ops[i]? = some o := ⟨_, Array.getElem?_eq_getElem (by omega)⟩
        obtain ⟨x, _, hx⟩ := hLq i o (by omega) ho
        rw [hx, putA_length]
        exact ih (by omega)
      · obtain rfl : i = n0 := by omega
        obtain ⟨x, h3, _⟩ := runOp_congr (sl := L i) (fun t _ => rfl) rfl hLm
        rw [h3, putA_length]
        exact ih (by omega)
  have hno : ∀ i, (Array.replicate ops.size false).getD i false = false := fun i => by
    simp only [Array.getD_eq_getD_getElem?, Array.getElem?_replicate]
    split <;> rfl
  refine wp_region_any hmix ?_
  have key := draw_mix (c := c) (k := H.next + n0) (k1 := H.next + n0 + 1) (L := L) hΓ hd (fun i o hi ho => by
      obtain ⟨x, hx, hx2⟩ := hLq i o hi ho
      refine ⟨x, hx, hx2, ?_⟩
      have h3 := hsm i (by omega)
      have hdr : (ops.toList.take n0).drop i = o :: (ops.toList.take n0).drop (i + 1) := by
        have hl : i < (ops.toList.take n0).length := by simp; omega
        rw [List.drop_eq_getElem_cons hl]
        congr 1
        have h2 : (ops.toList.take n0)[i]? = some o := by
          rw [List.getElem?_take_of_lt (by omega)]
          simpa using ho
        rw [List.getElem?_eq_getElem hl] at h2
        exact Option.some.inj h2
      rw [hdr] at h3
      simp only [same2] at h3
      rcases h3.1 with h4 | h4
      · exact .inl h4
      · exact .inr (by rw [h4]; exact hx)) hom hLm rfl hn2 (by omega) (Q := fun e a' w' => ∃ sl' H' θ', Q e sl' H' ∧ StW c H' θ' w' sl' a' ∧ Kept c w w' ∧ Evo c.base H θ H' θ') (n0 + 1) (List.range (n0 + 1)) (Array.replicate ops.size false) sl H θ { w with drawn := w.drawn + 1 } a (by simp) List.nodup_range
    (fun i => by rw [hno]; simp) ⟨by simp, fun i o _ h => (by rw [hno] at h; cases h), fun i h => (by rw [hno] at h; cases h), hlenL, fun t => ⟨0, Nat.zero_le _, fun i o _ _ _ => (by rw [hno]; simp), by rw [hLle 0 (by omega), hL0]⟩⟩
    (by rw [hno]; simp) hs.wf (hs.st.drawn _) fun listed' θ' w' a' hli hsz hs' hbd' hk' hl' => ?_
  · rw [List.length_range, Nat.add_sub_cancel' hn1] at key
    exact key
  · refine draw_tail hΓ hd (ops.toList.drop (n0 + 1)) (n0 + 1) (H.next + n0 + 1) listed' (L (n0 + 1)) (H2.bump (H.next + n0 + 1)) θ' w' a' sl' H' (Nat.le_refl _) rfl hli hsz hn1 (by rw [hLn]; exact h2) hs' hbd' (Nat.le_refl _) fun a2 w2 θ2 hs2 hb2 hn2 hk2 hl2 => ?_
    have hkk : Kept c w w2 := by
      have h3 := hk'.trans hk2
      exact ⟨h3.os, h3.tape, h3.output, h3.size, h3.block⟩
    exact ⟨sl', _, θ2, hQ, ⟨hs2, hb2, by have := hs.base; omega⟩, hkk, (hl'.trans hl2).evo hs.base⟩
end
end Go.Ab
