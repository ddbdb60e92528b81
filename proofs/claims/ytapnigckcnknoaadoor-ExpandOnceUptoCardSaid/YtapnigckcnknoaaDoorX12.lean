/-
  One text of the proof (own work): contracts of functions of the program, by the abstract machine.
-/
import Derived.Test.YtapnigckcnknoaaDoorX11
set_option linter.unusedVariables false
set_option linter.unusedSimpArgs false
namespace Go.Ab
open Go Go.RowKit
section
variable {P : Program} {Γ : FuncId → Option CSpec} {c : Ctx} {H H' : Heap} {θ θ' : Nat → Value} {w w' : World} {sl : List AV} {a : Act} {o : Oper} {r : AV}
def Lane3 (P : Program) (Γ : FuncId → Option CSpec) (nst : Bool) (ops : Array Oper) (n : Nat) : Nat → List Oper → List Bool → List AV → Heap → List Nat → List AV → Heap → List (List Nat × Heap) → List (Nat × List AV × Oper × AV) → Prop
  | _, [], _, sl, Hc, _, sl1, H1, hs, qs => sl = sl1 ∧ Hc = H1 ∧ hs = [] ∧ qs = []
  | i, o :: l, true :: bs, sl, Hc, ms, sl1, H1, hs, qs => ∃ sl' H2 hs', runOp P Γ nst (n + i) ops o sl Hc = some (sl', H2) ∧ nextK (n + i) H2 ≤ n + i + 1 ∧ hs = (i :: ms, H2.bump (n + i + 1)) :: hs' ∧ Lane3 P Γ nst ops n (i + 1) l bs sl' (H2.bump (n + i + 1)) (i :: ms) sl1 H1 hs' qs
  | i, o :: l, false :: bs, sl, Hc, ms, sl1, H1, hs, qs => ∃ x qs', qs = (i, sl, o, x) :: qs' ∧ Lane3 P Γ nst ops n (i + 1) l bs (putA sl o.dst x) Hc ms sl1 H1 hs qs'
  | _, _ :: _, [], _, _, _, _, _, _, _ => False
def LStep3 (P : Program) (Γ : FuncId → Option CSpec) (nst : Bool) (ops : Array Oper) (n : Nat) (qs : List (Nat × List AV × Oper × AV)) (j : Nat) (o : Oper) (b : Bool) (sl sl' : List AV) (Hc H1 : Heap) : Prop :=
  (b = true ∧ ∃ H2, runOp P Γ nst (n + j) ops o sl Hc = some (sl', H2) ∧ nextK (n + j) H2 ≤ n + j + 1 ∧ H1 = H2.bump (n + j + 1)) ∨ (b = false ∧ H1 = Hc ∧ ∃ x, (j, sl, o, x) ∈ qs ∧ sl' = putA sl o.dst x)
theorem lane_states3 {nst : Bool} {ops : Array Oper} {n : Nat} {sl1 : List AV} {H1 : Heap} : ∀ (l : List Oper) (i : Nat) (bs : List Bool) (sl : List AV) (Hc : Heap) (ms : List Nat) (hs : List (List Nat × Heap)) (qs : List (Nat × List AV × Oper × AV)), Lane3 P Γ nst ops n i l bs sl Hc ms sl1 H1 hs qs →
    ∃ (L : Nat → List AV) (Hs : Nat → Heap) (Ms : Nat → List Nat), L i = sl ∧ Hs i = Hc ∧ L (i + l.length) = sl1 ∧ Hs (i + l.length) = H1 ∧ (∀ j, j ≤ l.length → (Ms (i + j), Hs (i + j)) ∈ (ms, Hc) :: hs ∧ ∀ m ∈ Ms (i + j), m ∈ ms ∨ ∃ k, k < j ∧ m = i + k ∧ bs.getD k false = true) ∧ ∀ j o, l[j]? = some o → LStep3 P Γ nst ops n qs (i + j) o (bs.getD j false) (L (i + j)) (L (i + j + 1)) (Hs (i + j)) (Hs (i + j + 1))
  | [], i, bs, sl, Hc, ms, hs, qs, h => by
    simp only [Lane3] at h
    obtain ⟨rfl, rfl, rfl, rfl⟩ := h
    exact ⟨fun _ => sl, fun _ => Hc, fun _ => ms, rfl, rfl, rfl, rfl, fun j _ => ⟨by simp, fun m hm => .inl hm⟩, fun j o h => by simp at h⟩
  | o :: l, i, [], sl, Hc, ms, hs, qs, h => by simp only [Lane3] at h
  | o :: l, i, b :: bs, sl, Hc, ms, hs, qs, h => by
    have key : ∃ sl2 H2 ms' hs' qs', Lane3 P Γ nst ops n (i + 1) l bs sl2 H2 ms' sl1 H1 hs' qs' ∧ LStep3 P Γ nst ops n qs i o b sl sl2 Hc H2 ∧ (∀ q ∈ qs', q ∈ qs) ∧ (∀ x ∈ (ms', H2) :: hs', x ∈ (ms, Hc) :: hs) ∧ (∀ m ∈ ms', m ∈ ms ∨ (m = i ∧ b = true)) := by
      cases b with
      | true =>
        simp only [Lane3] at h
        obtain ⟨sl', H2, hs', h1, h2, h3, h4⟩ := h
        exact ⟨sl', _, _, hs', qs, h4, .inl ⟨rfl, H2, h1, h2, rfl⟩, fun q h => h, fun x hx => by rw [h3]; exact List.mem_cons_of_mem _ hx, fun m hm => by
          rcases List.mem_cons.1 hm with rfl | hm
          · exact .inr ⟨rfl, rfl⟩
          · exact .inl hm⟩
      | false =>
        simp only [Lane3] at h
        obtain ⟨x, qs', h1, h2⟩ := h
        exact ⟨_, _, _, hs, qs', h2, .inr ⟨rfl, rfl, x, by rw [h1]; exact List.mem_cons_self, rfl⟩, fun q hq => by rw [h1]; exact List.mem_cons_of_mem _ hq, fun x hx => hx, fun m hm => .inl hm⟩
    obtain ⟨sl2, H2, ms', hs', qs', hl, hst, hqs, hhs, hms⟩ := key
    obtain ⟨L, Hs, Ms, e1, e2, e3, e4, e6, e5⟩ := lane_states3 l (i + 1) bs sl2 H2 ms' hs' qs' hl
    have up : ∀ j o b sl sl' Hc H1, LStep3 P Γ nst ops n qs' j o b sl sl' Hc H1 → LStep3 P Γ nst ops n qs j o b sl sl' Hc H1 := by
      rintro j o b sl sl' Hc H1 (h | ⟨h1, h2, x, h3, h4⟩)
      · exact .inl h
      · exact .inr ⟨h1, h2, x, hqs _ h3, h4⟩
    refine ⟨fun j => if j = i then sl else L j, fun j => if j = i then Hc else Hs j, fun j => if j = i then ms else Ms j, by simp, by simp, ?_, ?_, fun j hj => ?_, fun j o' ho => ?_⟩
    · simp only [List.length_cons]
      rw [if_neg (by omega), ← e3]
      congr 1
      omega
    · simp only [List.length_cons]
      rw [if_neg (by omega), ← e4]
      congr 1
      omega
    · cases j with
      | zero => simp only [Nat.add_zero, if_true]; exact ⟨List.mem_cons_self, fun m hm => .inl hm⟩
      | succ j =>
        dsimp only
        rw [if_neg (by omega), if_neg (by omega), show i + (j + 1) = i + 1 + j from by omega]
        obtain ⟨h1, h2⟩ := e6 j (by simpa using hj)
        refine ⟨hhs _ h1, fun m hm => ?_⟩
        rcases h2 m hm with h3 | ⟨k, h3, h4, h5⟩
        · rcases hms m h3 with h4 | ⟨h4, h5⟩
          · exact .inl h4
          · exact .inr ⟨0, by omega, by omega, by simpa using h5⟩
        · exact .inr ⟨k + 1, by omega, by omega, by simpa using h5⟩
    · cases j with
      | zero =>
        simp only [List.getElem?_cons_zero, Option.some.injEq] at ho
        subst ho
        simp only [Nat.add_zero, List.getD_cons_zero, if_true]
        rw [if_neg (by omega), if_neg (by omega), e1, e2]
        exact hst
      | succ j =>
        simp only [List.getElem?_cons_succ] at ho
        have h5 := up _ _ _ _ _ _ _ (e5 j o' ho)
        dsimp only
        rw [if_neg (show ¬ i + (j + 1) = i by omega), if_neg (show ¬ i + (j + 1) + 1 = i by omega), if_neg (show ¬ i + (j + 1) = i by omega), if_neg (show ¬ i + (j + 1) + 1 = i by omega)]
        simp only [List.getD_cons_succ]
        rw [show i + (j + 1) = i + 1 + j from by omega]
        exact h5
variable {ops : Array Oper} {n1 : Nat} {L : Nat → List AV} {Hs : Nat → Heap}
theorem draw_lane3 {nst : Bool} {n : Nat} {qs : List (Nat × List AV × Oper × AV)} {bs : List Bool} (hΓ : ∀ f s, Γ f = some s → SpecOK P f s) (hd : drawOK ops n1 = true) (ho : laneOrd ops n1 bs = true)
    (hL : ∀ i o, i < n1 → ops[i]? = some o → LStep3 P Γ nst ops n qs i o (bs.getD i false) (L i) (L (i + 1)) (Hs i) (Hs (i + 1)))
    (hkeep : ∀ i, i ≤ n1 → ∀ q ∈ qs, (∃ m, m < i ∧ m < n1 ∧ bs.getD m false = true ∧ beforeB ops 8 m q.1 = true) ∨ qval P Γ ops (Hs i) q.2.1 q.2.2.1 = some q.2.2.2) (hnext : ∀ i, i ≤ n1 → (Hs i).next ≤ n + i)
    {Q : Exit → Act → World → Prop} : ∀ (m : Nat) (todo : List Nat) (listed : Array Bool) (cur : List AV) (p : Nat) (θ : Nat → Value) (w : World) (a : Act), todo.length = m → todo.Nodup → (∀ i, i ∈ todo ↔ i < n1 ∧ listed.getD i false = false) →
    Mid ops n1 L listed cur → p ≤ n1 → (∀ i, i < n1 → bs.getD i false = true → (listed.getD i false = true ↔ i < p)) → (Hs p).bnd (Hs p).next → St c (Hs p) θ w cur a →
    (∀ listed' θ' w' a', (∀ i, i < ops.size → listed'.getD i true = decide (i < n1)) → listed'.size = ops.size → St c (Hs n1) θ' w' (L n1) a' → (Hs n1).bnd (Hs n1).next → Kept c w w' → HLe (Hs p) θ (Hs n1) θ' → wpAny P .any ops Q (ops.size - n1) listed' a' w') →
    wpAny P .any ops Q (todo.length + (ops.size - n1)) listed a w := by
  obtain ⟨hn1, hspec⟩ := drawOK_spec hd
  have hLx : Lex ops n1 L := fun i o h1 h2 => by
    rcases hL i o h1 h2 with ⟨_, H2, h3, _⟩ | ⟨_, _, x, _, h3⟩
    · obtain ⟨x, h4, _⟩ := runOp_congr (sl := L i) (fun t _ => rfl) rfl h3; exact ⟨x, h4⟩
    · exact ⟨x, h3⟩
  have hcalm : ∀ p q, p ≤ q → q ≤ n1 → (∀ i, p ≤ i → i < q → bs.getD i false = false) → Hs q = Hs p := by
    intro p q
    induction q with
    | zero => intro h _ _; rw [Nat.le_zero.1 h]
    | succ q ih =>
      intro h1 h2 h3
      by_cases hpq : p = q + 1
      · rw [hpq]
      · obtain ⟨o, hoq⟩ : ∃ o, ops[q]? = some o := ⟨_, Array.getElem?_eq_getElem (by omega)⟩
        rcases hL q o (by omega) hoq with ⟨h4, _⟩ | ⟨_, h4, _⟩
        · rw [h3 q (by omega) (by omega)] at h4; cases h4
        · rw [h4]; exact ih (by omega) (by omega) fun i h5 h6 => h3 i h5 (by omega)
  intro m
  induction m with
  | zero =>
    intro todo listed cur p θ w a hlen hnd htodo hm hp hpl hbd hs hK
    have hnil : todo = [] := List.eq_nil_of_length_eq_zero hlen
    subst hnil
    have hall : ∀ i, i < n1 → listed.getD i false = true := fun i hi => by
      cases hb : listed.getD i false
      · exact absurd ((htodo i).2 ⟨hi, hb⟩) (by simp)
      · rfl
    have hH : Hs n1 = Hs p := hcalm p n1 hp (Nat.le_refl _) fun i h1 h2 => by
      cases hb : bs.getD i false with
      | false => rfl
      | true => have := (hpl i h2 hb).1 (hall i h2); omega
    rw [List.length_nil, Nat.zero_add]
    refine hK listed θ w a (fun i hi => ?_) hm.size ?_ (by rw [hH]; exact hbd) (Kept.refl c w) (by rw [hH]; exact HLe.refl _ _)
    · rw [getD_sz (by rw [hm.size]; exact hi) true false]
      by_cases h1 : i < n1
      · rw [hall i h1]; simp [h1]
      · cases hb : listed.getD i false
        · simp [h1]
        · exact absurd (hm.below i hb) h1
    · rw [← hm.done hd hLx hall, hH]; exact hs
  | succ m ih =>
    intro todo listed cur p θ w a hlen hnd htodo hm hp hpl hbd hs hK
    rw [hlen, show m + 1 + (ops.size - n1) = m + (ops.size - n1) + 1 from by omega]
    have hex : ∀ j, j ∈ todo → Region.ready .any ops listed ≠ [] := by
      intro j
      induction j using Nat.strongRecOn with
      | _ j ihj =>
        intro hj
        obtain ⟨hj1, hun⟩ := (htodo j).1 hj
        obtain ⟨oj, hoj⟩ : ∃ o, ops[j]? = some o := ⟨_, Array.getElem?_eq_getElem (by omega)⟩
        by_cases hall : ∀ e ∈ oj.after, Region.binds .any e = true → listed.getD e.on false = true
        · intro hnil
          have : j ∈ Region.ready .any ops listed := by
            rw [mem_ready]
            exact ⟨by rw [getD_sz (by rw [hm.size]; omega) true false]; exact hun, oj, hoj, hall⟩
          rw [hnil] at this
          simp at this
        · simp only [Classical.not_forall] at hall
          obtain ⟨e, he, hb, hne⟩ := hall
          have h3 := (hspec j oj hoj).1 e he hb
          exact ihj e.on h3 ((htodo e.on).2 ⟨by omega, by simpa using hne⟩)
    refine ⟨fun hr => ?_, fun j hj => ?_⟩
    · cases todo with
      | nil => simp at hlen
      | cons j r => exact absurd hr (hex j (by simp))
    rw [mem_ready] at hj
    obtain ⟨h0, oj, hoj, hr⟩ := hj
    have hlt : j < ops.size := (Array.getElem?_eq_some_iff.1 hoj).1
    have hun : listed.getD j false = false := by rw [getD_sz (by rw [hm.size]; exact hlt) false true]; exact h0
    have hj1 : j < n1 := by
      rcases Nat.lt_or_ge j n1 with h1 | h1
      · exact h1
      · exfalso
        cases todo with
        | nil => simp at hlen
        | cons i r =>
          obtain ⟨hi1, hiu⟩ := (htodo i).1 (by simp)
          obtain ⟨oi, hoi⟩ : ∃ o, ops[i]? = some o := ⟨_, Array.getElem?_eq_getElem (by omega)⟩
          rcases (hspec j oj hoj).2 i oi hoi (by omega) with ⟨e, he, hb, hon⟩ | ⟨h4, _⟩
          · have := hr e he hb
            rw [hon] at this
            rw [this] at hiu; cases hiu
          · omega
    have hlook : ∀ t ∈ oj.looksAt ops, cur.getD t .junk = (L j).getD t .junk := fun t ht => hm.look hd hLx hoj hj1 hun hr ht
    have hmem : j ∈ todo := (htodo j).2 ⟨hj1, hun⟩
    have hlen' : (todo.erase j).length = m := by rw [List.length_erase_of_mem hmem, hlen]; rfl
    have htodo' : ∀ i, i ∈ todo.erase j ↔ i < n1 ∧ (listed.setIfInBounds j true).getD i false = false := fun i => by
      rw [hnd.mem_erase_iff, htodo i, listed_set (by rw [hm.size]; exact hlt)]
      by_cases hij : i = j
      · subst hij; simp
      · simp [hij]
    rcases hL j oj hj1 hoj with ⟨hbj, H2, hrun, hk2, hH2⟩ | ⟨hbj, hHq, x, hx, hLj⟩
    · -- it changes objects: all such before it are done, none behind it
      have hlow : ∀ i, i < j → bs.getD i false = true → listed.getD i false = true := fun i hij hbi => by
        have hb := laneOrd_spec ho hj1 hij hbj hbi
        unfold beforeB at hb
        rw [hoj] at hb
        simp only [List.any_eq_true, Bool.and_eq_true, Bool.or_eq_true, beq_iff_eq] at hb
        obtain ⟨e, he, hbe, h⟩ := hb
        have h1 := hr e (by simpa using he) hbe
        rcases h with rfl | h
        · exact h1
        · exact before_listed hm.closed 7 e.on i h h1
      have hhigh : ∀ i, i < n1 → j < i → bs.getD i false = true → listed.getD i false = false := fun i hi hji hbi => by
        cases hb : listed.getD i false with
        | false => rfl
        | true =>
          have := before_listed hm.closed 8 i j (laneOrd_spec ho hi hji hbi hbj) hb
          rw [hun] at this; cases this
      have hpj : Hs j = Hs p := by
        rcases Nat.le_total p j with h1 | h1
        · exact hcalm p j h1 (by omega) fun i h2 h3 => by
            cases hb : bs.getD i false with
            | false => rfl
            | true => have := (hpl i (by omega) hb).1 (hlow i h3 hb); omega
        · refine (hcalm j p h1 hp fun i h2 h3 => ?_).symm
          cases hb : bs.getD i false with
          | false => rfl
          | true =>
            have h4 := (hpl i (by omega) hb).2 h3
            rcases Nat.lt_or_ge j i with h5 | h5
            · rw [hhigh i (by omega) h5 hb] at h4; cases h4
            · obtain rfl : i = j := by omega
              rw [hun] at h4; cases h4
      obtain ⟨x, hx1, hx2⟩ := runOp_congr hlook (hm.len j (by omega)).symm hrun
      rw [hpj] at hx2
      have hn2 : (Hs p).next ≤ n + j := by rw [← hpj]; exact hnext j (by omega)
      refine op_any hΓ hoj hx2 hs (fun o ho => Nat.lt_of_lt_of_le (hbd o ho) hn2) hn2 fun a' w' θ' hs' hkey hk' hl' => ?_
      have hn3 : H2.next ≤ n + j + 1 := Nat.le_trans (nextK_ge _ _) hk2
      have hs2 : St c (Hs (j + 1)) θ' w' (putA cur oj.dst x) a' := by rw [hH2]; exact hs'.bump hn3
      have hl2 : HLe (Hs p) θ (Hs (j + 1)) θ' := by rw [hH2]; exact hl'.trans (HLe.bump hn3)
      have hbd2 : (Hs (j + 1)).bnd (Hs (j + 1)).next := by
        rw [hH2]
        exact fun o ho => Nat.lt_of_lt_of_le (hkey.2 o ho) hk2
      have := ih (todo.erase j) (listed.setIfInBounds j true) (putA cur oj.dst x) (j + 1) θ' w' a' hlen' (hnd.erase j) htodo' (hm.next hd hLx hoj hj1 hun hr hx1) (by omega)
        (fun i hi hbi => by
          rw [listed_set (by rw [hm.size]; exact hlt)]
          simp only [Bool.or_eq_true, decide_eq_true_eq]
          constructor
          · rintro (rfl | h)
            · omega
            · rcases Nat.lt_or_ge j i with h5 | h5
              · rw [hhigh i hi h5 hbi] at h; cases h
              · omega
          · intro h
            rcases Nat.lt_or_ge i j with h5 | h5
            · exact .inr (hlow i h5 hbi)
            · exact .inl (by omega)) hbd2 hs2 fun l2 θ2 w2 a2 h1 h2 h3 h4 h5 h6 => hK l2 θ2 w2 a2 h1 h2 h3 h4 (hk'.trans h5) (hl2.trans h6)
      rw [hlen'] at this
      exact this
    · have hq0 : qval P Γ ops (Hs p) (L j) oj = some x := by
        rcases hkeep p hp _ hx with ⟨m2, h1, h2, h3, h4⟩ | h
        · have h5 := (hpl m2 h2 h3).2 h1
          have := before_listed hm.closed 8 m2 j h4 h5
          rw [hun] at this; cases this
        · exact h
      have hq : qval P Γ ops (Hs p) cur oj = some x := by rw [← hq0]; exact qval_congr hlook
      refine op_quiet hΓ hoj hq hs hbd fun a' w' θ' hs' hk' hl' => ?_
      have := ih (todo.erase j) (listed.setIfInBounds j true) (putA cur oj.dst x) p θ' w' a' hlen' (hnd.erase j) htodo' (hm.next hd hLx hoj hj1 hun hr hLj) hp
        (fun i hi hbi => by
          rw [listed_set (by rw [hm.size]; exact hlt)]
          have : i ≠ j := by rintro rfl; rw [hbj] at hbi; cases hbi
          simp only [this, decide_false, Bool.false_or]
          exact hpl i hi hbi) hbd hs' fun l2 θ2 w2 a2 h1 h2 h3 h4 h5 h6 => hK l2 θ2 w2 a2 h1 h2 h3 h4 (hk'.trans h5) (hl'.trans h6)
      rw [hlen'] at this
      exact this
def allQ1' (P : Program) (Γ : FuncId → Option CSpec) (ops : Array Oper) (ms : List Nat) (H : Heap) : List (Nat × List AV × Oper × AV) → Prop
  | [] => True
  | q :: qs => ((ms.any fun m => beforeB ops 8 m q.1) = true ∨ qval P Γ ops H q.2.1 q.2.2.1 = some q.2.2.2) ∧ allQ1' P Γ ops ms H qs
def allQ' (P : Program) (Γ : FuncId → Option CSpec) (ops : Array Oper) : List (List Nat × Heap) → List (Nat × List AV × Oper × AV) → Prop
  | [], _ => True
  | (ms, H) :: hs, qs => allQ1' P Γ ops ms H qs ∧ allQ' P Γ ops hs qs
theorem allQ1'.at {ops : Array Oper} {ms : List Nat} {H : Heap} : ∀ {qs : List (Nat × List AV × Oper × AV)}, allQ1' P Γ ops ms H qs → ∀ q ∈ qs, (ms.any fun m => beforeB ops 8 m q.1) = true ∨ qval P Γ ops H q.2.1 q.2.2.1 = some q.2.2.2
  | [], _, q, h => by cases h
  | q' :: qs, h, q, hq => by
    rcases List.mem_cons.1 hq with rfl | hq
    · exact h.1
    · exact allQ1'.at h.2 q hq
theorem allQ'.at {ops : Array Oper} {qs : List (Nat × List AV × Oper × AV)} : ∀ {hs : List (List Nat × Heap)}, allQ' P Γ ops hs qs → ∀ h ∈ hs, ∀ q ∈ qs, (h.1.any fun m => beforeB ops 8 m q.1) = true ∨ qval P Γ ops h.2 q.2.1 q.2.2.1 = some q.2.2.2
  | [], _, H, h => by cases h
  | (ms, H') :: hs, h, x, hH => by
    rcases List.mem_cons.1 hH with rfl | hH
    · exact h.1.at
    · exact allQ'.at h.2 x hH
theorem awp_lane3 {id : Nat} {nst nst' : Bool} {Q : Exit → List AV → Heap → Prop} (bs : List Bool) (hmix : P.follows .mixedOrders = true) (hΓ : ∀ f s, Γ f = some s → SpecOK P f s) (hd : drawOK ops n1 = true) (ho : laneOrd ops n1 bs = true) {tab tab1 tab' : List (Nat × Obj)} {n m k1 : Nat} {sl1 sl' : List AV}
    {hs0 : List (List Nat × Heap)} {qs : List (Nat × List AV × Oper × AV)} (h1 : Lane3 P Γ nst ops n 0 (ops.toList.take n1) bs sl ⟨tab, n⟩ [] sl1 ⟨tab1, k1⟩ hs0 qs) (hall : allQ' P Γ ops (([], ⟨tab, n⟩) :: hs0) qs)
    (h2 : runOps P Γ nst' ops (n + n1) (ops.toList.drop n1) sl1 ⟨tab1, k1⟩ = some (sl', ⟨tab', m⟩)) (hQ : Q .normal sl' ⟨tab', m⟩) : awp P c (.region id ops true) Q sl ⟨tab, n⟩ := by
  intro θ w a hs
  obtain ⟨hn1, hspec⟩ := drawOK_spec hd
  have hlt : (ops.toList.take n1).length = n1 := by simp; omega
  obtain ⟨L, Hs, Ms, e1, e2, e3, e4, e6, e5⟩ := lane_states3 _ _ _ _ _ _ _ _ h1
  simp only [Nat.zero_add, hlt] at e3 e4 e5 e6
  have hL : ∀ i o, i < n1 → ops[i]? = some o → LStep3 P Γ nst ops n qs i o (bs.getD i false) (L i) (L (i + 1)) (Hs i) (Hs (i + 1)) := fun i o hi ho' => e5 i o (by rw [List.getElem?_take_of_lt hi]; simpa using ho')
  have hkeep : ∀ i, i ≤ n1 → ∀ q ∈ qs, (∃ m, m < i ∧ m < n1 ∧ bs.getD m false = true ∧ beforeB ops 8 m q.1 = true) ∨ qval P Γ ops (Hs i) q.2.1 q.2.2.1 = some q.2.2.2 := fun i hi q hq => by
    obtain ⟨h2, h3⟩ := e6 i hi
    rcases hall.at _ h2 q hq with h | h
    · rw [List.any_eq_true] at h
      obtain ⟨m, hm, hb⟩ := h
      rcases h3 m hm with h4 | ⟨k, h4, h5, h6⟩
      · cases h4
      · have : m = k := by omega
        subst this
        exact .inl ⟨m, h4, by omega, h6, hb⟩
    · exact .inr h
  have hnext : ∀ i, i ≤ n1 → (Hs i).next ≤ n + i := by
    intro i
    induction i with
    | zero => intro _; rw [e2]; exact Nat.le_refl _
    | succ i ih =>
      intro hi
      obtain ⟨o, hoi⟩ : ∃ o, ops[i]? = some o := ⟨_, Array.getElem?_eq_getElem (by omega)⟩
      rcases hL i o (by omega) hoi with ⟨_, H2, _, _, h4⟩ | ⟨_, h3, _⟩
      · rw [h4]; exact Nat.le_refl _
      · rw [h3]; have := ih (by omega); omega
  have hlenL : ∀ i, i ≤ n1 → (L i).length = sl.length := by
    intro i
    induction i with
    | zero => intro _; rw [e1]
    | succ i ih =>
      intro hi
      obtain ⟨o, hoi⟩ : ∃ o, ops[i]? = some o := ⟨_, Array.getElem?_eq_getElem (by omega)⟩
      rcases hL i o (by omega) hoi with ⟨_, H2, h3, _⟩ | ⟨_, _, x, _, h3⟩
      · obtain ⟨x, h4, _⟩ := runOp_congr (sl := L i) (fun t _ => rfl) rfl h3
        rw [h4, putA_length]; exact ih (by omega)
      · rw [h3, putA_length]; exact ih (by omega)
  have hno : ∀ i, (Array.replicate ops.size false).getD i false = false := fun i => by
    simp only [Array.getD_eq_getD_getElem?, Array.getElem?_replicate]
    split <;> rfl
  refine wp_region_any hmix ?_
  have key := draw_lane3 (c := c) (L := L) (Hs := Hs) hΓ hd ho hL hkeep hnext (Q := fun e a' w' => ∃ sl' H' θ', Q e sl' H' ∧ StW c H' θ' w' sl' a' ∧ Kept c w w' ∧ Evo c.base ⟨tab, n⟩ θ H' θ') n1 (List.range n1) (Array.replicate ops.size false) sl 0 θ { w with drawn := w.drawn + 1 } a (by simp) List.nodup_range
    (fun i => by rw [hno]; simp) ⟨by simp, fun i o _ h => (by rw [hno] at h; cases h), fun i h => (by rw [hno] at h; cases h), hlenL, fun t => ⟨0, Nat.zero_le _, fun i o _ _ _ => (by rw [hno]; simp), by rw [e1]⟩⟩
    (Nat.zero_le _) (fun i _ _ => by rw [hno]; simp) (by rw [e2]; exact hs.wf) (by rw [e2]; exact hs.st.drawn _) fun listed' θ' w' a' hli hsz hs' hbd' hk' hl' => ?_
  · rw [List.length_range, Nat.add_sub_cancel' hn1] at key
    exact key
  · rw [e2] at hl'
    rw [e3, e4] at hs'
    rw [e4] at hbd' hl'
    have hk1 : k1 ≤ n + n1 := by have := hnext n1 (Nat.le_refl _); rw [e4] at this; exact this
    refine draw_tail hΓ hd (ops.toList.drop n1) n1 (n + n1) listed' sl1 ⟨tab1, k1⟩ θ' w' a' sl' ⟨tab', m⟩ (Nat.le_refl _) rfl hli hsz hn1 h2 hs' (fun p hp => Nat.lt_of_lt_of_le (hbd' p hp) hk1) hk1 fun a2 w2 θ2 hs2 hb2 hn2 hk2 hl2 => ?_
    have hkk : Kept c w w2 := by
      have h3 := hk'.trans hk2
      exact ⟨h3.os, h3.tape, h3.output, h3.size, h3.block⟩
    exact ⟨sl', _, θ2, hQ, ⟨hs2, hb2, by have := hs.base; show c.base ≤ m; exact Nat.le_trans this (Nat.le_trans (Nat.le_add_right _ _) hn2)⟩, hkk, (hl'.trans hl2).evo hs.base⟩
theorem lane3_nil {nst : Bool} {ops : Array Oper} {n i : Nat} {Hc : Heap} {ms : List Nat} {bs : List Bool} : Lane3 P Γ nst ops n i [] bs sl Hc ms sl Hc [] [] := ⟨rfl, rfl, rfl, rfl⟩
theorem lane3_quiet {nst : Bool} {ops : Array Oper} {n i : Nat} {Hc H1 : Heap} {ms : List Nat} {bs : List Bool} {l : List Oper} {sl1 : List AV} {x : AV} {hs : List (List Nat × Heap)} {qs : List (Nat × List AV × Oper × AV)} (hx : qval P Γ ops Hc sl o = some x) (hr : Lane3 P Γ nst ops n (i + 1) l bs (putA sl o.dst x) Hc ms sl1 H1 hs qs) : Lane3 P Γ nst ops n i (o :: l) (false :: bs) sl Hc ms sl1 H1 hs ((i, sl, o, x) :: qs) := ⟨x, qs, rfl, hr⟩
theorem lane3_loud {nst : Bool} {ops : Array Oper} {n i k k1 m m2 : Nat} {tab tab2 : List (Nat × Obj)} {H1 : Heap} {ms : List Nat} {bs : List Bool} {l : List Oper} {sl1 sl2 : List AV} {hs : List (List Nat × Heap)} {qs : List (Nat × List AV × Oper × AV)} (hk : n + i = k) (hk1 : k + 1 = k1) (hx : runOp P Γ nst k ops o sl ⟨tab, m⟩ = some (sl2, ⟨tab2, m2⟩)) (hn : nextK k ⟨tab2, m2⟩ ≤ k1)
    (hr : Lane3 P Γ nst ops n (i + 1) l bs sl2 ⟨tab2, k1⟩ (i :: ms) sl1 H1 hs qs) : Lane3 P Γ nst ops n i (o :: l) (true :: bs) sl ⟨tab, m⟩ ms sl1 H1 ((i :: ms, ⟨tab2, k1⟩) :: hs) qs := by
  subst hk hk1
  exact ⟨sl2, _, hs, hx, hn, rfl, hr⟩
end
end Go.Ab
namespace Go.Ab
open Go Go.RowKit
theorem callLoc_of {k : Nat} {H : Heap} {g : List AV → List Obj → Option (AV × List Obj)} {xs : List AV} {fp : List Nat} {objs : List Obj} {r : AV} {os' : List Obj} (hfp : xs.foldl (foot H 6) [] = fp) (hobj : getAll H fp = some objs) (hnd : nodupB fp = true)
    (hg : g (rens H (idxOf fp) xs) (objs.map (renO H (idxOf fp))) = some (r, os')) (hl : fp.length ≤ os'.length) : callLoc k H g xs = some (ren ⟨[], 0⟩ (backTo fp k) r, ⟨putAll fp k H.tab 0 os', k + (os'.length - fp.length)⟩) := by
  unfold callLoc
  rw [hfp, hobj]
  dsimp only
  rw [if_pos hnd, hg]
  dsimp only
  rw [if_pos hl]
end Go.Ab
namespace Go.Ab
open Go Go.RowKit
def RetOX (P : Program) (rs : List ResultVar) (e : TypeId) (sz : Nat) (good : List D → Prop) (ex : Exit) (sl : List AV) (H : Heap) : Prop := ∃ l, good l ∧ RetO P rs e sz l ex sl H
theorem reto_x {P : Program} {rs : List ResultVar} {e : TypeId} {sz o : Nat} {good : List D → Prop} {ex : Exit} {sl : List AV} {H : Heap} {l : List D} (he : Exit.over ex = true) (hx : resA P rs sl H = some (.row o l.length)) (hg : H.get o = some (.row e sz l)) (h : good l) : RetOX P rs e sz good ex sl H := ⟨l, h, he, o, hx, hg⟩
theorem own_ex {P : Program} {X : Type} {enc : X → List D} {dom : X → Prop} {good : X → List D → Prop} {f : FuncId} {fn : Func} {code : Code} {n : Nat} {rs : List ResultVar} {t : TypeId} {sz : Nat} (hsz : 0 < sz) (hf : P.funcs[f]? = some fn) (hname : (fn.name == "runtime.NumGoroutine") = false)
    (hb : fn.body = some code) (hn : fn.ntmps = n) (hrs : fn.results.toList = rs) (inj : ∀ x y, enc x = enc y → x = y)
    (h : ∀ x, dom x → (∀ l, good x l → elemsOK sz l = true) ∧ axp P 0 code (RetOX P rs t sz (good x)) (start n (enc x)) emptyH) : ∃ g : List D → Option (TypeId × Nat × List D), OwnOK P f g ∧ ∀ x, dom x → ∃ l, good x l ∧ g (enc x) = some (t, sz, l) := by
  have h1 : ∀ x : X, ∃ l : List D, dom x → good x l ∧ ∀ c : Ctx, c.base = 0 → awp P c code (RetO P rs t sz l) (start n (enc x)) emptyH := fun x => by
    by_cases hx : dom x
    · obtain ⟨_, e, s1, H1, ⟨l, hg, hr⟩, hc⟩ := h x hx
      refine ⟨l, fun _ => ⟨hg, fun c hcb => awp_mono (hc c hcb) ?_⟩⟩
      rintro _ _ _ ⟨rfl, rfl, rfl⟩
      exact hr
    · exact ⟨[], fun hx' => absurd hx' hx⟩
  obtain ⟨out, hout⟩ := Classical.axiomOfChoice h1
  refine ⟨encSpec enc dom (fun x => (t, sz, out x)), own_enc hf hname hb hn hrs fun x hx => ⟨⟨hsz, (h x hx).1 _ (hout x hx).1⟩, (hout x hx).2⟩, fun x hx => ⟨out x, (hout x hx).1, encSpec_eq hx fun y hy => by rw [inj _ _ hy]⟩⟩
end Go.Ab
namespace Go.Ab
open Go Go.RowKit
section
variable {P : Program} {Γ : FuncId → Option CSpec} {c : Ctx} {H H' : Heap} {θ θ' : Nat → Value} {w w' : World} {sl : List AV} {a : Act} {o : Oper} {r : AV}
theorem HLe.congr {H1 H2 H3 : Heap} {θ1 θ2 : Nat → Value} (h : HLe H1 θ1 H2 θ2) (hg : ∀ o, H3.get o = H2.get o) (hn : H2.next ≤ H3.next) : HLe H1 θ1 H3 θ2 := h.trans ⟨fun o ho => by
    rcases ho with ho | ho
    · exact .inl (Nat.lt_of_lt_of_le ho hn)
    · exact .inr (by rw [hg]; exact ho), fun o x _ h => ⟨x, by rw [← hg]; exact h, x.evo_refl, fun _ => rfl⟩⟩
theorem St.congr (hs : St c H θ w sl a) (hg : ∀ o, H'.get o = H.get o) (hn : H.next ≤ H'.next) : St c H' θ w sl a := by
  have hle : HLe H θ H' θ := (HLe.refl H θ).congr hg hn
  have hv : vis c H' θ w = vis c H θ w := by
    funext b
    simp only [vis, own, hg]
  have vm : ∀ {x : AV} {v : Value}, VR H θ w (vis c H θ w) x v → VR H' θ w (vis c H' θ w) x v := fun h => by
    rw [hv]
    exact h.mono (fun b hb => ⟨hb, rfl⟩) hle
  refine ⟨⟨hs.sim.size, fun o x hx => ?_, fun o o' x x' h1 h2 => hs.sim.inj o o' x x' (by rw [← hg]; exact h1) (by rw [← hg]; exact h2)⟩, hs.defers, hs.size, fun i x v h1 h2 => vm (hs.vals i x v h1 h2)⟩
  have h := hs.sim.objs o x (by rw [← hg]; exact hx)
  cases x with
  | box cs =>
    obtain ⟨b, e, vs, h1, h2, h3, h4, h5⟩ := h
    exact ⟨b, e, vs, h1, h2, h3, h4, fun i hi u hu => ⟨vm (h5 i hi u hu).1, (h5 i hi u hu).2⟩⟩
  | row e sz l => simp only [ObjR, hv]; exact h
  | arr e sz m cs =>
    obtain ⟨h1, h2, vs, h3, h4, h5⟩ := h
    exact ⟨h1, h2, vs, h3, h4, fun i hi u hu => ⟨vm (h5 i hi u hu).1, (h5 i hi u hu).2⟩⟩
  | frz l => simp only [ObjR, hv]; exact h
  | map ks vs => simp only [ObjR, hv]; exact h
  | dead => trivial
def notCall (o : Oper) : Bool := match o.op with
  | .call _ => false
  | _ => true
variable {ops : Array Oper} {n1 : Nat}
def allocAt (ops : Array Oper) (i : Nat) : Bool := match ops[i]? with
  | some o => o.guard.isNone && match o.op with
    | .alloc _ => true
    | _ => false
  | none => false
structure L4 (ops : Array Oper) (n1 : Nat) (bs : List Bool) (f g : Nat) : Prop where
  fg : f < g
  gn : g < n1
  af : allocAt ops f = true
  ag : allocAt ops g = true
  bf : bs.getD f false = true
  bg : bs.getD g false = true
  no : ∀ i, i < g → i ≠ f → bs.getD i false = false
  ord : ∀ i j, j < n1 → i < j → bs.getD j false = true → bs.getD i false = true → (i = f ∧ j = g) ∨ beforeB ops 8 j i = true
variable {L : Nat → List AV} {Hs : Nat → Heap}
def allX (P : Program) (Γ : FuncId → Option CSpec) (ops : Array Oper) (g : Nat) (H : Heap) : List (Nat × List AV × Oper × AV) → Prop
  | [] => True
  | q :: qs => (beforeB ops 8 g q.1 = true ∨ (notCall q.2.2.1 = true ∧ qval P Γ ops H q.2.1 q.2.2.1 = some q.2.2.2)) ∧ allX P Γ ops g H qs
theorem allX.at {g : Nat} {H : Heap} : ∀ {qs : List (Nat × List AV × Oper × AV)}, allX P Γ ops g H qs → ∀ q ∈ qs, beforeB ops 8 g q.1 = true ∨ (notCall q.2.2.1 = true ∧ qval P Γ ops H q.2.1 q.2.2.1 = some q.2.2.2)
  | [], _, q, h => by cases h
  | q' :: qs, h, q, hq => by
    rcases List.mem_cons.1 hq with rfl | hq
    · exact h.1
    · exact allX.at h.2 q hq
end
end Go.Ab
namespace Go.Ab
open Go Go.RowKit
theorem dk : (∀ {p : Prop} [Decidable p], p → decide p = true) ∧ (∀ {p : Prop} [Decidable p], ¬ p → decide p = false) ∧ (∀ {c : Prop} {h : Decidable c} (_ : c) {α : Type} {t e : α}, (@ite α c h t e) = t) ∧ (∀ {c : Prop} {h : Decidable c} (_ : ¬ c) {α : Type} {t e : α}, (@ite α c h t e) = e) ∧
    (∀ {n : Int}, -9223372036854775808 ≤ n → n < 9223372036854775808 → IntKind.wrap .i64 n = n) ∧ maxLen = 9223372036854775807 := ⟨fun h => decide_eq_true h, fun h => decide_eq_false h, fun hc => if_pos hc, fun hc => if_neg hc, fun h h' => wrap_in h h', rfl⟩
theorem lk : (∀ {α β : Type} (f : α → β) (l : List α), List.map f (List.toArray l).toList = List.map f l) ∧ (∀ {α β : Type} (f : α → β) (a : α) (l : List α), List.map f (a :: l) = f a :: List.map f l) ∧ (∀ {α β : Type} (f : α → β), List.map f [] = []) := ⟨fun f l => map_lit f l, fun _ _ _ => rfl, fun _ => rfl⟩
theorem Weak.w {b m : Nat} {t t' : List (Nat × AV)} {tab tab' : List (Nat × Obj)} {n n' : Nat} (hb : b ≤ n' := by omega) (h1 : ConvF ⟨tab, n⟩ t t' := by (simp [ConvF, lookV, Conv, ints]; done))
    (h2 : TabSub n' tab tab' := by (simp (disch := omega) only [TabSub, look, if_pos, if_neg, Obj.refsOK, refsOKs, AV.refsOK, decide_eq_true_eq, Bool.and_true, Bool.and_self]) <;> ((repeat' apply And.intro) <;> first | exact True.intro | omega | (simp; done) | rfl))
    (h3 : refsF n' t' = true := by simp (disch := omega) only [refsF, AV.refsOK, Bool.and_true, Bool.and_self, decide_eq_true_eq, Bool.true_and, Bool.and_eq_true]; try omega) : Weak b (frame m t) ⟨tab, n⟩ (frame m t') ⟨tab', n'⟩ := Weak.ofF hb h1 h2 h3
theorem Weak.u {b m : Nat} {t t' : List (Nat × AV)} {tab tab' : List (Nat × Obj)} {n n' : Nat} (hb : b ≤ n' := by omega) (h1 : ConvF ⟨tab, n⟩ t t' := by (repeat' (first | exact True.intro | apply And.intro | exact rfl | exact Or.inl rfl)); done)
    (h2 : TabSub n' tab tab' := by (simp (disch := omega) only [TabSub, look, if_pos, if_neg, Obj.refsOK, refsOKs, AV.refsOK, decide_eq_true_eq, Bool.and_true, Bool.and_self]) <;> ((repeat' apply And.intro) <;> first | exact True.intro | omega | (simp; done) | rfl))
    (h3 : refsF n' t' = true := by simp (disch := omega) only [refsF, AV.refsOK, Bool.and_true, Bool.and_self, decide_eq_true_eq, Bool.true_and, Bool.and_eq_true]; try omega) : Weak b (frame m t) ⟨tab, n⟩ (frame m t') ⟨tab', n'⟩ := Weak.ofF hb h1 h2 h3
theorem Weak.v {b m : Nat} {t t' : List (Nat × AV)} {tab tab' : List (Nat × Obj)} {n n' : Nat} (h1 : ConvF ⟨tab, n⟩ t t') (h2 : TabSub n' tab tab') (hb : b ≤ n' := by omega)
    (h3 : refsF n' t' = true := by simp (disch := omega) only [refsF, AV.refsOK, Bool.and_true, Bool.and_self, decide_eq_true_eq, Bool.true_and, Bool.and_eq_true]; try omega) : Weak b (frame m t) ⟨tab, n⟩ (frame m t') ⟨tab', n'⟩ := Weak.ofF hb h1 h2 h3
def toDO (H : Heap) : Option AV → Option D
  | some x => toD H 4 x
  | none => none
attribute [go_sem] toDO
theorem ovX {P : Program} {sl : List AV} {H : Heap} {rs : List ResultVar} {good : D → Prop} {d : D} {e : Exit} (he : Exit.over e = true) (h : toDO H (resA P rs sl H) = some d) (_ : True) (hg : good d) : RetX P rs good e sl H := by
  cases hx : resA P rs sl H with
  | none => rw [hx] at h; cases h
  | some x => rw [hx] at h; exact ⟨d, hg, he, x, hx, h⟩
theorem ovE {P : Program} {sl : List AV} {H : Heap} {rs : List ResultVar} {d d' : D} {e : Exit} (he : Exit.over e = true) (h : toDO H (resA P rs sl H) = some d') (_ : True) (hd : d' = d) : RetD P rs d e sl H := by
  subst hd
  cases hx : resA P rs sl H with
  | none => rw [hx] at h; cases h
  | some x => rw [hx] at h; exact ⟨he, x, hx, h⟩
abbrev pickC (v : Bool) (a b : Code) : Code := match v with
  | true => a
  | false => b
def LitB : Bool → Prop
  | true => True
  | false => True
theorem axG {P : Program} {b : Nat} {Q : Exit → List AV → Heap → Prop} {sl : List AV} {H : Heap} {cond : Operand} {tc ec : Code} {v : Bool} (hc : aev sl cond = .data (.bool v)) (_ : LitB v) (h : axp P b (pickC v tc ec) Q sl H) : axp P b (.cond cond tc ec) Q sl H := by
  cases v with
  | true => exact axp_cond_t hc h
  | false => exact axp_cond_f hc h
theorem awG {P : Program} {c : Ctx} {Q : Exit → List AV → Heap → Prop} {sl : List AV} {H : Heap} {cond : Operand} {tc ec : Code} {v : Bool} (hc : aev sl cond = .data (.bool v)) (_ : LitB v) (h : awp P c (pickC v tc ec) Q sl H) : awp P c (.cond cond tc ec) Q sl H := by
  cases v with
  | true => exact awp_cond_t hc h
  | false => exact awp_cond_f hc h
def qend (n : Nat) (ops : Array Oper) : Option (List AV) → Option (List AV × Nat)
  | some s => some (s, n + ops.size)
  | none => none
def qthen (P : Program) (Γ : FuncId → Option CSpec) (ops : Array Oper) (k n1 : Nat) (H : Heap) : Option (List AV) → Option (List AV × Heap)
  | some s => runOps P Γ false ops k (ops.toList.drop n1) s H
  | none => none
attribute [go_sem] qend qthen
section
variable {P : Program} {Γ : FuncId → Option CSpec} {c : Ctx} {b : Nat} {sl sl' : List AV} {tab tab' : List (Nat × Obj)} {n n1 m : Nat} {ops : Array Oper} {Q : Exit → List AV → Heap → Prop} {id : Nat}
theorem awT (hmix : P.follows .mixedOrders = true) (hΓ : ∀ f s, Γ f = some s → SpecOK P f s) (hd : drawOK ops ops.size = true) (h : qend n ops (qruns P Γ ops ⟨tab, n⟩ ops.toList sl) = some (sl', m)) (hQ : Q .normal sl' ⟨tab, m⟩) : awp P c (.region id ops true) Q sl ⟨tab, n⟩ := by
  cases hx : qruns P Γ ops ⟨tab, n⟩ ops.toList sl with
  | none => rw [hx] at h; cases h
  | some s => rw [hx] at h; cases h; exact awp_regf hmix hΓ hd hx rfl hQ
theorem awH (hmix : P.follows .mixedOrders = true) (hΓ : ∀ f s, Γ f = some s → SpecOK P f s) (hs : ops.size = n1 + 1) (hd : drawOK ops n1 = true) (h : qthen P Γ ops (n + n1) n1 ⟨tab, n⟩ (qruns P Γ ops ⟨tab, n⟩ (ops.toList.take n1) sl) = some (sl', ⟨tab', m⟩)) (_ : True) (hQ : Q .normal sl' ⟨tab', m⟩) : awp P c (.region id ops true) Q sl ⟨tab, n⟩ := by
  cases hx : qruns P Γ ops ⟨tab, n⟩ (ops.toList.take n1) sl with
  | none => rw [hx] at h; cases h
  | some s => rw [hx] at h; exact awp_regt hmix hΓ hs hd hx rfl h hQ
end
abbrev axA := @axp_seq
abbrev axB := @axp_block
section
variable {P : Program} {Γ : FuncId → Option CSpec} {c : Ctx} {b : Nat} {sl sl' : List AV} {H : Heap} {tab tab' : List (Nat × Obj)} {n m : Nat} {ops : Array Oper} {Q : Exit → List AV → Heap → Prop} {K : List AV → Heap → Prop} {id id' l : Nat}
theorem axR (hΓ : ∀ f s, Γ f = some s → SpecOK P f s) (h : runOps P Γ false ops n ops.toList sl ⟨tab, n⟩ = some (sl', ⟨tab', m⟩)) (_ : True) (hQ : Q .normal sl' ⟨tab', m⟩) : axp P b (.region id ops false) Q sl ⟨tab, n⟩ := axp_reg hΓ h hQ
theorem awR (hΓ : ∀ f s, Γ f = some s → SpecOK P f s) (h : runOps P Γ false ops n ops.toList sl ⟨tab, n⟩ = some (sl', ⟨tab', m⟩)) (_ : True) (hQ : Q .normal sl' ⟨tab', m⟩) : awp P c (.region id ops false) Q sl ⟨tab, n⟩ := awp_reg hΓ h hQ
end
inductive Ctl : Prop → Prop → Prop where
  | xr {P : Program} {b : Nat} {Q : Exit → List AV → Heap → Prop} {sl : List AV} {H : Heap} : Ctl (axp P b .ret Q sl H) (Q .ret sl H)
  | xs {P : Program} {b : Nat} {Q : Exit → List AV → Heap → Prop} {sl : List AV} {H : Heap} : Ctl (axp P b .skip Q sl H) (Q .normal sl H)
  | xe {P : Program} {b : Nat} {Q : Exit → List AV → Heap → Prop} {sl : List AV} {H : Heap} {id : Nat} : Ctl (axp P b (.exit id) Q sl H) (Q (.exit id) sl H)
  | xl {P : Program} {b : Nat} {Q : Exit → List AV → Heap → Prop} {sl : List AV} {H : Heap} {l : Nat} : Ctl (axp P b (.label l) Q sl H) (Q .normal sl H)
  | wr {P : Program} {c : Ctx} {Q : Exit → List AV → Heap → Prop} {sl : List AV} {H : Heap} : Ctl (awp P c .ret Q sl H) (Q .ret sl H)
  | ws {P : Program} {c : Ctx} {Q : Exit → List AV → Heap → Prop} {sl : List AV} {H : Heap} : Ctl (awp P c .skip Q sl H) (Q .normal sl H)
  | we {P : Program} {c : Ctx} {Q : Exit → List AV → Heap → Prop} {sl : List AV} {H : Heap} {id : Nat} : Ctl (awp P c (.exit id) Q sl H) (Q (.exit id) sl H)
  | wl {P : Program} {c : Ctx} {Q : Exit → List AV → Heap → Prop} {sl : List AV} {H : Heap} {l : Nat} : Ctl (awp P c (.label l) Q sl H) (Q .normal sl H)
  | tn {K : List AV → Heap → Prop} {Q : Exit → List AV → Heap → Prop} {sl : List AV} {H : Heap} : Ctl (thenA K Q .normal sl H) (K sl H)
  | tr {K : List AV → Heap → Prop} {Q : Exit → List AV → Heap → Prop} {sl : List AV} {H : Heap} : Ctl (thenA K Q .ret sl H) (Q .ret sl H)
  | te {K : List AV → Heap → Prop} {Q : Exit → List AV → Heap → Prop} {sl : List AV} {H : Heap} {id : Nat} : Ctl (thenA K Q (.exit id) sl H) (Q (.exit id) sl H)
  | bn {Q : Exit → List AV → Heap → Prop} {sl : List AV} {H : Heap} {id : Nat} : Ctl (inBlockA id Q .normal sl H) (Q .normal sl H)
  | br {Q : Exit → List AV → Heap → Prop} {sl : List AV} {H : Heap} {id : Nat} : Ctl (inBlockA id Q .ret sl H) (Q .ret sl H)
  | bx {Q : Exit → List AV → Heap → Prop} {sl : List AV} {H : Heap} {id : Nat} : Ctl (inBlockA id Q (.exit id) sl H) (Q .normal sl H)
  | bo {Q : Exit → List AV → Heap → Prop} {sl : List AV} {H : Heap} {id id' : Nat} (h : (id' == id) = false) : Ctl (inBlockA id Q (.exit id') sl H) (Q (.exit id') sl H)
theorem axK {A B : Prop} (h : Ctl A B) (hb : B) : A := by
  cases h with
  | xr => exact axp_ret hb
  | xs => exact axp_skip hb
  | xe => exact axp_exit hb
  | xl => exact axp_label hb
  | wr => exact awp_ret hb
  | ws => exact awp_skip hb
  | we => exact awp_exit hb
  | wl => exact awp_label hb
  | tn => exact then_normal hb
  | tr => exact then_ret hb
  | te => exact then_exit hb
  | bn => exact block_normal hb
  | br => exact block_ret hb
  | bx => exact block_exit hb
  | bo h => exact block_out h hb
inductive Ctm : Prop → Prop → Prop where
  | xq {P : Program} {b : Nat} {Q : Exit → List AV → Heap → Prop} {sl : List AV} {H : Heap} {x y : Code} : Ctm (axp P b (.seq x y) Q sl H) (axp P b x (thenA (axp P b y Q) Q) sl H)
  | xb {P : Program} {b : Nat} {Q : Exit → List AV → Heap → Prop} {sl : List AV} {H : Heap} {id : Nat} {x : Code} : Ctm (axp P b (.block id x) Q sl H) (axp P b x (inBlockA id Q) sl H)
  | wq {P : Program} {c : Ctx} {Q : Exit → List AV → Heap → Prop} {sl : List AV} {H : Heap} {x y : Code} : Ctm (awp P c (.seq x y) Q sl H) (awp P c x (thenA (awp P c y Q) Q) sl H)
  | wb {P : Program} {c : Ctx} {Q : Exit → List AV → Heap → Prop} {sl : List AV} {H : Heap} {id : Nat} {x : Code} : Ctm (awp P c (.block id x) Q sl H) (awp P c x (inBlockA id Q) sl H)
  | xr {P : Program} {b : Nat} {Q : Exit → List AV → Heap → Prop} {sl : List AV} {H : Heap} : Ctm (axp P b .ret Q sl H) (Q .ret sl H)
  | xs {P : Program} {b : Nat} {Q : Exit → List AV → Heap → Prop} {sl : List AV} {H : Heap} : Ctm (axp P b .skip Q sl H) (Q .normal sl H)
  | xe {P : Program} {b : Nat} {Q : Exit → List AV → Heap → Prop} {sl : List AV} {H : Heap} {id : Nat} : Ctm (axp P b (.exit id) Q sl H) (Q (.exit id) sl H)
  | xl {P : Program} {b : Nat} {Q : Exit → List AV → Heap → Prop} {sl : List AV} {H : Heap} {l : Nat} : Ctm (axp P b (.label l) Q sl H) (Q .normal sl H)
  | wr {P : Program} {c : Ctx} {Q : Exit → List AV → Heap → Prop} {sl : List AV} {H : Heap} : Ctm (awp P c .ret Q sl H) (Q .ret sl H)
  | ws {P : Program} {c : Ctx} {Q : Exit → List AV → Heap → Prop} {sl : List AV} {H : Heap} : Ctm (awp P c .skip Q sl H) (Q .normal sl H)
  | we {P : Program} {c : Ctx} {Q : Exit → List AV → Heap → Prop} {sl : List AV} {H : Heap} {id : Nat} : Ctm (awp P c (.exit id) Q sl H) (Q (.exit id) sl H)
  | wl {P : Program} {c : Ctx} {Q : Exit → List AV → Heap → Prop} {sl : List AV} {H : Heap} {l : Nat} : Ctm (awp P c (.label l) Q sl H) (Q .normal sl H)
  | tn {K : List AV → Heap → Prop} {Q : Exit → List AV → Heap → Prop} {sl : List AV} {H : Heap} : Ctm (thenA K Q .normal sl H) (K sl H)
  | tr {K : List AV → Heap → Prop} {Q : Exit → List AV → Heap → Prop} {sl : List AV} {H : Heap} : Ctm (thenA K Q .ret sl H) (Q .ret sl H)
  | te {K : List AV → Heap → Prop} {Q : Exit → List AV → Heap → Prop} {sl : List AV} {H : Heap} {id : Nat} : Ctm (thenA K Q (.exit id) sl H) (Q (.exit id) sl H)
  | bn {Q : Exit → List AV → Heap → Prop} {sl : List AV} {H : Heap} {id : Nat} : Ctm (inBlockA id Q .normal sl H) (Q .normal sl H)
  | br {Q : Exit → List AV → Heap → Prop} {sl : List AV} {H : Heap} {id : Nat} : Ctm (inBlockA id Q .ret sl H) (Q .ret sl H)
  | bx {Q : Exit → List AV → Heap → Prop} {sl : List AV} {H : Heap} {id : Nat} : Ctm (inBlockA id Q (.exit id) sl H) (Q .normal sl H)
  | bo {Q : Exit → List AV → Heap → Prop} {sl : List AV} {H : Heap} {id id' : Nat} (h : (id' == id) = false) : Ctm (inBlockA id Q (.exit id') sl H) (Q (.exit id') sl H)
theorem axJ {A B : Prop} (h : Ctm A B) (hb : B) : A := by
  cases h with
  | xq => exact axp_seq hb
  | xb => exact axp_block hb
  | wq => exact awp_seq hb
  | wb => exact awp_block hb
  | xr => exact axp_ret hb
  | xs => exact axp_skip hb
  | xe => exact axp_exit hb
  | xl => exact axp_label hb
  | wr => exact awp_ret hb
  | ws => exact awp_skip hb
  | we => exact awp_exit hb
  | wl => exact awp_label hb
  | tn => exact then_normal hb
  | tr => exact then_ret hb
  | te => exact then_exit hb
  | bn => exact block_normal hb
  | br => exact block_ret hb
  | bx => exact block_exit hb
  | bo h => exact block_out h hb
end Go.Ab
