/-
  One text of the proof (own work): contracts of functions of the program, by the abstract machine.
-/
import Derived.Test.YtmcgfohokniepaaX19
set_option linter.unusedVariables false
set_option linter.unusedSimpArgs false
namespace Go.Ab
open Go Go.RowKit
section
variable {P : Program} {Γ : FuncId → Option CSpec} {c : Ctx} {H H' : Heap} {θ θ' : Nat → Value} {w w' : World} {sl : List AV} {a : Act} {o : Oper} {r : AV}
theorem HLe.congr {H1 H2 H3 : Heap} {θ1 θ2 : Nat → Value} (h : HLe H1 θ1 H2 θ2) (hg : ∀ o, H3.get o = H2.get o) (hn : H2.next ≤ H3.next) : HLe H1 θ1 H3 θ2 := h.trans ⟨fun o ho => by
    rcases ho with ho | ho
    · exact .inl (Nat.lt_of_lt_of_le ho hn)
    · exact .inr (by rw [hg]; exact ho), fun o x _ h => ⟨x, by rw [← hg]; exact h, x.evo_refl, fun _ => rfl⟩⟩
theorem St.congr (hs : St c H θ w sl a) (hg : ∀ o, H'.get o = H.get o) (hn : H.next ≤ H'.next) : St c H' θ w sl a := by
  have hle : HLe H θ H' θ := (HLe.refl H θ).congr hg hn
  have hv : vis c H' θ w = vis c H θ w := by
    funext b
    simp only [vis, own, hg]
  have vm : ∀ {x : AV} {v : Value}, VR H θ w (vis c H θ w) x v → VR H' θ w (vis c H' θ w) x v := fun h => by
    rw [hv]
    exact h.mono (fun b hb => ⟨hb, rfl⟩) hle
  refine ⟨⟨hs.sim.size, fun o x hx => ?_, fun o o' x x' h1 h2 => hs.sim.inj o o' x x' (by rw [← hg]; exact h1) (by rw [← hg]; exact h2)⟩, hs.defers, hs.size, fun i x v h1 h2 => vm (hs.vals i x v h1 h2)⟩
  have h := hs.sim.objs o x (by rw [← hg]; exact hx)
  cases x with
  | box cs =>
    obtain ⟨b, e, vs, h1, h2, h3, h4, h5⟩ := h
    exact ⟨b, e, vs, h1, h2, h3, h4, fun i hi u hu => ⟨vm (h5 i hi u hu).1, (h5 i hi u hu).2⟩⟩
  | row e sz l => simp only [ObjR, hv]; exact h
  | arr e sz m cs =>
    obtain ⟨h1, h2, vs, h3, h4, h5⟩ := h
    exact ⟨h1, h2, vs, h3, h4, fun i hi u hu => ⟨vm (h5 i hi u hu).1, (h5 i hi u hu).2⟩⟩
  | frz l => simp only [ObjR, hv]; exact h
  | map ks vs => simp only [ObjR, hv]; exact h
def notCall (o : Oper) : Bool := match o.op with
  | .call _ => false
  | _ => true
variable {ops : Array Oper} {n1 : Nat}
theorem op_quiet' {m : Nat} (hΓ : ∀ f s, Γ f = some s → SpecOK P f s) {Q : Exit → Act → World → Prop} {i : Nat} (hi : ops[i]? = some o) {x : AV} (h1 : qval P Γ ops H sl o = some x)
    (hs : St c H θ w sl a) (hm : H.next ≤ m) (hk : H.bnd m) (hno : notCall o = true) {K : Act → World → Prop} (hK : ∀ a' w' θ', St c H θ' w' (putA sl o.dst x) a' → Kept c w w' → HLe H θ H θ' → K a' w') : wpOp P ops Q i K a w := by
  unfold wpOp
  simp only [hi]
  unfold qval at h1
  split at h1
  · rename_i hw
    have hwant := wanted_sound hs hw
    rw [if_pos hwant]
    exact .inl (qstep_sound' hΓ hs hm hk (.inr fun cl h => by unfold notCall at hno; rw [h] at hno; cases hno) h1 K Q fun v w' θ' hv hs' hk' hl' => hK _ _ _ (hs'.putA hv _) hk' hl')
  · rename_i hw
    have hwant := wanted_sound hs hw
    simp only [Option.some.injEq] at h1
    subst h1
    rw [if_neg (by rw [hwant]; simp)]
    exact hK _ _ _ (hs.putA vr_undef _) (.refl c w) (HLe.refl _ _)
  · cases h1
theorem op_alloc {Q : Exit → Act → World → Prop} {i k : Nat} (hi : ops[i]? = some o) {e : TypeId} {z : Value} {cs : List AV} (ho : o.op = .alloc e) (hw : wantedA ops sl o = some true) (hz : tzero P e = some z) (hc : (cav z).cells = some cs)
    (hs : St c H θ w sl a) (hk : ¬ H.ref k) {K : Act → World → Prop} (hK : ∀ a' w' θ', St c (H.set k (.box cs)) θ' w' (putA sl o.dst (.ptr k 0)) a' → Kept c w w' → HLe H θ (H.set k (.box cs)) θ' → K a' w') : wpOp P ops Q i K a w := by
  unfold wpOp
  simp only [hi]
  rw [if_pos (wanted_sound hs hw)]
  exact .inl (y_alloc hs hk ho hz hc K Q fun v w' θ' hv hs' hk' hl' => hK _ _ _ (hs'.putA hv _) hk' hl')
def allocAt (ops : Array Oper) (i : Nat) : Bool := match ops[i]? with
  | some o => o.guard.isNone && match o.op with
    | .alloc _ => true
    | _ => false
  | none => false
theorem allocAt_spec {nst : Bool} {i k : Nat} {sl' : List AV} {H2 : Heap} (h : allocAt ops i = true) (hi : ops[i]? = some o) (hr : runOp P Γ nst k ops o sl H = some (sl', H2)) :
    ∃ e z cs, o.op = .alloc e ∧ (∀ sl, wantedA ops sl o = some true) ∧ tzero P e = some z ∧ (cav z).cells = some cs ∧ sl' = putA sl o.dst (.ptr k 0) ∧ H2 = H.set k (.box cs) := by
  unfold allocAt at h
  rw [hi] at h
  simp only [Bool.and_eq_true, Option.isNone_iff_eq_none] at h
  obtain ⟨hg, ho⟩ := h
  have hw : ∀ sl, wantedA ops sl o = some true := fun sl => by unfold wantedA; rw [hg]
  unfold runOp at hr
  rw [hw] at hr
  dsimp only at hr
  split at ho
  · rename_i e he
    rw [he] at hr
    simp only [astep] at hr
    split at hr
    · rename_i r H' hb
      simp only [Option.some.injEq, Prod.mk.injEq] at hr
      obtain ⟨rfl, rfl⟩ := hr
      split at hb
      · rename_i z hz
        unfold boxOf at hb
        split at hb
        · rename_i cs hc
          simp only [Option.some.injEq, Prod.mk.injEq] at hb
          obtain ⟨rfl, rfl⟩ := hb
          exact ⟨e, z, cs, he, hw, hz, hc, rfl, rfl⟩
        · cases hb
      · cases hb
    · cases hr
  · cases ho
def laneOrd4 (ops : Array Oper) (n1 : Nat) (bs : List Bool) (f g : Nat) : Bool :=
  ((decide (f < g) && decide (g < n1)) && (allocAt ops f && allocAt ops g)) && (((List.range g).all fun i => bs.getD i false == (i == f)) && bs.getD g false) &&
  (List.range n1).all fun j => !bs.getD j false || (List.range j).all fun i => !bs.getD i false || (i == f && j == g) || beforeB ops 8 j i
structure L4 (ops : Array Oper) (n1 : Nat) (bs : List Bool) (f g : Nat) : Prop where
  fg : f < g
  gn : g < n1
  af : allocAt ops f = true
  ag : allocAt ops g = true
  bf : bs.getD f false = true
  bg : bs.getD g false = true
  no : ∀ i, i < g → i ≠ f → bs.getD i false = false
  ord : ∀ i j, j < n1 → i < j → bs.getD j false = true → bs.getD i false = true → (i = f ∧ j = g) ∨ beforeB ops 8 j i = true
theorem laneOrd4_spec {bs : List Bool} {f g : Nat} (h : laneOrd4 ops n1 bs f g = true) : L4 ops n1 bs f g := by
  unfold laneOrd4 at h
  simp only [Bool.and_eq_true, decide_eq_true_eq, List.all_eq_true, List.mem_range, beq_iff_eq] at h
  obtain ⟨⟨⟨⟨h1, h2⟩, h3, h4⟩, h5, h6⟩, h7⟩ := h
  refine ⟨h1, h2, h3, h4, ?_, h6, fun i hi hif => ?_, fun i j hj hij hbj hbi => ?_⟩
  · rw [h5 f h1]; simp
  · rw [h5 i hi]; simpa using hif
  · have := h7 j hj
    simp only [hbj, Bool.not_true, Bool.false_or, List.all_eq_true, List.mem_range, Bool.or_eq_true, Bool.not_eq_true', Bool.and_eq_true, beq_iff_eq] at this
    rcases this i hij with (h | h) | h
    · rw [hbi] at h; cases h
    · exact .inl h
    · exact .inr h
variable {L : Nat → List AV} {Hs : Nat → Heap}
theorem draw_lane4 {nst : Bool} {n f g : Nat} {Hx : Heap} {qs : List (Nat × List AV × Oper × AV)} {bs : List Bool} (hΓ : ∀ f s, Γ f = some s → SpecOK P f s) (hd : drawOK ops n1 = true) (hf : L4 ops n1 bs f g) (hX : ∀ og e z cs, ops[g]? = some og → og.op = .alloc e → tzero P e = some z → (cav z).cells = some cs → Hx = (Hs f).set (n + g) (.box cs))
    (hL : ∀ i o, i < n1 → ops[i]? = some o → LStep3 P Γ nst ops n qs i o (bs.getD i false) (L i) (L (i + 1)) (Hs i) (Hs (i + 1)))
    (hkeep : ∀ i, i ≤ n1 → ∀ q ∈ qs, (∃ m, m < i ∧ m < n1 ∧ bs.getD m false = true ∧ beforeB ops 8 m q.1 = true) ∨ qval P Γ ops (Hs i) q.2.1 q.2.2.1 = some q.2.2.2) (hkeepX : ∀ q ∈ qs, beforeB ops 8 g q.1 = true ∨ (notCall q.2.2.1 = true ∧ qval P Γ ops Hx q.2.1 q.2.2.1 = some q.2.2.2)) (hbd0 : (Hs f).bnd (Hs f).next) (hnext : ∀ i, i ≤ n1 → (Hs i).next ≤ n + i)
    {Q : Exit → Act → World → Prop} : ∀ (m : Nat) (x : Bool) (todo : List Nat) (listed : Array Bool) (cur : List AV) (p : Nat) (θ : Nat → Value) (w : World) (a : Act), todo.length = m → todo.Nodup → (∀ i, i ∈ todo ↔ i < n1 ∧ listed.getD i false = false) →
    Mid ops n1 L listed cur → p ≤ n1 → (x = true → p = f) → (∀ i, i < n1 → bs.getD i false = true → (listed.getD i false = true ↔ i < p ∨ (x = true ∧ i = g))) → (x = false → (Hs p).bnd (Hs p).next) → St c (if x then Hx else Hs p) θ w cur a →
    (∀ listed' θ' w' a', (∀ i, i < ops.size → listed'.getD i true = decide (i < n1)) → listed'.size = ops.size → St c (Hs n1) θ' w' (L n1) a' → (Hs n1).bnd (Hs n1).next → Kept c w w' → HLe (if x then Hx else Hs p) θ (Hs n1) θ' → wpAny P .any ops Q (ops.size - n1) listed' a' w') →
    wpAny P .any ops Q (todo.length + (ops.size - n1)) listed a w := by
  obtain ⟨hn1, hspec⟩ := drawOK_spec hd
  have hLx : Lex ops n1 L := fun i o h1 h2 => by
    rcases hL i o h1 h2 with ⟨_, H2, h3, _⟩ | ⟨_, _, x, _, h3⟩
    · obtain ⟨x, h4, _⟩ := runOp_congr (sl := L i) (fun t _ => rfl) rfl h3; exact ⟨x, h4⟩
    · exact ⟨x, h3⟩
  have hcalm : ∀ p q, p ≤ q → q ≤ n1 → (∀ i, p ≤ i → i < q → bs.getD i false = false) → Hs q = Hs p := by
    intro p q
    induction q with
    | zero => intro h _ _; rw [Nat.le_zero.1 h]
    | succ q ih =>
      intro h1 h2 h3
      by_cases hpq : p = q + 1
      · rw [hpq]
      · obtain ⟨o, hoq⟩ : ∃ o, ops[q]? = some o := ⟨_, Array.getElem?_eq_getElem (by omega)⟩
        rcases hL q o (by omega) hoq with ⟨h4, _⟩ | ⟨_, h4, _⟩
        · rw [h3 q (by omega) (by omega)] at h4; cases h4
        · rw [h4]; exact ih (by omega) (by omega) fun i h5 h6 => h3 i h5 (by omega)
  have hff : ∃ of, ops[f]? = some of := ⟨_, Array.getElem?_eq_getElem (Nat.lt_of_lt_of_le (Nat.lt_trans hf.fg hf.gn) hn1)⟩
  have hgg : ∃ og, ops[g]? = some og := ⟨_, Array.getElem?_eq_getElem (Nat.lt_of_lt_of_le hf.gn hn1)⟩
  obtain ⟨of, hof⟩ := hff
  obtain ⟨og, hog⟩ := hgg
  have hfn : f < n1 := Nat.lt_trans hf.fg hf.gn
  have hgn := hf.gn
  have hfg := hf.fg
  obtain ⟨ef, zf, csf, of1, of2, of3, of4, of5, of6⟩ : ∃ e z cs, of.op = .alloc e ∧ (∀ sl, wantedA ops sl of = some true) ∧ tzero P e = some z ∧ (cav z).cells = some cs ∧ L (f + 1) = putA (L f) of.dst (.ptr (n + f) 0) ∧ Hs (f + 1) = ((Hs f).set (n + f) (.box cs)).bump (n + f + 1) := by
    rcases hL f of hfn hof with ⟨_, H2, h1, _, h3⟩ | ⟨h1, _⟩
    · obtain ⟨e, z, cs, h4, h5, h6, h7, h8, h9⟩ := allocAt_spec hf.af hof h1
      exact ⟨e, z, cs, h4, h5, h6, h7, h8, by rw [h3, h9]⟩
    · rw [hf.bf] at h1; cases h1
  have hgf : Hs g = Hs (f + 1) := hcalm (f + 1) g hfg (by omega) fun i h1 h2 => hf.no i h2 (by omega)
  obtain ⟨eg, zg, csg, og1, og2, og3, og4, og5, og6⟩ : ∃ e z cs, og.op = .alloc e ∧ (∀ sl, wantedA ops sl og = some true) ∧ tzero P e = some z ∧ (cav z).cells = some cs ∧ L (g + 1) = putA (L g) og.dst (.ptr (n + g) 0) ∧ Hs (g + 1) = ((Hs g).set (n + g) (.box cs)).bump (n + g + 1) := by
    rcases hL g og hgn hog with ⟨_, H2, h1, _, h3⟩ | ⟨h1, _⟩
    · obtain ⟨e, z, cs, h4, h5, h6, h7, h8, h9⟩ := allocAt_spec hf.ag hog h1
      exact ⟨e, z, cs, h4, h5, h6, h7, h8, by rw [h3, h9]⟩
    · rw [hf.bg] at h1; cases h1
  have hXe : Hx = (Hs f).set (n + g) (.box csg) := hX og eg zg csg hog og1 og3 og4
  have hnf : (Hs f).next ≤ n + f := hnext f (by omega)
  have hXn : Hx.next = (Hs f).next := by rw [hXe]; rfl
  have hXb : Hx.bnd (n + g + 1) := fun o ho => by
    rw [hXe, Heap.get_set] at ho
    split at ho
    · omega
    · have := hbd0 o ho; omega
  intro m
  induction m with
  | zero =>
    intro x todo listed cur p θ w a hlen hnd htodo hm hp hxf hpl hbd hs hK
    have hnil : todo = [] := List.eq_nil_of_length_eq_zero hlen
    subst hnil
    have hall : ∀ i, i < n1 → listed.getD i false = true := fun i hi => by
      cases hb : listed.getD i false
      · exact absurd ((htodo i).2 ⟨hi, hb⟩) (by simp)
      · rfl
    have hx : x = false := by
      cases x with
      | false => rfl
      | true =>
        have h1 := (hpl f hfn hf.bf).1 (hall f hfn)
        have h2 := hxf rfl
        omega
    subst hx
    have hbd := hbd rfl
    have hpl : ∀ i, i < n1 → bs.getD i false = true → (listed.getD i false = true ↔ i < p) := fun i h1 h2 => by simpa using hpl i h1 h2
    simp only [Bool.false_eq_true, if_false] at hs hK
    have hH : Hs n1 = Hs p := hcalm p n1 hp (Nat.le_refl _) fun i h1 h2 => by
      cases hb : bs.getD i false with
      | false => rfl
      | true => have := (hpl i h2 hb).1 (hall i h2); omega
    rw [List.length_nil, Nat.zero_add]
    refine hK listed θ w a (fun i hi => ?_) hm.size ?_ (by rw [hH]; exact hbd) (Kept.refl c w) (by rw [hH]; exact HLe.refl _ _)
    · rw [getD_sz (by rw [hm.size]; exact hi) true false]
      by_cases h1 : i < n1
      · rw [hall i h1]; simp [h1]
      · cases hb : listed.getD i false
        · simp [h1]
        · exact absurd (hm.below i hb) h1
    · rw [← hm.done hd hLx hall, hH]; exact hs
  | succ m ih =>
    intro x todo listed cur p θ w a hlen hnd htodo hm hp hxf hpl hbd hs hK
    rw [hlen, show m + 1 + (ops.size - n1) = m + (ops.size - n1) + 1 from by omega]
    have hex : ∀ j, j ∈ todo → Region.ready .any ops listed ≠ [] := by
      intro j
      induction j using Nat.strongRecOn with
      | _ j ihj =>
        intro hj
        obtain ⟨hj1, hun⟩ := (htodo j).1 hj
        obtain ⟨oj, hoj⟩ : ∃ o, ops[j]? = some o := ⟨_, Array.getElem?_eq_getElem (by omega)⟩
        by_cases hall : ∀ e ∈ oj.after, Region.binds .any e = true → listed.getD e.on false = true
        · intro hnil
          have : j ∈ Region.ready .any ops listed := by
            rw [mem_ready]
            exact ⟨by rw [getD_sz (by rw [hm.size]; omega) true false]; exact hun, oj, hoj, hall⟩
          rw [hnil] at this
          simp at this
        · simp only [Classical.not_forall] at hall
          obtain ⟨e, he, hb, hne⟩ := hall
          have h3 := (hspec j oj hoj).1 e he hb
          exact ihj e.on h3 ((htodo e.on).2 ⟨by omega, by simpa using hne⟩)
    refine ⟨fun hr => ?_, fun j hj => ?_⟩
    · cases todo with
      | nil => simp at hlen
      | cons j r => exact absurd hr (hex j (by simp))
    rw [mem_ready] at hj
    obtain ⟨h0, oj, hoj, hr⟩ := hj
    have hlt : j < ops.size := (Array.getElem?_eq_some_iff.1 hoj).1
    have hun : listed.getD j false = false := by rw [getD_sz (by rw [hm.size]; exact hlt) false true]; exact h0
    have hj1 : j < n1 := by
      rcases Nat.lt_or_ge j n1 with h1 | h1
      · exact h1
      · exfalso
        cases todo with
        | nil => simp at hlen
        | cons i r =>
          obtain ⟨hi1, hiu⟩ := (htodo i).1 (by simp)
          obtain ⟨oi, hoi⟩ : ∃ o, ops[i]? = some o := ⟨_, Array.getElem?_eq_getElem (by omega)⟩
          rcases (hspec j oj hoj).2 i oi hoi (by omega) with ⟨e, he, hb, hon⟩ | ⟨h4, _⟩
          · have := hr e he hb
            rw [hon] at this
            rw [this] at hiu; cases hiu
          · omega
    have hlook : ∀ t ∈ oj.looksAt ops, cur.getD t .junk = (L j).getD t .junk := fun t ht => hm.look hd hLx hoj hj1 hun hr ht
    have hmem : j ∈ todo := (htodo j).2 ⟨hj1, hun⟩
    have hlen' : (todo.erase j).length = m := by rw [List.length_erase_of_mem hmem, hlen]; rfl
    have htodo' : ∀ i, i ∈ todo.erase j ↔ i < n1 ∧ (listed.setIfInBounds j true).getD i false = false := fun i => by
      rw [hnd.mem_erase_iff, htodo i, listed_set (by rw [hm.size]; exact hlt)]
      by_cases hij : i = j
      · subst hij; simp
      · simp [hij]
    cases x with
    | true =>
      have hpf := hxf rfl
      subst hpf
      simp only [if_true] at hs hK
      have hfu : listed.getD p false = false := by
        cases hb : listed.getD p false with
        | false => rfl
        | true => have := (hpl p hfn hf.bf).1 hb; omega
      rcases hL j oj hj1 hoj with ⟨hbj, H2, hrun, hk2, hH2⟩ | ⟨hbj, hHq, y, hx, hLj⟩
      · have hjf : j = p := by
          rcases Nat.lt_trichotomy j p with h | h | h
          · rw [hf.no j (by omega) (by omega)] at hbj; cases hbj
          · exact h
          · exfalso
            have hjg : j ≠ g := by
              rintro rfl
              have := (hpl j hj1 hbj).2 (.inr ⟨rfl, rfl⟩)
              rw [hun] at this; cases this
            rcases hf.ord p j hj1 h hbj hf.bf with ⟨_, h2⟩ | hb
            · exact hjg h2
            · unfold beforeB at hb
              rw [hoj] at hb
              simp only [List.any_eq_true, Bool.and_eq_true, Bool.or_eq_true, beq_iff_eq] at hb
              obtain ⟨e, he, hbe, h⟩ := hb
              have h1 := hr e (by simpa using he) hbe
              have h2 : listed.getD p false = true := by
                rcases h with rfl | h
                · exact h1
                · exact before_listed hm.closed 7 e.on p h h1
              rw [hfu] at h2; cases h2
        subst hjf
        rw [hof] at hoj
        cases hoj
        have hfree : ¬ Hx.ref (n + j) := by
          rintro (h | h)
          · rw [hXn] at h; omega
          · rw [hXe, Heap.get_set, if_neg (by omega)] at h
            have := hbd0 _ h; omega
        refine op_alloc hof of1 (of2 _) of3 of4 hs hfree fun a' w' θ' hs' hk' hl' => ?_
        have hget : ∀ o, (Hs (g + 1)).get o = (Hx.set (n + j) (.box csf)).get o := fun o => by
          rw [og6, hgf, of6, hXe]
          show (((Hs j).set (n + j) (.box csf)).set (n + g) (.box csg)).get o = _
          rw [Heap.get_set, Heap.get_set, Heap.get_set, Heap.get_set]
          by_cases h1 : o = n + g
          · subst h1; rw [if_pos rfl, if_neg (by omega), if_pos rfl]
          · rw [if_neg h1, if_neg h1]
        have hnx : (Hx.set (n + j) (.box csf)).next ≤ (Hs (g + 1)).next := by
          rw [og6]
          show Hx.next ≤ n + g + 1
          omega
        have hs2 := hs'.congr hget hnx
        have hl2 := hl'.congr hget hnx
        have hbd2 : (Hs (g + 1)).bnd (Hs (g + 1)).next := fun o ho => by
          rw [hget, Heap.get_set] at ho
          rw [og6]
          show o < n + g + 1
          split at ho
          · omega
          · exact hXb o ho
        have := ih false (todo.erase j) (listed.setIfInBounds j true) (putA cur of.dst (.ptr (n + j) 0)) (g + 1) θ' w' a' hlen' (hnd.erase j) htodo' (hm.next hd hLx hof hj1 hun hr of5) (by omega) (fun h => by cases h)
          (fun i hi hbi => by
            rw [listed_set (by rw [hm.size]; exact hlt)]
            simp only [Bool.or_eq_true, decide_eq_true_eq, Bool.false_eq_true, false_and, or_false]
            constructor
            · rintro (rfl | h)
              · omega
              · rcases (hpl i hi hbi).1 h with h | ⟨_, h⟩ <;> omega
            · intro h
              by_cases h1 : i = j
              · exact .inl h1
              · refine .inr ((hpl i hi hbi).2 ?_)
                by_cases h2 : i = g
                · exact .inr ⟨rfl, h2⟩
                · rw [hf.no i (by omega) h1] at hbi; cases hbi) (fun _ => hbd2) (by simpa using hs2) fun l2 θ2 w2 a2 h1 h2 h3 h4 h5 h6 => hK l2 θ2 w2 a2 h1 h2 h3 h4 (hk'.trans h5) (hl2.trans (by simpa using h6))
        rw [hlen'] at this
        exact this
      · rcases hkeepX _ hx with h | ⟨hnc, hq0⟩
        · have h5 := (hpl g hgn hf.bg).2 (.inr ⟨rfl, rfl⟩)
          have := before_listed hm.closed 8 g j h h5
          rw [hun] at this; cases this
        · have hq : qval P Γ ops Hx cur oj = some y := by rw [← hq0]; exact qval_congr hlook
          refine op_quiet' (m := n + g + 1) hΓ hoj hq hs (by omega) hXb hnc fun a' w' θ' hs' hk' hl' => ?_
          have := ih true (todo.erase j) (listed.setIfInBounds j true) (putA cur oj.dst y) p θ' w' a' hlen' (hnd.erase j) htodo' (hm.next hd hLx hoj hj1 hun hr hLj) hp (fun _ => rfl)
            (fun i hi hbi => by
              rw [listed_set (by rw [hm.size]; exact hlt)]
              have : i ≠ j := by rintro rfl; rw [hbj] at hbi; cases hbi
              simp only [this, decide_false, Bool.false_or]
              simpa using hpl i hi hbi) (fun h => by cases h) (by simpa using hs') fun l2 θ2 w2 a2 h1 h2 h3 h4 h5 h6 => hK l2 θ2 w2 a2 h1 h2 h3 h4 (hk'.trans h5) (hl'.trans (by simpa using h6))
          rw [hlen'] at this
          exact this
    | false =>
    have hbd := hbd rfl
    have hpl : ∀ i, i < n1 → bs.getD i false = true → (listed.getD i false = true ↔ i < p) := fun i h1 h2 => by simpa using hpl i h1 h2
    simp only [Bool.false_eq_true, if_false] at hs hK
    by_cases hsp : j = g ∧ listed.getD f false = false
    · -- the second box comes first
      obtain ⟨rfl, hfu⟩ := hsp
      have hpl : ∀ i, i < n1 → bs.getD i false = true → (listed.getD i false = true ↔ i < p) := fun i h1 h2 => by simpa using hpl i h1 h2
      rw [hog] at hoj
      cases hoj
      have hpf : p ≤ f := by
        rcases Nat.lt_or_ge f p with h | h
        · have := (hpl f hfn hf.bf).2 h
          rw [hfu] at this; cases this
        · exact h
      have hpe : Hs f = Hs p := hcalm p f hpf (by omega) fun i h1 h2 => hf.no i (by omega) (by omega)
      have hfree : ¬ (Hs f).ref (n + j) := by
        rintro (h | h)
        · omega
        · have := hbd0 _ h; omega
      rw [← hpe] at hs hK
      refine op_alloc hog og1 (og2 _) og3 og4 hs hfree fun a' w' θ' hs' hk' hl' => ?_
      rw [← hXe] at hs' hl'
      have := ih true (todo.erase j) (listed.setIfInBounds j true) (putA cur og.dst (.ptr (n + j) 0)) f θ' w' a' hlen' (hnd.erase j) htodo' (hm.next hd hLx hog hj1 hun hr og5) (by omega) (fun _ => rfl)
        (fun i hi hbi => by
          rw [listed_set (by rw [hm.size]; exact hlt)]
          simp only [Bool.or_eq_true, decide_eq_true_eq, true_and]
          constructor
          · rintro (rfl | h)
            · exact .inr rfl
            · have := (hpl i hi hbi).1 h; omega
          · rintro (h | h)
            · rw [hf.no i (by omega) (by omega)] at hbi; cases hbi
            · exact .inl h) (fun h => by cases h) (by simpa using hs') fun l2 θ2 w2 a2 h1 h2 h3 h4 h5 h6 => hK l2 θ2 w2 a2 h1 h2 h3 h4 (hk'.trans h5) (hl'.trans (by simpa using h6))
      rw [hlen'] at this
      exact this
    rcases hL j oj hj1 hoj with ⟨hbj, H2, hrun, hk2, hH2⟩ | ⟨hbj, hHq, x, hx, hLj⟩
    · -- it changes objects: all such before it are done, none behind it
      have hlow : ∀ i, i < j → bs.getD i false = true → listed.getD i false = true := fun i hij hbi => by
        rcases hf.ord i j hj1 hij hbj hbi with ⟨h1, h2⟩ | hb
        · cases hb : listed.getD i false with
          | true => rfl
          | false => rw [h1] at hb; exact absurd ⟨h2, hb⟩ hsp
        unfold beforeB at hb
        rw [hoj] at hb
        simp only [List.any_eq_true, Bool.and_eq_true, Bool.or_eq_true, beq_iff_eq] at hb
        obtain ⟨e, he, hbe, h⟩ := hb
        have h1 := hr e (by simpa using he) hbe
        rcases h with rfl | h
        · exact h1
        · exact before_listed hm.closed 7 e.on i h h1
      have hhigh : ∀ i, i < n1 → j < i → bs.getD i false = true → listed.getD i false = false := fun i hi hji hbi => by
        cases hb : listed.getD i false with
        | false => rfl
        | true =>
          rcases hf.ord j i hi hji hbi hbj with ⟨h1, h2⟩ | hb2
          · have h3 := (hpl i hi hbi).1 hb
            have h4 := (hpl j hj1 hbj).2 (by omega)
            rw [hun] at h4; cases h4
          have := before_listed hm.closed 8 i j hb2 hb
          rw [hun] at this; cases this
      have hpj : Hs j = Hs p := by
        rcases Nat.le_total p j with h1 | h1
        · exact hcalm p j h1 (by omega) fun i h2 h3 => by
            cases hb : bs.getD i false with
            | false => rfl
            | true => have := (hpl i (by omega) hb).1 (hlow i h3 hb); omega
        · refine (hcalm j p h1 hp fun i h2 h3 => ?_).symm
          cases hb : bs.getD i false with
          | false => rfl
          | true =>
            have h4 := (hpl i (by omega) hb).2 h3
            rcases Nat.lt_or_ge j i with h5 | h5
            · rw [hhigh i (by omega) h5 hb] at h4; cases h4
            · obtain rfl : i = j := by omega
              rw [hun] at h4; cases h4
      obtain ⟨x, hx1, hx2⟩ := runOp_congr hlook (hm.len j (by omega)).symm hrun
      rw [hpj] at hx2
      have hn2 : (Hs p).next ≤ n + j := by rw [← hpj]; exact hnext j (by omega)
      refine op_any hΓ hoj hx2 hs (fun o ho => Nat.lt_of_lt_of_le (hbd o ho) hn2) hn2 fun a' w' θ' hs' hkey hk' hl' => ?_
      have hn3 : H2.next ≤ n + j + 1 := Nat.le_trans (nextK_ge _ _) hk2
      have hs2 : St c (Hs (j + 1)) θ' w' (putA cur oj.dst x) a' := by rw [hH2]; exact hs'.bump hn3
      have hl2 : HLe (Hs p) θ (Hs (j + 1)) θ' := by rw [hH2]; exact hl'.trans (HLe.bump hn3)
      have hbd2 : (Hs (j + 1)).bnd (Hs (j + 1)).next := by
        rw [hH2]
        exact fun o ho => Nat.lt_of_lt_of_le (hkey.2 o ho) hk2
      have := ih false (todo.erase j) (listed.setIfInBounds j true) (putA cur oj.dst x) (j + 1) θ' w' a' hlen' (hnd.erase j) htodo' (hm.next hd hLx hoj hj1 hun hr hx1) (by omega) (fun h => by cases h)
        (fun i hi hbi => by
          simp only [Bool.false_eq_true, false_and, or_false]
          rw [listed_set (by rw [hm.size]; exact hlt)]
          simp only [Bool.or_eq_true, decide_eq_true_eq]
          constructor
          · rintro (rfl | h)
            · omega
            · rcases Nat.lt_or_ge j i with h5 | h5
              · rw [hhigh i hi h5 hbi] at h; cases h
              · omega
          · intro h
            rcases Nat.lt_or_ge i j with h5 | h5
            · exact .inr (hlow i h5 hbi)
            · exact .inl (by omega)) (fun _ => hbd2) (by simpa using hs2) fun l2 θ2 w2 a2 h1 h2 h3 h4 h5 h6 => hK l2 θ2 w2 a2 h1 h2 h3 h4 (hk'.trans h5) (hl2.trans (by simpa using h6))
      rw [hlen'] at this
      exact this
    · have hq0 : qval P Γ ops (Hs p) (L j) oj = some x := by
        rcases hkeep p hp _ hx with ⟨m2, h1, h2, h3, h4⟩ | h
        · have h5 := (hpl m2 h2 h3).2 h1
          have := before_listed hm.closed 8 m2 j h4 h5
          rw [hun] at this; cases this
        · exact h
      have hq : qval P Γ ops (Hs p) cur oj = some x := by rw [← hq0]; exact qval_congr hlook
      refine op_quiet hΓ hoj hq hs hbd fun a' w' θ' hs' hk' hl' => ?_
      have := ih false (todo.erase j) (listed.setIfInBounds j true) (putA cur oj.dst x) p θ' w' a' hlen' (hnd.erase j) htodo' (hm.next hd hLx hoj hj1 hun hr hLj) hp (fun h => by cases h)
        (fun i hi hbi => by
          simp only [Bool.false_eq_true, false_and, or_false]
          rw [listed_set (by rw [hm.size]; exact hlt)]
          have : i ≠ j := by rintro rfl; rw [hbj] at hbi; cases hbi
          simp only [this, decide_false, Bool.false_or]
          exact hpl i hi hbi) (fun _ => hbd) (by simpa using hs') fun l2 θ2 w2 a2 h1 h2 h3 h4 h5 h6 => hK l2 θ2 w2 a2 h1 h2 h3 h4 (hk'.trans h5) (hl'.trans (by simpa using h6))
      rw [hlen'] at this
      exact this
def allX (P : Program) (Γ : FuncId → Option CSpec) (ops : Array Oper) (g : Nat) (H : Heap) : List (Nat × List AV × Oper × AV) → Prop
  | [] => True
  | q :: qs => (beforeB ops 8 g q.1 = true ∨ (notCall q.2.2.1 = true ∧ qval P Γ ops H q.2.1 q.2.2.1 = some q.2.2.2)) ∧ allX P Γ ops g H qs
theorem allX.at {g : Nat} {H : Heap} : ∀ {qs : List (Nat × List AV × Oper × AV)}, allX P Γ ops g H qs → ∀ q ∈ qs, beforeB ops 8 g q.1 = true ∨ (notCall q.2.2.1 = true ∧ qval P Γ ops H q.2.1 q.2.2.1 = some q.2.2.2)
  | [], _, q, h => by cases h
  | q' :: qs, h, q, hq => by
    rcases List.mem_cons.1 hq with rfl | hq
    · exact h.1
    · exact allX.at h.2 q hq
theorem awp_lane4 {id : Nat} {nst nst' : Bool} {Q : Exit → List AV → Heap → Prop} (bs : List Bool) (hmix : P.follows .mixedOrders = true) (hΓ : ∀ f s, Γ f = some s → SpecOK P f s) (hd : drawOK ops n1 = true) (f g : Nat) (ho : laneOrd4 ops n1 bs f g = true) {tab tab1 tab' tabx : List (Nat × Obj)} {n m k1 kg mx : Nat} {og : Oper} {slx : List AV} {sl1 sl' : List AV}
    {hs0 : List (List Nat × Heap)} {qs : List (Nat × List AV × Oper × AV)} (h1 : Lane3 P Γ nst ops n 0 (ops.toList.take n1) bs sl ⟨tab, n⟩ [] sl1 ⟨tab1, k1⟩ hs0 qs) (hog : ops[g]? = some og) (hkg : n + g = kg) (hgx : runOp P Γ nst kg ops og sl ⟨tab, n⟩ = some (slx, ⟨tabx, mx⟩)) (hallx : allX P Γ ops g ⟨tabx, mx⟩ qs) (hall : allQ' P Γ ops (([], ⟨tab, n⟩) :: hs0) qs)
    (h2 : runOps P Γ nst' ops (n + n1) (ops.toList.drop n1) sl1 ⟨tab1, k1⟩ = some (sl', ⟨tab', m⟩)) (hQ : Q .normal sl' ⟨tab', m⟩) : awp P c (.region id ops true) Q sl ⟨tab, n⟩ := by
  intro θ w a hs
  obtain ⟨hn1, hspec⟩ := drawOK_spec hd
  have hlt : (ops.toList.take n1).length = n1 := by simp; omega
  obtain ⟨L, Hs, Ms, e1, e2, e3, e4, e6, e5⟩ := lane_states3 _ _ _ _ _ _ _ _ h1
  simp only [Nat.zero_add, hlt] at e3 e4 e5 e6
  have hL : ∀ i o, i < n1 → ops[i]? = some o → LStep3 P Γ nst ops n qs i o (bs.getD i false) (L i) (L (i + 1)) (Hs i) (Hs (i + 1)) := fun i o hi ho' => e5 i o (by rw [List.getElem?_take_of_lt hi]; simpa using ho')
  have hkeep : ∀ i, i ≤ n1 → ∀ q ∈ qs, (∃ m, m < i ∧ m < n1 ∧ bs.getD m false = true ∧ beforeB ops 8 m q.1 = true) ∨ qval P Γ ops (Hs i) q.2.1 q.2.2.1 = some q.2.2.2 := fun i hi q hq => by
    obtain ⟨h2, h3⟩ := e6 i hi
    rcases hall.at _ h2 q hq with h | h
    · rw [List.any_eq_true] at h
      obtain ⟨m, hm, hb⟩ := h
      rcases h3 m hm with h4 | ⟨k, h4, h5, h6⟩
      · cases h4
      · have : m = k := by omega
        subst this
        exact .inl ⟨m, h4, by omega, h6, hb⟩
    · exact .inr h
  have hnext : ∀ i, i ≤ n1 → (Hs i).next ≤ n + i := by
    intro i
    induction i with
    | zero => intro _; rw [e2]; exact Nat.le_refl _
    | succ i ih =>
      intro hi
      obtain ⟨o, hoi⟩ : ∃ o, ops[i]? = some o := ⟨_, Array.getElem?_eq_getElem (by omega)⟩
      rcases hL i o (by omega) hoi with ⟨_, H2, _, _, h4⟩ | ⟨_, h3, _⟩
      · rw [h4]; exact Nat.le_refl _
      · rw [h3]; have := ih (by omega); omega
  have hlenL : ∀ i, i ≤ n1 → (L i).length = sl.length := by
    intro i
    induction i with
    | zero => intro _; rw [e1]
    | succ i ih =>
      intro hi
      obtain ⟨o, hoi⟩ : ∃ o, ops[i]? = some o := ⟨_, Array.getElem?_eq_getElem (by omega)⟩
      rcases hL i o (by omega) hoi with ⟨_, H2, h3, _⟩ | ⟨_, _, x, _, h3⟩
      · obtain ⟨x, h4, _⟩ := runOp_congr (sl := L i) (fun t _ => rfl) rfl h3
        rw [h4, putA_length]; exact ih (by omega)
      · rw [h3, putA_length]; exact ih (by omega)
  have hno : ∀ i, (Array.replicate ops.size false).getD i false = false := fun i => by
    simp only [Array.getD_eq_getD_getElem?, Array.getElem?_replicate]
    split <;> rfl
  have hf := laneOrd4_spec ho
  have hsf : Hs f = ⟨tab, n⟩ := by
    have : ∀ i, i ≤ f → Hs i = Hs 0 := by
      intro i
      induction i with
      | zero => intro _; rfl
      | succ i ih =>
        intro hi
        have hfn := Nat.lt_trans hf.fg hf.gn
        have hfg := hf.fg
        obtain ⟨o, hoi⟩ : ∃ o, ops[i]? = some o := ⟨_, Array.getElem?_eq_getElem (by omega)⟩
        rcases hL i o (by omega) hoi with ⟨h1, _⟩ | ⟨_, h3, _⟩
        · rw [hf.no i (by omega) (by omega)] at h1; cases h1
        · rw [h3]; exact ih (by omega)
    rw [this f (Nat.le_refl _), e2]
  refine wp_region_any hmix ?_
  have key := draw_lane4 (c := c) (L := L) (Hs := Hs) (Hx := ⟨tabx, mx⟩) hΓ hd hf (fun og' e z cs h1 h2 h3 h4 => by
      rw [hog] at h1
      cases h1
      obtain ⟨e', z', cs', k1, k2, k3, k4, k5, k6⟩ := allocAt_spec hf.ag hog hgx
      rw [h2] at k1
      cases k1
      rw [h3] at k3
      cases k3
      rw [h4] at k4
      cases k4
      rw [k6, hsf, hkg]) hL hkeep hallx.at (by rw [hsf]; exact hs.wf) hnext (Q := fun e a' w' => ∃ sl' H' θ', Q e sl' H' ∧ StW c H' θ' w' sl' a' ∧ Kept c w w' ∧ Evo c.base ⟨tab, n⟩ θ H' θ') n1 false (List.range n1) (Array.replicate ops.size false) sl 0 θ { w with drawn := w.drawn + 1 } a (by simp) List.nodup_range
    (fun i => by rw [hno]; simp) ⟨by simp, fun i o _ h => (by rw [hno] at h; cases h), fun i h => (by rw [hno] at h; cases h), hlenL, fun t => ⟨0, Nat.zero_le _, fun i o _ _ _ => (by rw [hno]; simp), by rw [e1]⟩⟩
    (Nat.zero_le _) (fun h => by cases h) (fun i _ _ => by rw [hno]; simp) (fun _ => by rw [e2]; exact hs.wf) (by simp only [Bool.false_eq_true, if_false]; rw [e2]; exact hs.st.drawn _) fun listed' θ' w' a' hli hsz hs' hbd' hk' hl' => ?_
  · rw [List.length_range, Nat.add_sub_cancel' hn1] at key
    exact key
  · simp only [Bool.false_eq_true, if_false] at hl'
    rw [e2] at hl'
    rw [e3, e4] at hs'
    rw [e4] at hbd' hl'
    have hk1 : k1 ≤ n + n1 := by have := hnext n1 (Nat.le_refl _); rw [e4] at this; exact this
    refine draw_tail hΓ hd (ops.toList.drop n1) n1 (n + n1) listed' sl1 ⟨tab1, k1⟩ θ' w' a' sl' ⟨tab', m⟩ (Nat.le_refl _) rfl hli hsz hn1 h2 hs' (fun p hp => Nat.lt_of_lt_of_le (hbd' p hp) hk1) hk1 fun a2 w2 θ2 hs2 hb2 hn2 hk2 hl2 => ?_
    have hkk : Kept c w w2 := by
      have h3 := hk'.trans hk2
      exact ⟨h3.os, h3.tape, h3.output, h3.size, h3.block⟩
    exact ⟨sl', _, θ2, hQ, ⟨hs2, hb2, by have := hs.base; show c.base ≤ m; exact Nat.le_trans this (Nat.le_trans (Nat.le_add_right _ _) hn2)⟩, hkk, (hl'.trans hl2).evo hs.base⟩
end
theorem axp_lane4 {P : Program} {Γ : FuncId → Option CSpec} {b : Nat} {sl sl1 sl' : List AV} {tab tab1 tab' tabx : List (Nat × Obj)} {n n1 m k1 kg mx : Nat} {og : Oper} {slx : List AV} {ops : Array Oper} {Q : Exit → List AV → Heap → Prop} {id : Nat} {nst nst' : Bool} (bs : List Bool) (hmix : P.follows .mixedOrders = true) (hΓ : ∀ f s, Γ f = some s → SpecOK P f s) (hd : drawOK ops n1 = true) (f g : Nat) (ho : laneOrd4 ops n1 bs f g = true)
    {hs0 : List (List Nat × Heap)} {qs : List (Nat × List AV × Oper × AV)} (h1 : Lane3 P Γ nst ops n 0 (ops.toList.take n1) bs sl ⟨tab, n⟩ [] sl1 ⟨tab1, k1⟩ hs0 qs) (hog : ops[g]? = some og) (hkg : n + g = kg) (hgx : runOp P Γ nst kg ops og sl ⟨tab, n⟩ = some (slx, ⟨tabx, mx⟩)) (hallx : allX P Γ ops g ⟨tabx, mx⟩ qs) (hall : allQ' P Γ ops (([], ⟨tab, n⟩) :: hs0) qs)
    (h2 : runOps P Γ nst' ops (n + n1) (ops.toList.drop n1) sl1 ⟨tab1, k1⟩ = some (sl', ⟨tab', m⟩)) (hQ : Q .normal sl' ⟨tab', m⟩) : axp P b (.region id ops true) Q sl ⟨tab, n⟩ :=
  ⟨_, _, _, hQ, fun _ _ => awp_lane4 bs hmix hΓ hd f g ho h1 hog hkg hgx hallx hall h2 ⟨rfl, rfl, rfl⟩⟩
end Go.Ab
