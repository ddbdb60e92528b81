/-
  One text of the proof (own work): contracts of functions of the program, by the abstract machine.
-/
import Derived.Test.YtapnigckcnknoaaGreatDoorX10
set_option linter.unusedVariables false
set_option linter.unusedSimpArgs false
namespace Go.Ab
open Go Go.RowKit
theorem idxOf_some : ∀ {fp : List Nat} {o i : Nat}, idxOf fp o = some i → fp[i]? = some o
  | [], o, i, h => by simp [idxOf] at h
  | x :: r, o, i, h => by
    simp only [idxOf] at h
    split at h
    · rename_i he; simp only [Option.some.injEq] at h; subst h; simp [he]
    · split at h
      · rename_i j hj
        simp only [Option.some.injEq] at h
        subst h
        simpa using idxOf_some hj
      · cases h
theorem look_enumO : ∀ (os : List Obj) (n o : Nat), look (enumO n os) o = if n ≤ o then os[o - n]? else none
  | [], n, o => by simp [enumO, look]
  | x :: r, n, o => by
    simp only [enumO, look]
    by_cases h : o = n
    · subst h; simp
    · rw [if_neg h, look_enumO r (n + 1) o]
      by_cases h1 : n ≤ o
      · rw [if_pos h1, if_pos (by omega), show o - n = (o - (n + 1)) + 1 from by omega, List.getElem?_cons_succ]
      · rw [if_neg h1, if_neg (by omega)]
theorem get_enumO (os : List Obj) (m o : Nat) : (⟨enumO 0 os, m⟩ : Heap).get o = os[o]? := by
  unfold Heap.get
  rw [look_enumO]
  simp
theorem nodupB_spec : ∀ {l : List Nat}, nodupB l = true → ∀ (i j x : Nat), l[i]? = some x → l[j]? = some x → i = j
  | [], _, i, j, x, h1, _ => by simp at h1
  | y :: r, h, i, j, x, h1, h2 => by
    simp only [nodupB, Bool.and_eq_true, Bool.not_eq_true', List.contains_eq_mem, decide_eq_false_iff_not] at h
    cases i with
    | zero =>
      cases j with
      | zero => rfl
      | succ j =>
        simp only [List.getElem?_cons_zero, Option.some.injEq] at h1
        simp only [List.getElem?_cons_succ] at h2
        subst h1
        exact absurd (List.mem_of_getElem? h2) h.1
    | succ i =>
      cases j with
      | zero =>
        simp only [List.getElem?_cons_zero, Option.some.injEq] at h2
        simp only [List.getElem?_cons_succ] at h1
        subst h2
        exact absurd (List.mem_of_getElem? h1) h.1
      | succ j => rw [nodupB_spec h.2 i j x (by simpa using h1) (by simpa using h2)]
theorem getAll_spec {H : Heap} : ∀ {fp : List Nat} {objs : List Obj}, getAll H fp = some objs → objs.length = fp.length ∧ ∀ (i o : Nat), fp[i]? = some o → ∃ x, objs[i]? = some x ∧ H.get o = some x
  | [], objs, h => by simp only [getAll, Option.some.injEq] at h; subst h; simp
  | o :: r, objs, h => by
    simp only [getAll] at h
    split at h
    · rename_i x l h1 h2
      simp only [Option.some.injEq] at h
      subst h
      obtain ⟨h3, h4⟩ := getAll_spec h2
      refine ⟨by simp [h3], fun i o' hi => ?_⟩
      cases i with
      | zero => simp at hi; subst hi; exact ⟨x, rfl, h1⟩
      | succ i => simpa using h4 i o' (by simpa using hi)
    · cases h
theorem rens_length (H : Heap) (ρ : Nat → Option Nat) : ∀ l : List AV, (rens H ρ l).length = l.length
  | [] => rfl
  | x :: r => by simp [rens, rens_length H ρ r]
theorem rens_get (H : Heap) (ρ : Nat → Option Nat) : ∀ (l : List AV) (i : Nat) (h : i < (rens H ρ l).length) (h' : i < l.length), (rens H ρ l)[i] = ren H ρ l[i]
  | [], i, h, h' => by simp at h'
  | x :: r, 0, h, h' => rfl
  | x :: r, i + 1, h, h' => by
    simp only [rens, List.getElem_cons_succ]
    exact rens_get H ρ r i _ (by simpa using h')
theorem renO_evo {x y : Obj} {H H' : Heap} {ρ ρ' : Nat → Option Nat} (h : (renO H ρ x).evo y) : x.evo (renO H' ρ' y) := by
  cases x <;> cases y <;> simp_all [renO, Obj.evo]
theorem renO_rlen (x : Obj) (H : Heap) (ρ : Nat → Option Nat) : (renO H ρ x).rlen = x.rlen := by cases x <;> rfl
theorem renO_rsz (x : Obj) (H : Heap) (ρ : Nat → Option Nat) : (renO H ρ x).rsz = x.rsz := by cases x <;> rfl
theorem renO_live (x : Obj) (H : Heap) (ρ : Nat → Option Nat) : (renO H ρ x).live = x.live := by cases x <;> rfl
def home (fp : List Nat) (k i : Nat) : Nat := match fp[i]? with
  | some o => o
  | none => k + (i - fp.length)
theorem home_lt {fp : List Nat} {k i : Nat} (h : i < fp.length) : fp[i]? = some (home fp k i) := by
  unfold home
  rw [List.getElem?_eq_getElem h]
theorem home_ge {fp : List Nat} {k i : Nat} (h : fp.length ≤ i) : home fp k i = k + (i - fp.length) := by
  unfold home
  rw [List.getElem?_eq_none h]
theorem home_inj {fp : List Nat} {k : Nat} (hnd : nodupB fp = true) (hk : ∀ (i o : Nat), fp[i]? = some o → o < k) {i j : Nat} (h : home fp k i = home fp k j) : i = j := by
  rcases Nat.lt_or_ge i fp.length with h1 | h1 <;> rcases Nat.lt_or_ge j fp.length with h2 | h2
  · exact nodupB_spec hnd i j _ (home_lt h1) (h ▸ home_lt h2)
  · have := hk i _ (home_lt (k := k) h1)
    rw [home_ge h2] at h
    omega
  · have := hk j _ (home_lt (k := k) h2)
    rw [home_ge h1] at h
    omega
  · rw [home_ge h1, home_ge h2] at h
    omega
theorem putAll_out {fp : List Nat} {k o : Nat} : ∀ (os : List Obj) (tab : List (Nat × Obj)) (i : Nat), (∀ j, j < os.length → o ≠ home fp k (i + j)) → look (putAll fp k tab i os) o = look tab o
  | [], tab, i, h => rfl
  | x :: r, tab, i, h => by
    simp only [putAll]
    rw [putAll_out r _ (i + 1) (fun j hj => by rw [show i + 1 + j = i + (j + 1) from by omega]; exact h (j + 1) (by simpa using hj))]
    have h0 := h 0 (by simp)
    simp only [Nat.add_zero] at h0
    rw [look_upd, if_neg]
    exact h0
theorem putAll_in {fp : List Nat} {k : Nat} (inj : ∀ i j, home fp k i = home fp k j → i = j) : ∀ (os : List Obj) (tab : List (Nat × Obj)) (i j : Nat) (x : Obj), os[j]? = some x → look (putAll fp k tab i os) (home fp k (i + j)) = some (renO ⟨[], 0⟩ (backTo fp k) x)
  | [], tab, i, j, x, h => by simp at h
  | y :: r, tab, i, j, x, h => by
    simp only [putAll]
    cases j with
    | zero =>
      simp only [List.getElem?_cons_zero, Option.some.injEq] at h
      subst h
      rw [putAll_out r _ (i + 1) (fun j hj he => by have := inj _ _ he; omega)]
      rw [look_upd, if_pos]
      rfl
    | succ j =>
      have := putAll_in inj r (upd tab (home fp k i) (renO ⟨[], 0⟩ (backTo fp k) y)) (i + 1) j x (by simpa using h)
      rw [show i + (j + 1) = i + 1 + j from by omega]
      exact this
section
variable {P : Program} {c : Ctx} {H : Heap} {θ : Nat → Value} {w w' : World}
theorem VR.toCallee (hs : HSim c H θ w) {fp : List Nat} {objs : List Obj} {B' : Nat → Prop} (hobj : objs.length = fp.length ∧ ∀ (i o : Nat), fp[i]? = some o → ∃ x, objs[i]? = some x ∧ H.get o = some x)
    (hB : ∀ b, vis c H θ w b → B' b) {x : AV} {v : Value} (h : VR H θ w (vis c H θ w) x v) :
    VR ⟨enumO 0 (objs.map (renO H (idxOf fp))), objs.length⟩ (fun i => θ (fp.getD i 0)) w B' (ren H (idxOf fp) x) v := by
  have hθ : ∀ {o i : Nat}, idxOf fp o = some i → i < objs.length ∧ fp.getD i 0 = o ∧ ∃ y, objs[i]? = some y ∧ H.get o = some y := fun {o i} h => by
    have h1 := idxOf_some h
    obtain ⟨y, h2, h3⟩ := hobj.2 i o h1
    refine ⟨(List.getElem?_eq_some_iff.1 h2).1, by simp [List.getD, h1], y, h2, h3⟩
  have hget : ∀ {i : Nat} {y : Obj}, objs[i]? = some y → ∀ z, (⟨enumO 0 (objs.map (renO H (idxOf fp))), objs.length⟩ : Heap).get i = some z → z = renO H (idxOf fp) y := fun {i y} h z hz => by
    rw [get_enumO, List.getElem?_map, h] at hz
    simpa using hz.symm
  induction h with
  | data d v h => simp only [ren]; exact .data d v (h.mono fun b hb => ⟨hB b hb, rfl⟩)
  | junk v => simp only [ren]; exact .junk v
  | nils => simp only [ren]; exact .nils
  | ptr o off v hv hr h =>
    simp only [ren]
    split
    · rename_i o' ho
      obtain ⟨h1, h2, y, h3, h4⟩ := hθ ho
      refine .ptr o' off v hv (.inl h1) fun cs hcs => ?_
      have := hget h3 _ hcs
      cases y <;> simp [renO] at this
      rw [h2]
      exact h _ h4
    · exact .junk v
  | row o n v hv hr h =>
    simp only [ren]
    split
    · rename_i l hg
      split
      · rename_i hn
        exact .data _ _ ((frz_val hs (.row o n v hv hr h) hg hn).mono fun b hb => ⟨hB b hb, rfl⟩)
      · exact .junk v
    · split
      · rename_i o' ho
        obtain ⟨h1, h2, y, h3, h4⟩ := hθ ho
        refine .row o' n v hv (.inl h1) fun z m hz hm => ?_
        have := hget h3 _ hz
        subst this
        rw [renO_rlen] at hm
        rw [h2]
        exact h y m h4 hm
      · exact .junk v
  | rref o n i off v hv hr h =>
    simp only [ren]
    split
    · rename_i o' ho
      obtain ⟨h1, h2, y, h3, h4⟩ := hθ ho
      refine .rref o' n i off v hv (.inl h1) fun z m sz hz hm hsz => ?_
      have := hget h3 _ hz
      subst this
      rw [renO_rlen] at hm
      rw [renO_rsz] at hsz
      rw [h2]
      exact h y m sz h4 hm hsz
    · exact .junk v
  | mref o v hv hr h =>
    simp only [ren]
    split
    · rename_i o' ho
      obtain ⟨h1, h2, y, h3, h4⟩ := hθ ho
      refine .mref o' v hv (.inl h1) fun ks vs hz => ?_
      have := hget h3 _ hz
      cases y <;> simp [renO] at this
      rw [h2]
      exact h _ _ h4
    · exact .junk v
  | agg l vs u hz hv _ ih =>
    simp only [ren]
    exact .agg _ vs u (by rw [rens_length]; exact hz) (fun i hi => hv i (by rw [rens_length] at hi; exact hi)) fun i hi => by
      rw [rens_get H _ l i hi (by rw [rens_length] at hi; exact hi)]
      exact ih i (by rw [rens_length] at hi; exact hi)
  | tup l vs u hz hv _ ih =>
    simp only [ren]
    exact .tup _ vs u (by rw [rens_length]; exact hz) (fun i hi => hv i (by rw [rens_length] at hi; exact hi)) fun i hi => by
      rw [rens_get H _ l i hi (by rw [rens_length] at hi; exact hi)]
      exact ih i (by rw [rens_length] at hi; exact hi)
  | fn f l vs u hz hv _ ih =>
    simp only [ren]
    exact .fn f _ vs u (by rw [rens_length]; exact hz) (fun i hi => hv i (by rw [rens_length] at hi; exact hi)) fun i hi => by
      rw [rens_get H _ l i hi (by rw [rens_length] at hi; exact hi)]
      exact ih i (by rw [rens_length] at hi; exact hi)
  | bnd f l vs u hz hv _ ih =>
    simp only [ren]
    exact .bnd f _ vs u (by rw [rens_length]; exact hz) (fun i hi => hv i (by rw [rens_length] at hi; exact hi)) fun i hi => by
      rw [rens_get H _ l i hi (by rw [rens_length] at hi; exact hi)]
      exact ih i (by rw [rens_length] at hi; exact hi)
theorem VR.fromCallee {H2 H' : Heap} {θ2 θ' : Nat → Value} {B B' : Nat → Prop} {σ : Nat → Nat} (hB : ∀ b, B b → B' b) (href : ∀ i, H2.ref i → H'.ref (σ i))
    (hget : ∀ i z, H2.ref i → H'.get (σ i) = some z → ∃ y, H2.get i = some y ∧ z = renO ⟨[], 0⟩ (fun i => some (σ i)) y ∧ θ' (σ i) = θ2 i) {x : AV} {v : Value} (h : VR H2 θ2 w' B x v) :
    VR H' θ' w' B' (ren ⟨[], 0⟩ (fun i => some (σ i)) x) v := by
  induction h with
  | data d v h => simp only [ren]; exact .data d v (h.mono fun b hb => ⟨hB b hb, rfl⟩)
  | junk v => simp only [ren]; exact .junk v
  | nils => simp only [ren]; exact .nils
  | ptr o off v hv hr h =>
    simp only [ren]
    refine .ptr _ off v hv (href o hr) fun cs hcs => ?_
    obtain ⟨y, h1, h2, h3⟩ := hget o _ hr hcs
    cases y <;> simp [renO] at h2
    rw [h3]
    exact h _ h1
  | row o n v hv hr h =>
    simp only [ren, Heap.get, look]
    refine .row _ n v hv (href o hr) fun z m hz hm => ?_
    obtain ⟨y, h1, h2, h3⟩ := hget o _ hr hz
    subst h2
    rw [renO_rlen] at hm
    rw [h3]
    exact h y m h1 hm
  | rref o n i off v hv hr h =>
    simp only [ren]
    refine .rref _ n i off v hv (href o hr) fun z m sz hz hm hsz => ?_
    obtain ⟨y, h1, h2, h3⟩ := hget o _ hr hz
    subst h2
    rw [renO_rlen] at hm
    rw [renO_rsz] at hsz
    rw [h3]
    exact h y m sz h1 hm hsz
  | mref o v hv hr h =>
    simp only [ren]
    refine .mref _ v hv (href o hr) fun ks vs hz => ?_
    obtain ⟨y, h1, h2, h3⟩ := hget o _ hr hz
    cases y <;> simp [renO] at h2
    rw [h3]
    exact h _ _ h1
  | agg l vs u hz hv _ ih =>
    simp only [ren]
    exact .agg _ vs u (by rw [rens_length]; exact hz) (fun i hi => hv i (by rw [rens_length] at hi; exact hi)) fun i hi => by
      rw [rens_get _ _ l i hi (by rw [rens_length] at hi; exact hi)]
      exact ih i (by rw [rens_length] at hi; exact hi)
  | tup l vs u hz hv _ ih =>
    simp only [ren]
    exact .tup _ vs u (by rw [rens_length]; exact hz) (fun i hi => hv i (by rw [rens_length] at hi; exact hi)) fun i hi => by
      rw [rens_get _ _ l i hi (by rw [rens_length] at hi; exact hi)]
      exact ih i (by rw [rens_length] at hi; exact hi)
  | fn f l vs u hz hv _ ih =>
    simp only [ren]
    exact .fn f _ vs u (by rw [rens_length]; exact hz) (fun i hi => hv i (by rw [rens_length] at hi; exact hi)) fun i hi => by
      rw [rens_get _ _ l i hi (by rw [rens_length] at hi; exact hi)]
      exact ih i (by rw [rens_length] at hi; exact hi)
  | bnd f l vs u hz hv _ ih =>
    simp only [ren]
    exact .bnd f _ vs u (by rw [rens_length]; exact hz) (fun i hi => hv i (by rw [rens_length] at hi; exact hi)) fun i hi => by
      rw [rens_get _ _ l i hi (by rw [rens_length] at hi; exact hi)]
      exact ih i (by rw [rens_length] at hi; exact hi)
theorem ObjR.turn {c2 : Ctx} {H1 H2 : Heap} {θ1 θ2 : Nat → Value} {x : Obj} {v : Value} {ρ : Nat → Option Nat} {Hr : Heap} (h : ObjR c H1 θ1 w x v)
    (hd : ∀ b, vis c H1 θ1 w b → vis c2 H2 θ2 w b) (hvr : ∀ y u, VR H1 θ1 w (vis c H1 θ1 w) y u → VR H2 θ2 w (vis c2 H2 θ2 w) (ren Hr ρ y) u)
    (hown : ∀ b, x.live = true → blk v = some b → (c.n0 ≤ b ∨ c.Init b) → c2.n0 ≤ b ∨ c2.Init b) : ObjR c2 H2 θ2 w (renO Hr ρ x) v := by
  cases x with
  | box cs =>
    obtain ⟨b, e, vs, rfl, h2, h3, h4, h5⟩ := h
    refine ⟨b, e, vs, rfl, h2, by rw [rens_length]; exact h3, hown b rfl rfl h4, fun i hi u hu => ?_⟩
    have hi' : i < cs.length := by rw [rens_length] at hi; exact hi
    rw [rens_get _ _ cs i hi hi']
    exact ⟨hvr _ _ (h5 i hi' u hu).1, (h5 i hi' u hu).2⟩
  | row e sz l =>
    obtain ⟨h1, h2, h3, vs, h4, h5, h6⟩ := h
    exact ⟨h1, h2, h3, vs, h4, fun b hb => hown b rfl hb (h5 b hb), fun i hi u hu => (h6 i hi u hu).mono fun b hb => ⟨hd b hb, rfl⟩⟩
  | arr e sz n cs =>
    obtain ⟨h1, h2, vs, h4, h5, h6⟩ := h
    refine ⟨h1, by rw [rens_length]; exact h2, vs, h4, fun b hb => hown b rfl hb (h5 b hb), fun i hi u hu => ?_⟩
    have hi' : i < cs.length := by rw [rens_length] at hi; exact hi
    rw [rens_get _ _ cs i hi hi']
    exact ⟨hvr _ _ (h6 i hi' u hu).1, (h6 i hi' u hu).2⟩
  | frz l => exact DR.mono h fun b hb => ⟨hd b hb, rfl⟩
  | map ks vs =>
    obtain ⟨b, clock, es, rfl, h2, h3, h4, h5, hst, h6, h7⟩ := h
    exact ⟨b, clock, es, rfl, h2, hown b rfl rfl h3, h4, h5, hst, fun i hi e he => (h6 i hi e he).mono fun b hb => ⟨hd b hb, rfl⟩, fun i hi e he => (h7 i hi e he).mono fun b hb => ⟨hd b hb, rfl⟩⟩
  | dead => trivial
theorem ObjR.mine {x : Obj} {v : Value} (h : ObjR c H θ w x v) (hx : x.live = true) {b : Nat} (hb : blk v = some b) : c.n0 ≤ b ∨ c.Init b := by
  cases x with
  | box cs =>
    obtain ⟨b', e, vs, rfl, _, _, h4, _⟩ := h
    simp [blk] at hb
    subst hb
    exact h4
  | row e sz l => obtain ⟨_, _, _, _, _, h5, _⟩ := h; exact h5 b hb
  | arr e sz n cs => obtain ⟨_, _, _, _, h5, _⟩ := h; exact h5 b hb
  | frz l => cases hx
  | map ks vs =>
    obtain ⟨b', _, _, rfl, _, h3, _⟩ := h
    simp [blk] at hb
    subst hb
    exact h3
  | dead => cases hx
theorem callLoc_next {k : Nat} {g : List AV → List Obj → Option (AV × List Obj)} {xs : List AV} {r : AV} {H' : Heap} (h : callLoc k H g xs = some (r, H')) (hb : H.bnd k) (hn : H.next ≤ k) : k ≤ H'.next ∧ H'.bnd H'.next := by
  unfold callLoc at h
  generalize hfp : xs.foldl (foot H 6) [] = fp at h
  split at h
  · rename_i objs hobj
    split at h
    · rename_i hnd
      split at h
      · rename_i r1 os' hg
        split at h
        · rename_i hlen
          simp only [Option.some.injEq, Prod.mk.injEq] at h
          obtain ⟨rfl, rfl⟩ := h
          obtain ⟨ho1, ho2⟩ := getAll_spec hobj
          refine ⟨Nat.le_add_right _ _, fun o ho => ?_⟩
          simp only [Heap.get] at ho ⊢
          by_cases hex : ∃ j, j < os'.length ∧ o = home fp k (0 + j)
          · obtain ⟨j, hj, rfl⟩ := hex
            rw [Nat.zero_add]
            rcases Nat.lt_or_ge j fp.length with h1 | h1
            · obtain ⟨x, _, h3⟩ := ho2 j _ (home_lt (k := k) h1)
              have := hb _ (by rw [h3]; rfl)
              omega
            · rw [home_ge h1]; omega
          · rw [putAll_out os' H.tab 0 (fun j hj he => hex ⟨j, hj, he⟩)] at ho
            have := hb o ho
            omega
        · cases h
      · cases h
    · cases h
  · cases h
theorem loc_call {f : FuncId} {k : Nat} {g : List AV → List Obj → Option (AV × List Obj)} {xs : List AV} {vs : Array Value} {r : AV} {H' : Heap} (hs : HSim c H θ w) (hb : H.bnd k) (hn : H.next ≤ k) (hS : LocOK P f g) (hz : vs.size = xs.length)
    (hvs : ∀ i (hi : i < xs.length) u, vs[i]? = some u → VR H θ w (vis c H θ w) (xs[i]) u) (h : callLoc k H g xs = some (r, H')) :
    CallOK P f vs w fun v w' => ∃ θ', HSim c H' θ' w' ∧ VR H' θ' w' (vis c H' θ' w') r v ∧ Kept c w w' ∧ HLe H θ H' θ' ∧ ∀ b, vis c H θ w b → vis c H' θ' w' b ∧ w'.heap[b]? = w.heap[b]? := by
  unfold callLoc at h
  generalize hfp : xs.foldl (foot H 6) [] = fp at h
  split at h
  · rename_i objs hobj
    split at h
    · rename_i hnd
      split at h
      · rename_i r1 os' hg
        split at h
        · rename_i hlen
          simp only [Option.some.injEq, Prod.mk.injEq] at h
          obtain ⟨rfl, rfl⟩ := h
          have hspec := getAll_spec hobj
          obtain ⟨ho1, ho2⟩ := hspec
          have hfk : ∀ (i o : Nat), fp[i]? = some o → o < k := fun i o hi => by
            obtain ⟨x, _, h3⟩ := ho2 i o hi
            exact hb o (by rw [h3]; rfl)
          have hinj : ∀ i j, home fp k i = home fp k j → i = j := fun i j => home_inj hnd hfk
          let os := objs.map (renO H (idxOf fp))
          let Hl : Heap := ⟨enumO 0 os, objs.length⟩
          let θl : Nat → Value := fun i => θ (fp.getD i 0)
          have hosl : os.length = objs.length := by simp [os]
          have hlget : ∀ i y, Hl.get i = some y → ∃ o x, fp[i]? = some o ∧ objs[i]? = some x ∧ H.get o = some x ∧ y = renO H (idxOf fp) x ∧ θl i = θ o := fun i y hi => by
            simp only [Hl, get_enumO, os, List.getElem?_map, Option.map_eq_some_iff] at hi
            obtain ⟨x, hx, rfl⟩ := hi
            have hlt : i < fp.length := by have := (List.getElem?_eq_some_iff.1 hx).1; omega
            have hfi := home_lt (k := k) hlt
            obtain ⟨x', h1, h2⟩ := ho2 i _ hfi
            rw [hx] at h1
            cases h1
            exact ⟨_, x, hfi, hx, h2, rfl, by simp [θl, List.getD, hfi]⟩
          have hownl : ∀ b, own Hl θl b → ∃ (i o : Nat) (x : Obj), fp[i]? = some o ∧ H.get o = some x ∧ x.live = true ∧ blk (θ o) = some b := fun b ⟨i, y, h1, h2, h3⟩ => by
            obtain ⟨o, x, g1, g2, g3, rfl, g5⟩ := hlget i y h1
            rw [renO_live] at h2
            rw [g5] at h3
            exact ⟨i, o, x, g1, g3, h2, h3⟩
          have hownl' : ∀ b, own Hl θl b → own H θ b := fun b hb => by
            obtain ⟨i, o, x, _, h2, h3, h4⟩ := hownl b hb
            exact ⟨o, x, h2, h3, h4⟩
          let cl : Ctx := { n0 := w.heap.size, Bl := vis c H θ w, Init := own Hl θl, apart := fun b hb ho => hb.2.1 (hownl' b ho), base := os.length }
          have hvl : ∀ b, vis c H θ w b → vis cl Hl θl w b := fun b hb => ⟨hb.1, fun ho => hb.2.1 (hownl' b ho), fun _ => .inl hb⟩
          have hto : ∀ {x v}, VR H θ w (vis c H θ w) x v → VR Hl θl w (vis cl Hl θl w) (ren H (idxOf fp) x) v := fun {x v} hx => VR.toCallee hs ⟨ho1, ho2⟩ hvl hx
          have hsl : HSim cl Hl θl w := by
            refine ⟨Nat.le_refl _, fun i y hi => ?_, fun i j y z hi hj hy hz hne b h1 h2 => ?_⟩
            · obtain ⟨o, x, g1, g2, g3, rfl, g5⟩ := hlget i y hi
              rw [g5]
              exact (hs.objs o x g3).turn hvl (fun y u hy => hto hy) fun b hx hbl _ => .inr ⟨i, _, hi, by rw [renO_live]; exact hx, by rw [g5]; exact hbl⟩
            · obtain ⟨o, x, g1, g2, g3, rfl, g5⟩ := hlget i y hi
              obtain ⟨o', x', g1', g2', g3', rfl, g5'⟩ := hlget j z hj
              rw [renO_live] at hy hz
              rw [g5] at h1
              rw [g5'] at h2
              exact hs.inj o o' x x' g3 g3' hy hz (fun he => hne (by subst he; exact nodupB_spec hnd i j _ g1 g1')) b h1 h2
          have hHl : Hl = ⟨enumO 0 os, os.length⟩ := by simp only [Hl, hosl]
          obtain ⟨hcall1, hcall2⟩ := hS (rens H (idxOf fp) xs) os r1 os' hg (by rw [hosl, ho1]; exact hlen) cl θl w vs rfl (hHl ▸ hsl) (by rw [rens_length]; exact hz) (fun i hi u hu => by
            have hi' : i < xs.length := by rw [rens_length] at hi; exact hi
            rw [rens_get H _ xs i hi hi', ← hHl]
            exact hto (hvs i hi' u hu))
          refine ⟨hcall1, hcall2.mono ?_⟩
          rintro e w' ⟨v, rfl, θ2, hs2, hv2, hk2, hev2⟩
          refine ⟨v, rfl, ?_⟩
          rw [← hHl] at hev2
          let H2 : Heap := ⟨enumO 0 os', os'.length⟩
          let H' : Heap := ⟨putAll fp k H.tab 0 os', k + (os'.length - fp.length)⟩
          let θ' : Nat → Value := fun o => match (List.range os'.length).find? (fun i => home fp k i == o) with
            | some i => θ2 i
            | none => θ o
          have hθin : ∀ i, i < os'.length → θ' (home fp k i) = θ2 i := fun i hi => by
            have : (List.range os'.length).find? (fun j => home fp k j == home fp k i) = some i := by
              rw [List.find?_eq_some_iff_getElem]
              refine ⟨by simp, i, by simpa using hi, by simp, fun j hj => ?_⟩
              simp only [List.getElem_range, Bool.not_eq_true', beq_eq_false_iff_ne, ne_eq]
              intro he
              have := hinj _ _ he
              omega
            simp only [θ', this]
          have hθout : ∀ o, (∀ i, i < os'.length → o ≠ home fp k i) → θ' o = θ o := fun o ho => by
            have : (List.range os'.length).find? (fun j => home fp k j == o) = none := by
              rw [List.find?_eq_none]
              intro j hj
              simp only [List.mem_range] at hj
              simp only [beq_iff_eq]
              exact fun he => ho j hj he.symm
            simp only [θ', this]
          have h2get : ∀ i, H2.get i = os'[i]? := fun i => get_enumO _ _ _
          have hin : ∀ i y, os'[i]? = some y → H'.get (home fp k i) = some (renO ⟨[], 0⟩ (backTo fp k) y) := fun i y hi => by
            have := putAll_in hinj os' H.tab 0 i y hi
            rw [Nat.zero_add] at this
            exact this
          have hout : ∀ o, (∀ i, i < os'.length → o ≠ home fp k i) → H'.get o = H.get o := fun o ho =>
            putAll_out os' H.tab 0 (fun j hj => by rw [Nat.zero_add]; exact ho j hj)
          have hcase : ∀ o, (∃ i y, os'[i]? = some y ∧ o = home fp k i) ∨ (∀ i, i < os'.length → o ≠ home fp k i) := fun o => by
            by_cases hex : ∃ i, i < os'.length ∧ o = home fp k i
            · obtain ⟨i, hi, rfl⟩ := hex
              exact .inl ⟨i, os'[i], by simp [hi], rfl⟩
            · exact .inr fun i hi he => hex ⟨i, hi, he⟩
          have hframe : ∀ o x, H.get o = some x → (∀ i, i < os'.length → o ≠ home fp k i) → ∀ i o2, fp[i]? = some o2 → o2 ≠ o := fun o x hgo ho i o2 hi he => by
            subst he
            have hlt : i < fp.length := (List.getElem?_eq_some_iff.1 hi).1
            have := home_lt (k := k) hlt
            rw [hi] at this
            exact ho i (by omega) (Option.some.inj this)
          have hmine : ∀ b, own Hl θl b → c.n0 ≤ b ∨ c.Init b := fun b hb => by
            obtain ⟨i, o, x, h1, h2, h3, h4⟩ := hownl b hb
            exact (hs.objs o x h2).mine h3 h4
          have hfrown : ∀ o x b, H.get o = some x → x.live = true → blk (θ o) = some b → (∀ i, i < os'.length → o ≠ home fp k i) → ¬ own Hl θl b := fun o x b hgo hx hbl ho hown => by
            obtain ⟨i, o2, x2, h1, h2, h3, h4⟩ := hownl b hown
            exact hs.inj o2 o x2 x h2 hgo h3 hx (hframe o x hgo ho i o2 h1) b h4 hbl
          have hown' : ∀ b, own H' θ' b → (∃ i y, os'[i]? = some y ∧ y.live = true ∧ blk (θ2 i) = some b) ∨ (∃ o x, H.get o = some x ∧ x.live = true ∧ blk (θ o) = some b ∧ ∀ i, i < os'.length → o ≠ home fp k i) := fun b ⟨o, x, h1, h2, h3⟩ => by
            rcases hcase o with ⟨i, y, hi, rfl⟩ | ho
            · rw [hin i y hi] at h1
              cases h1
              rw [renO_live] at h2
              rw [hθin i (List.getElem?_eq_some_iff.1 hi).1] at h3
              exact .inl ⟨i, y, hi, h2, h3⟩
            · rw [hout o ho] at h1
              rw [hθout o ho] at h3
              exact .inr ⟨o, x, h1, h2, h3, ho⟩
          have hmine2 : ∀ i y b, os'[i]? = some y → y.live = true → blk (θ2 i) = some b → w.heap.size ≤ b ∨ own Hl θl b := fun i y b hi hy hbl =>
            (hs2.objs i y (by rw [get_enumO]; exact hi)).mine hy hbl
          have hvis2 : ∀ b, vis cl H2 θ2 w' b → vis c H' θ' w' b := fun b ⟨h1, h2, h3⟩ => by
            refine ⟨h1, fun ho => ?_, fun hlt => ?_⟩
            · rcases hown' b ho with ⟨i, y, g1, g2, g3⟩ | ⟨o, x, g1, g2, g3, g4⟩
              · exact h2 ⟨i, y, by rw [h2get]; exact g1, g2, g3⟩
              · have hb0 := (hs.objs o x g1).lt g2 g3
                rcases h3 hb0 with h4 | h4
                · exact h4.2.1 ⟨o, x, g1, g2, g3⟩
                · exact hfrown o x b g1 g2 g3 g4 h4
            · rcases h3 (Nat.lt_of_lt_of_le hlt hs.size) with h4 | h4
              · exact h4.2.2 hlt
              · rcases hmine b h4 with h5 | h5
                · omega
                · exact .inr h5
          have hvis1 : ∀ b, vis c H θ w b → vis c H' θ' w' b ∧ w'.heap[b]? = w.heap[b]? := fun b hb0 => by
            have hnl : ¬ own Hl θl b := fun ho => hb0.2.1 (hownl' b ho)
            refine ⟨⟨Nat.lt_of_lt_of_le hb0.1 hk2.size, fun ho => ?_, hb0.2.2⟩, hk2.block b hb0.1 hnl⟩
            rcases hown' b ho with ⟨i, y, g1, g2, g3⟩ | ⟨o, x, g1, g2, g3, _⟩
            · rcases hmine2 i y b g1 g2 g3 with g4 | g4
              · have := hb0.1; omega
              · exact hnl g4
            · exact hb0.2.1 ⟨o, x, g1, g2, g3⟩
          have hle : HLe H θ H' θ' := by
            refine ⟨fun o ho => ?_, fun o z ho hz => ?_⟩
            · rcases ho with ho | ho
              · exact .inl (by simp only [H']; omega)
              · exact .inl (by have := hb o ho; simp only [H']; omega)
            · rcases hcase o with ⟨i, y, hi, rfl⟩ | hno
              · rw [hin i y hi] at hz
                cases hz
                have hlt : i < fp.length := by
                  rcases Nat.lt_or_ge i fp.length with h1 | h1
                  · exact h1
                  · rw [home_ge h1] at ho
                    rcases ho with ho | ho
                    · omega
                    · have := hb _ ho; omega
                have hfi := home_lt (k := k) hlt
                obtain ⟨x, g1, g2⟩ := ho2 i _ hfi
                obtain ⟨x2, e1, e2, e3⟩ := hev2 i y (by omega) (by rw [get_enumO]; exact hi)
                have hx2 : x2 = renO H (idxOf fp) x := by
                  simp only [Hl, get_enumO, os, List.getElem?_map, g1, Option.map_some, Option.some.injEq] at e1
                  exact e1.symm
                subst hx2
                refine ⟨x, g2, renO_evo e2, fun he => ?_⟩
                rw [hθin i (List.getElem?_eq_some_iff.1 hi).1, e3 (by rw [renO_rlen, he, renO_rlen])]
                simp [θl, List.getD, hfi]
              · rw [hout o hno] at hz
                exact ⟨z, hz, z.evo_refl, fun _ => hθout o hno⟩
          have hvr2 : ∀ {x v}, VR H2 θ2 w' (vis cl H2 θ2 w') x v → VR H' θ' w' (vis c H' θ' w') (ren ⟨[], 0⟩ (backTo fp k) x) v := fun {x v} hx => by
            have href : ∀ i, H2.ref i → i < os'.length := fun i hi => by
              rcases hi with hi | hi
              · exact hi
              · rw [h2get] at hi
                exact (List.getElem?_eq_some_iff.1 (Option.eq_some_of_isSome hi)).1
            exact VR.fromCallee (σ := home fp k) hvis2 (fun i hi => by
              have := href i hi
              refine .inl ?_
              simp only [H']
              rcases Nat.lt_or_ge i fp.length with h1 | h1
              · have := hfk i _ (home_lt (k := k) h1); omega
              · rw [home_ge h1]; omega) (fun i z hi hz => by
              have hlt := href i hi
              have hy : os'[i]? = some os'[i] := by simp [hlt]
              rw [hin i _ hy] at hz
              cases hz
              exact ⟨os'[i], by rw [h2get]; exact hy, rfl, hθin i hlt⟩) hx
          refine ⟨θ', ⟨Nat.le_trans hs.size hk2.size, fun o x hgo => ?_, fun o o' x x' hgo hgo' hx hx' hne b h1 h2 => ?_⟩, hvr2 hv2, ⟨hk2.os, hk2.tape, hk2.output, hk2.size, fun b hlt hni => ?_⟩, hle, hvis1⟩
          · have hgo' : H'.get o = some x := hgo
            rcases hcase o with ⟨i, y, hi, rfl⟩ | hno
            · rw [hin i y hi] at hgo'
              cases hgo'
              rw [hθin i (List.getElem?_eq_some_iff.1 hi).1]
              refine ObjR.turn (hs2.objs i y (by rw [get_enumO]; exact hi)) hvis2 (fun y u hy => hvr2 hy) fun b _ _ h4 => ?_
              rcases h4 with h4 | h4
              · exact .inl (Nat.le_trans hs.size h4)
              · exact hmine b h4
            · rw [hout o hno] at hgo'
              rw [hθout o hno]
              exact (hs.objs o x hgo').mono hvis1 hle fun hx b hbl => hk2.block b ((hs.objs o x hgo').lt hx hbl) (hfrown o x b hgo' hx hbl hno)
          · have hg1 : H'.get o = some x := hgo
            have hg2 : H'.get o' = some x' := hgo'
            rcases hcase o with ⟨i, y, hi, rfl⟩ | hno <;> rcases hcase o' with ⟨j, z, hj, rfl⟩ | hno'
            · rw [hin i y hi] at hg1
              rw [hin j z hj] at hg2
              cases hg1
              cases hg2
              rw [renO_live] at hx hx'
              rw [hθin i (List.getElem?_eq_some_iff.1 hi).1] at h1
              rw [hθin j (List.getElem?_eq_some_iff.1 hj).1] at h2
              exact hs2.inj i j y z (by rw [get_enumO]; exact hi) (by rw [get_enumO]; exact hj) hx hx' (fun he => hne (by rw [he])) b h1 h2
            · rw [hin i y hi] at hg1
              rw [hout o' hno'] at hg2
              cases hg1
              rw [renO_live] at hx
              rw [hθin i (List.getElem?_eq_some_iff.1 hi).1] at h1
              rw [hθout o' hno'] at h2
              rcases hmine2 i y b hi hx h1 with h4 | h4
              · have := (hs.objs o' x' hg2).lt hx' h2; omega
              · exact hfrown o' x' b hg2 hx' h2 hno' h4
            · rw [hout o hno] at hg1
              rw [hin j z hj] at hg2
              cases hg2
              rw [renO_live] at hx'
              rw [hθout o hno] at h1
              rw [hθin j (List.getElem?_eq_some_iff.1 hj).1] at h2
              rcases hmine2 j z b hj hx' h2 with h4 | h4
              · have := (hs.objs o x hg1).lt hx h1; omega
              · exact hfrown o x b hg1 hx h1 hno h4
            · rw [hout o hno] at hg1
              rw [hout o' hno'] at hg2
              rw [hθout o hno] at h1
              rw [hθout o' hno'] at h2
              exact hs.inj o o' x x' hg1 hg2 hx hx' hne b h1 h2
          · refine hk2.block b (Nat.lt_of_lt_of_le hlt hs.size) fun ho => ?_
            rcases hmine b ho with h4 | h4
            · omega
            · exact hni h4
        · cases h
      · cases h
    · cases h
  · cases h
end
end Go.Ab
