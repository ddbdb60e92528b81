/-
  One text of the proof (own work): contracts of functions of the program, by the abstract machine.
-/
import Derived.Test.YtpecnbkfahekdaaA16
set_option linter.unusedVariables false
set_option linter.unusedSimpArgs false
namespace Go.Ab
open Go Go.RowKit Go.Proofs
set_option maxRecDepth 4000
set_option maxHeartbeats 1000000

/-! ### Rows and edges -/
theorem nbAdd_len (back : Bool) (L : List (List Int)) (e : Edge) : (nbAdd back L e).length = L.length := by simp [nbAdd]
theorem nbFold_len (back : Bool) : ∀ (es : List Edge) (L : List (List Int)), (es.foldl (nbAdd back) L).length = L.length
  | [], L => rfl
  | e :: es, L => by rw [List.foldl_cons, nbFold_len back es, nbAdd_len]
theorem nbs_len (g : Graph) (back : Bool) : (nbs g back).length = g.nodes.length := by simp [nbs, nbFold_len]
theorem nbFold_mem (back : Bool) : ∀ (es : List Edge) (L : List (List Int)), (∀ e ∈ es, (ends back e).1.toNat < L.length) → ∀ (a : Nat) (b : Int), b ∈ (es.foldl (nbAdd back) L).getD a [] ↔ b ∈ L.getD a [] ∨ ∃ e ∈ es, (ends back e).1.toNat = a ∧ (ends back e).2 = b
  | [], L, h, a, b => by simp
  | e :: es, L, h, a, b => by
    have h0 := h e List.mem_cons_self
    rw [List.foldl_cons, nbFold_mem back es _ (fun x hx => by rw [nbAdd_len]; exact h x (List.mem_cons_of_mem _ hx))]
    have h1 : b ∈ (nbAdd back L e).getD a [] ↔ b ∈ L.getD a [] ∨ ((ends back e).1.toNat = a ∧ (ends back e).2 = b) := by
      unfold nbAdd
      rw [List.getD_eq_getElem?_getD, List.getElem?_set]
      by_cases he : (ends back e).1.toNat = a
      · subst he
        simp [h0, eq_comm]
      · simp [he, List.getD_eq_getElem?_getD]
    rw [h1]
    simp only [List.mem_cons, exists_eq_or_imp]
    constructor
    · rintro ((h | h) | h)
      · exact .inl h
      · exact .inr (.inl h)
      · exact .inr (.inr h)
    · rintro (h | h | h)
      · exact .inl (.inl h)
      · exact .inl (.inr h)
      · exact .inr h
theorem nbFold_size (back : Bool) : ∀ (es : List Edge) (L : List (List Int)) (m : Nat), (∀ r ∈ L, r.length ≤ m) → ∀ r ∈ es.foldl (nbAdd back) L, r.length ≤ m + es.length
  | [], L, m, h, r, hr => h r hr
  | e :: es, L, m, h, r, hr => by
    have := nbFold_size back es (nbAdd back L e) (m + 1) (fun r hr => by
      unfold nbAdd at hr
      rcases List.mem_or_eq_of_mem_set hr with h1 | h1
      · have := h r h1; omega
      · subst h1
        simp only [List.length_append, List.length_singleton, List.getD_eq_getElem?_getD]
        by_cases hl : (ends back e).1.toNat < L.length
        · have := h _ (List.getElem_mem hl)
          rw [List.getElem?_eq_getElem hl]
          simpa using this
        · rw [List.getElem?_eq_none (by omega)]
          simp) r hr
    simp only [List.length_cons]
    omega
theorem ends_in {g : Graph} (h : InRange g) (back : Bool) {e : Edge} (he : e ∈ g.edges) : 0 ≤ (ends back e).1 ∧ (ends back e).1 < g.nodes.length ∧ 0 ≤ (ends back e).2 ∧ (ends back e).2 < g.nodes.length := by
  obtain ⟨h1, h2, h3, h4⟩ := h e he
  cases back
  · exact ⟨h1, h2, h3, h4⟩
  · exact ⟨h3, h4, h1, h2⟩
theorem nbs_mem {g : Graph} (h : InRange g) (back : Bool) {a b : Int} (ha : 0 ≤ a) : b ∈ (nbs g back).getD a.toNat [] ↔ ∃ e ∈ g.edges, ends back e = (a, b) := by
  unfold nbs
  rw [nbFold_mem back g.edges _ (fun e he => by have := ends_in h back he; simp; omega)]
  constructor
  · rintro (h1 | ⟨e, he, h1, h2⟩)
    · simp only [List.getD_eq_getElem?_getD, List.getElem?_replicate] at h1
      split at h1 <;> simp at h1
    · have := ends_in h back he
      exact ⟨e, he, Prod.ext (show (ends back e).1 = a by omega) h2⟩
  · rintro ⟨e, he, h1⟩
    exact .inr ⟨e, he, by rw [h1], by rw [h1]⟩
theorem nbs_ok {g : Graph} (h : Fit g) (back : Bool) : NextOK (nbs g back) := by
  refine ⟨by rw [nbs_len]; exact h.nodes, fun r hr => ?_, fun r hr b hb => ?_⟩
  · have := nbFold_size back g.edges (List.replicate g.nodes.length []) 0 (fun r hr => by have := List.eq_of_mem_replicate hr; simp [this]) r hr
    have := h.edges
    omega
  · obtain ⟨a, ha, rfl⟩ := List.mem_iff_getElem.1 hr
    have h1 : b ∈ (nbs g back).getD (a : Int).toNat [] := by simpa [ha] using hb
    obtain ⟨e, he, h2⟩ := (nbs_mem h.inr back (Int.natCast_nonneg a)).1 h1
    have := ends_in h.inr back he
    rw [h2] at this
    rw [nbs_len]
    exact ⟨this.2.2.1, this.2.2.2⟩
theorem step_of_row {g : Graph} (h : InRange g) {w a b : Int} (ha : 0 ≤ a) : RStep (nbs g false) w a b ↔ Step g w a b := by
  unfold RStep Step
  rw [nbs_mem h false ha]
  simp only [ends, Bool.false_eq_true, if_false, Prod.mk.injEq]
theorem step_of_row' {g : Graph} (h : InRange g) {w a b : Int} (ha : 0 ≤ a) : RStep (nbs g true) w a b ↔ Step g w b a := by
  unfold RStep Step
  rw [nbs_mem h true ha]
  simp only [ends, if_true, Prod.mk.injEq]
  constructor
  · rintro ⟨h1, h2, e, he, h3, h4⟩; exact ⟨h2, h1, e, he, h4, h3⟩
  · rintro ⟨h1, h2, e, he, h3, h4⟩; exact ⟨h2, h1, e, he, h4, h3⟩
theorem step_in {g : Graph} (h : InRange g) {w a b : Int} (hs : Step g w a b) : 0 ≤ a ∧ a < g.nodes.length ∧ 0 ≤ b ∧ b < g.nodes.length := by
  obtain ⟨_, _, e, he, rfl, rfl⟩ := hs
  exact h e he
theorem walk_rows {g : Graph} (h : InRange g) {w : Int} {k : Nat} {a b : Int} (ha : 0 ≤ a) : Walk (RStep (nbs g false) w) k a b ↔ Walk (Step g w) k a b := by
  constructor
  · intro hw
    induction hw with
    | nil a => exact .nil a
    | cons hs hw ih =>
      have hs' := (step_of_row h ha).1 hs
      exact .cons hs' (ih (step_in h hs').2.2.1)
  · intro hw
    induction hw with
    | nil a => exact .nil a
    | cons hs hw ih => exact .cons ((step_of_row h ha).2 hs) (ih (step_in h hs).2.2.1)
theorem walk_rows' {g : Graph} (h : InRange g) {w : Int} {k : Nat} {a b : Int} (ha : 0 ≤ a) : Walk (RStep (nbs g true) w) k a b ↔ Walk (Step g w) k b a := by
  constructor
  · intro hw
    induction hw with
    | nil a => exact .nil a
    | cons hs hw ih =>
      have hs' := (step_of_row' h ha).1 hs
      exact (ih (step_in h hs').1).snoc hs'
  · intro hw
    have key : ∀ {k : Nat} {b a : Int}, Walk (Step g w) k b a → 0 ≤ a → Walk (RStep (nbs g true) w) k a b := by
      intro k b a hw
      induction hw with
      | nil a => intro _; exact .nil a
      | cons hs hw ih =>
        intro ha
        exact (ih ha).snoc ((step_of_row' h (step_in h hs).2.2.1).2 hs)
    exact key hw ha
theorem far_fwd {g : Graph} (h : InRange g) {w a : Int} (v : Int) (ha : 0 ≤ a) : far (nbs g false) w a v = dist g w a v := by
  unfold far dist
  congr 1
  funext k
  exact propext (walk_rows h ha)
theorem far_back {g : Graph} (h : InRange g) {w a : Int} (v : Int) (ha : 0 ≤ a) : far (nbs g true) w a v = dist g w v a := by
  unfold far dist
  congr 1
  funext k
  exact propext (walk_rows' h ha)
theorem farAll_back {g : Graph} (h : InRange g) {w a : Int} (ha : 0 ≤ a) : farAll (nbs g true) w a = distTo g a w := by
  unfold farAll distTo
  rw [nbs_len]
  exact List.map_congr_left fun v _ => far_back h _ ha
/-- The distances from a node. -/
noncomputable def distFrom (g : Graph) (a w : Int) : List Int := (List.range g.nodes.length).map fun v : Nat => dist g w a (v : Int)
theorem farAll_fwd {g : Graph} (h : InRange g) {w a : Int} (ha : 0 ≤ a) : farAll (nbs g false) w a = distFrom g a w := by
  unfold farAll distFrom
  rw [nbs_len]
  exact List.map_congr_left fun v _ => far_fwd h _ ha
theorem distFrom_len (g : Graph) (to without : Int) : (distFrom g to without).length = g.nodes.length := by simp [distFrom]
theorem distFrom_get {g : Graph} {a w v : Int} (h0 : 0 ≤ v) (h : v.toNat < (distFrom g a w).length) : (distFrom g a w)[v.toNat] = dist g w a v := by
  simp only [distFrom, List.getElem_map, List.getElem_range]
  congr 1
  omega
theorem g29_eq {g : Graph} {back : Bool} (h : Fit g) : g29 [.agg [.list (g.nodes.map .str), .list (g.edges.map eD)], .bool back] = some (.list ((nbs g back).map ints)) :=
  encSpec_eq (x := (g, back)) h fun y hy => by
    obtain ⟨y1, y2⟩ := y
    simp only [List.cons.injEq, and_true, D.bool.injEq] at hy
    rw [gD_inj hy.1, hy.2]
/-! ### Distances -/
theorem dist_walk {g : Graph} {w a b : Int} {k : Nat} (h : Walk (Step g w) k a b) : 0 ≤ dist g w a b ∧ dist g w a b ≤ k := by
  obtain ⟨m, h1, h2⟩ := exists_least (p := fun k => Walk (Step g w) k a b) ⟨k, h⟩
  unfold dist
  rw [least_eq h1 h2]
  have := h2 k h
  omega
theorem walk_dist {g : Graph} {w a b : Int} (h : 0 ≤ dist g w a b) : Walk (Step g w) (dist g w a b).toNat a b := (least_spec h).1
theorem dist_lo (g : Graph) (w a b : Int) : -1 ≤ dist g w a b := by
  unfold dist
  by_cases h : ∃ k, Walk (Step g w) k a b
  · obtain ⟨k, h1, h2⟩ := exists_least h
    rw [least_eq h1 h2]; omega
  · rw [least_none h]; omega
theorem dist_self (g : Graph) (w a : Int) : dist g w a a = 0 := by
  have := dist_walk (g := g) (w := w) (.nil a)
  omega
theorem dist_zero {g : Graph} {w a b : Int} (h : dist g w a b = 0) : a = b := by
  have h1 := walk_dist (g := g) (w := w) (a := a) (b := b) (by omega)
  rw [h] at h1
  cases h1
  rfl
/-- A node that is farther off has a step that leads closer. -/
theorem dist_step {g : Graph} {w a b : Int} (h : 0 < dist g w a b) : ∃ c, Step g w a c ∧ dist g w c b = dist g w a b - 1 := by
  have h1 := walk_dist (g := g) (w := w) (a := a) (b := b) (by omega)
  generalize hk : (dist g w a b).toNat = k at h1
  cases h1 with
  | nil => omega
  | @cons _ c _ k hs hw =>
    refine ⟨c, hs, ?_⟩
    have h2 := dist_walk hw
    have h3 := dist_walk (g := g) (w := w) (.cons hs (walk_dist h2.1))
    omega
theorem dist_path {g : Graph} (hin : InRange g) {w b : Int} : ∀ (k : Nat) (a : Int), dist g w a b = k → 0 ≤ a → a < g.nodes.length → ∃ l : List Int, l.length = k + 1 ∧ l.Nodup ∧ ∀ v ∈ l, 0 ≤ v ∧ v.toNat < g.nodes.length ∧ dist g w v b ≤ k
  | 0, a, h, h0, h1 => ⟨[a], rfl, by simp, fun v hv => by simp at hv; subst hv; omega⟩
  | k + 1, a, h, h0, h1 => by
    obtain ⟨c, hs, hc⟩ := dist_step (g := g) (w := w) (a := a) (b := b) (by omega)
    have hcin := step_in hin hs
    obtain ⟨l, hl, hn, hv⟩ := dist_path hin (w := w) (b := b) k c (by omega) hcin.2.2.1 hcin.2.2.2
    refine ⟨a :: l, by simp [hl], ?_, fun v hm => ?_⟩
    · rw [List.nodup_cons]
      exact ⟨fun hm => by have := (hv a hm).2.2; omega, hn⟩
    · rcases List.mem_cons.1 hm with rfl | hm
      · omega
      · have := hv v hm; omega
/-- Distances lie within bounds. -/
theorem dist_lt {g : Graph} (h : Fit g) {w a b : Int} (h0 : 0 ≤ a) (h1 : a < g.nodes.length) : -1 ≤ dist g w a b ∧ dist g w a b ≤ 1024 := by
  refine ⟨dist_lo _ _ _ _, ?_⟩
  rcases Int.lt_or_le (dist g w a b) 0 with hd | hd
  · omega
  · obtain ⟨l, hl, hn, hv⟩ := dist_path h.inr (w := w) (b := b) (dist g w a b).toNat a (by omega) h0 h1
    have := nodup_len (n := g.nodes.length) hn fun v hm => ⟨(hv v hm).1, (hv v hm).2.1⟩
    have := h.nodes
    omega
theorem distTo_ov {g : Graph} {b w v : Int} (h0 : 0 ≤ v) (h1 : v < g.nodes.length) : ov (distTo g b w) v = dist g w v b := by
  rw [← ov_get (by rw [distTo_len]; omega), distTo_get h0]
theorem distFrom_ov {g : Graph} {a w v : Int} (h0 : 0 ≤ v) (h1 : v < g.nodes.length) : ov (distFrom g a w) v = dist g w a v := by
  rw [← ov_get (by rw [distFrom_len]; omega), distFrom_get h0]
theorem distTo_in {g : Graph} (h : Fit g) {b w : Int} : ∀ x ∈ distTo g b w, -1 ≤ x ∧ x ≤ 1024 := fun x hx => by
  simp only [distTo, List.mem_map, List.mem_range] at hx
  obtain ⟨v, hv, rfl⟩ := hx
  exact dist_lt h (by omega) (by omega)

/-! ### Chains -/
/-- The edges of the least chain, of so many edges. -/
def chainD (g : Graph) (d : List Int) : Nat → Int → List Int
  | 0, _ => []
  | k + 1, a => idx (closer d a) g.edges :: chainD g d k (g.edges.getD (idx (closer d a) g.edges).toNat ⟨0, 0, 0⟩).to
noncomputable def chain (g : Graph) (a b : Int) : Option (List Int) := if valid g a && (valid g b && decide (0 ≤ dist g (-1) a b)) then some (chainD g (distTo g b (-1)) (dist g (-1) a b).toNat a) else none
theorem idx_spec {α : Type} {p : α → Bool} {l : List α} (h : ∃ x ∈ l, p x = true) : 0 ≤ idx p l ∧ ∃ hi : (idx p l).toNat < l.length, p (l[(idx p l).toNat]) = true ∧ ∀ j (hj : j < (idx p l).toNat), p (l[j]'(by omega)) = false := by
  cases hf : l.findIdx? p with
  | none =>
    obtain ⟨x, hx, hp⟩ := h
    rw [List.findIdx?_eq_none_iff] at hf
    rw [hf x hx] at hp; cases hp
  | some i =>
    obtain ⟨h1, h2, h3⟩ := List.findIdx?_eq_some_iff_getElem.1 hf
    have e : idx p l = (i : Int) := by simp [idx, hf]
    have e2 : (idx p l).toNat = i := by omega
    refine ⟨by omega, by omega, by simp only [e2]; exact h2, fun j hj => ?_⟩
    have := h3 j (by omega)
    simpa using this
theorem closer_ex {g : Graph} (h : Fit g) {a b : Int} (h0 : 0 ≤ a) (h1 : a < g.nodes.length) (hd : 0 < dist g (-1) a b) : ∃ e ∈ g.edges, closer (distTo g b (-1)) a e = true := by
  obtain ⟨c, ⟨_, _, e, he, hf, ht⟩, hc⟩ := dist_step hd
  obtain ⟨_, _, r3, r4⟩ := h.inr e he
  refine ⟨e, he, ?_⟩
  simp only [closer, hf, beq_self_eq_true, Bool.true_and, beq_iff_eq]
  rw [distTo_ov r3 r4, distTo_ov h0 h1, ht, hc]
/-- One edge of the chain. -/
theorem chain_next {g : Graph} (h : Fit g) {a b : Int} (h0 : 0 ≤ a) (h1 : a < g.nodes.length) (hd : 0 < dist g (-1) a b) : 0 ≤ idx (closer (distTo g b (-1)) a) g.edges ∧ ∃ hi : (idx (closer (distTo g b (-1)) a) g.edges).toNat < g.edges.length,
    0 ≤ (g.edges[(idx (closer (distTo g b (-1)) a) g.edges).toNat]).to ∧ (g.edges[(idx (closer (distTo g b (-1)) a) g.edges).toNat]).to < g.nodes.length ∧ dist g (-1) (g.edges[(idx (closer (distTo g b (-1)) a) g.edges).toNat]).to b = dist g (-1) a b - 1 ∧
    chainD g (distTo g b (-1)) (dist g (-1) a b).toNat a = idx (closer (distTo g b (-1)) a) g.edges :: chainD g (distTo g b (-1)) (dist g (-1) (g.edges[(idx (closer (distTo g b (-1)) a) g.edges).toNat]).to b).toNat (g.edges[(idx (closer (distTo g b (-1)) a) g.edges).toNat]).to ∧
    closer (distTo g b (-1)) a (g.edges[(idx (closer (distTo g b (-1)) a) g.edges).toNat]) = true ∧ ∀ j (hj : j < (idx (closer (distTo g b (-1)) a) g.edges).toNat), closer (distTo g b (-1)) a (g.edges[j]'(by omega)) = false := by
  obtain ⟨i0, hi, hp, hmin⟩ := idx_spec (closer_ex h h0 h1 hd)
  obtain ⟨_, _, r3, r4⟩ := h.inr _ (List.getElem_mem hi)
  have hp' := hp
  simp only [closer, Bool.and_eq_true, beq_iff_eq] at hp'
  rw [distTo_ov r3 r4, distTo_ov h0 h1] at hp'
  refine ⟨i0, hi, r3, r4, hp'.2, ?_, hp, hmin⟩
  have hk : (dist g (-1) a b).toNat = (dist g (-1) a b - 1).toNat + 1 := by omega
  rw [hp'.2, hk]
  simp only [chainD]
  rw [List.getD_eq_getElem?_getD, List.getElem?_eq_getElem hi]
  rfl
theorem chain_next' {g : Graph} (h : Fit g) {a b : Int} (h0 : 0 ≤ a) (h1 : a < g.nodes.length) (hd : 0 < dist g (-1) a b) : ∃ (j : Int) (x : Edge), idx (closer (distTo g b (-1)) a) g.edges = j ∧ 0 ≤ j ∧ (∃ hi : j.toNat < g.edges.length, g.edges[j.toNat] = x) ∧
    0 ≤ x.to ∧ x.to < g.nodes.length ∧ dist g (-1) x.to b = dist g (-1) a b - 1 ∧ chainD g (distTo g b (-1)) (dist g (-1) a b).toNat a = j :: chainD g (distTo g b (-1)) (dist g (-1) x.to b).toNat x.to ∧
    closer (distTo g b (-1)) a x = true ∧ ∀ j' (hj : j' < g.edges.length), j' < j.toNat → closer (distTo g b (-1)) a (g.edges[j']) = false := by
  obtain ⟨c1, c2, c3, c4, c5, c6, c7, c8⟩ := chain_next h h0 h1 hd
  exact ⟨_, _, rfl, c1, ⟨c2, rfl⟩, c3, c4, c5, c6, c7, fun j' hj hlt => c8 j' hlt⟩
end Go.Ab
