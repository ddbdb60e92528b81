/- Walks in graphs, distances, and the relaxation of edges (plain; own work). -/
set_option linter.unusedVariables false
set_option linter.unusedSimpArgs false
namespace Go.Ab
structure Edge where
  fr : Int
  to : Int
  st : Int
  deriving DecidableEq
structure Graph where
  nodes : List (List UInt8)
  edges : List Edge
  deriving DecidableEq

inductive Walk (E : Int → Int → Prop) : Nat → Int → Int → Prop where
  | nil (a : Int) : Walk E 0 a a
  | cons {a b c : Int} {k : Nat} (h : E a b) (w : Walk E k b c) : Walk E (k + 1) a c
theorem exists_least {p : Nat → Prop} (h : ∃ k, p k) : ∃ k, p k ∧ ∀ j, p j → k ≤ j := by
  obtain ⟨k, hk⟩ := h
  induction k using Nat.strongRecOn with
  | _ k ih =>
    by_cases hj : ∃ j, p j ∧ j < k
    · obtain ⟨j, h1, h2⟩ := hj
      exact ih j h2 h1
    · exact ⟨k, hk, fun j h1 => by
        rcases Nat.lt_or_ge j k with h2 | h2
        · exact absurd ⟨j, h1, h2⟩ hj
        · exact h2⟩
open Classical in
noncomputable def least (p : Nat → Prop) : Int := if h : ∃ k, p k then (((exists_least h).choose : Nat) : Int) else -1
theorem least_none {p : Nat → Prop} (h : ¬ ∃ k, p k) : least p = -1 := by simp [least, h]
theorem least_eq {p : Nat → Prop} {k : Nat} (h : p k) (hm : ∀ j, p j → k ≤ j) : least p = k := by
  have hh : ∃ k, p k := ⟨k, h⟩
  simp only [least, dif_pos hh]
  obtain ⟨h1, h2⟩ := (exists_least hh).choose_spec
  have h3 := hm _ h1
  have h4 := h2 _ h
  omega
theorem least_spec {p : Nat → Prop} (h : 0 ≤ least p) : p (least p).toNat ∧ ∀ j, p j → (least p).toNat ≤ j := by
  by_cases hh : ∃ k, p k
  · obtain ⟨k, h1, h2⟩ := exists_least hh
    rw [least_eq h1 h2]
    exact ⟨h1, h2⟩
  · rw [least_none hh] at h
    omega
theorem least_neg {p : Nat → Prop} : least p < 0 ↔ ¬ ∃ k, p k := by
  constructor
  · intro h hh
    obtain ⟨k, h1, h2⟩ := exists_least hh
    rw [least_eq h1 h2] at h
    omega
  · intro h; rw [least_none h]; omega
/-- An edge that leaves out a node. -/
def Step (g : Graph) (without : Int) (a b : Int) : Prop := a ≠ without ∧ b ≠ without ∧ ∃ e ∈ g.edges, e.fr = a ∧ e.to = b
noncomputable def dist (g : Graph) (without a b : Int) : Int := least fun k => Walk (Step g without) k a b

/-! ### The relaxation of edges -/
theorem sum_set : ∀ (l : List Nat) (i x : Nat) (h : i < l.length), (l.set i x).sum + l[i] = l.sum + x
  | [], _, _, h => by simp at h
  | y :: l, 0, x, _ => by simp; omega
  | y :: l, i + 1, x, h => by
    have := sum_set l i x (by simpa using h)
    simp only [List.set_cons_succ, List.sum_cons, List.getElem_cons_succ]
    omega
def reached (out : List Int) : Nat := out.countP (0 ≤ ·)
theorem reached_set {out : List Int} {i : Nat} {x : Int} (h : i < out.length) (hx : 0 ≤ x) : reached (out.set i x) = reached out + (if 0 ≤ out[i] then 0 else 1) := by
  unfold reached
  rw [List.countP_set h]
  by_cases h1 : 0 ≤ out[i]
  · have : 0 < List.countP (fun x => decide (0 ≤ x)) out := List.countP_pos_iff.2 ⟨out[i], List.getElem_mem h, by simpa using h1⟩
    simp [h1, hx]
    omega
  · simp [h1, hx]
def weight (n : Nat) (out : List Int) : Nat := (out.map fun x => if x < 0 then n else x.toNat).sum

structure Relax (g : Graph) (to without : Int) (out : List Int) : Prop where
  len : out.length = g.nodes.length
  val : ∀ v (h : v < out.length), out[v] = -1 ∨ (0 ≤ out[v] ∧ out[v] < reached out ∧ Walk (Step g without) (out[v]).toNat v to)
  self : ∀ h : to.toNat < out.length, out[to.toNat] = 0
  left : ∀ v (h : v < out.length), (v : Int) = without → out[v] = -1

theorem Relax.lt {g : Graph} {to without : Int} {out : List Int} (h : Relax g to without out) {v : Nat} (hv : v < out.length) : -1 ≤ out[v] ∧ out[v] < out.length := by
  have hr : reached out ≤ out.length := List.countP_le_length
  rcases h.val v hv with h1 | ⟨h1, h2, _⟩ <;> omega

theorem Relax.step {g : Graph} {to without : Int} {out : List Int} (h : Relax g to without out) {e : Edge} (he : e ∈ g.edges) (h1 : 0 ≤ e.fr) (h2 : e.fr.toNat < out.length) (h3 : 0 ≤ e.to) (h4 : e.to.toNat < out.length)
    (hw : e.fr ≠ without) (ht : 0 ≤ out[e.to.toNat]) (hf : out[e.fr.toNat] < 0 ∨ out[e.to.toNat] + 1 < out[e.fr.toNat]) (hto : 0 ≤ to) (hto' : to ≠ without) :
    Relax g to without (out.set e.fr.toNat (out[e.to.toNat] + 1)) ∧ weight out.length (out.set e.fr.toNat (out[e.to.toNat] + 1)) < weight out.length out := by
  have hne : out[e.to.toNat] ≠ -1 := by omega
  obtain ⟨_, hb, hwalk⟩ := (h.val _ h4).resolve_left hne
  have hcnt := reached_set (out := out) (i := e.fr.toNat) (x := out[e.to.toNat] + 1) h2 (by omega)
  have hcle : reached out ≤ out.length := List.countP_le_length
  have htw : e.to ≠ without := by
    intro hh
    have := h.left e.to.toNat h4 (by omega)
    omega
  refine ⟨⟨by simp [h.len], fun v hv => ?_, fun hv => ?_, fun v hv hvw => ?_⟩, ?_⟩
  · simp only [List.length_set] at hv
    rw [List.getElem_set]
    split
    · rename_i hev
      have hfv := h.val _ h2
      refine .inr ⟨by omega, ?_, ?_⟩
      · rw [hcnt]
        split
        · rcases hfv with h5 | ⟨_, h5, _⟩ <;> omega
        · omega
      · have hk : (out[e.to.toNat] + 1).toNat = (out[e.to.toNat]).toNat + 1 := by omega
        rw [hk]
        have hv' : (v : Int) = e.fr := by omega
        rw [hv']
        have h5 : ((e.to.toNat : Nat) : Int) = e.to := by omega
        rw [h5] at hwalk
        exact .cons ⟨hw, htw, e, he, rfl, rfl⟩ hwalk
    · rcases h.val v hv with h5 | ⟨h5, h6, h7⟩
      · exact .inl h5
      · refine .inr ⟨h5, ?_, h7⟩
        rw [hcnt]
        split <;> omega
  · simp only [List.length_set] at hv
    rw [List.getElem_set]
    split
    · rename_i hev
      have h5 := h.self hv
      have h6 : e.fr.toNat = to.toNat := hev
      simp only [h6] at hf
      omega
    · exact h.self hv
  · simp only [List.length_set] at hv
    rw [List.getElem_set]
    split
    · rename_i hev
      omega
    · exact h.left v hv hvw
  · unfold weight
    rw [List.map_set]
    have := sum_set (out.map fun x => if x < 0 then out.length else x.toNat) e.fr.toNat (if out[e.to.toNat] + 1 < 0 then out.length else (out[e.to.toNat] + 1).toNat) (by simpa using h2)
    simp only [List.getElem_map] at this
    have hbf := h.lt h2
    have hneg : ¬ out[e.to.toNat] + 1 < 0 := by omega
    rw [if_neg hneg] at this ⊢
    by_cases hz : out[e.fr.toNat] < 0
    · rw [if_pos hz] at this
      have hr2 : reached out < out.length := by
        rcases Nat.lt_or_ge (reached out) out.length with h5 | h5
        · exact h5
        · have h6 : reached out = out.length := by omega
          unfold reached at h6
          rw [List.countP_eq_length] at h6
          have := h6 _ (List.getElem_mem h2)
          simp at this
          omega
      omega
    · rw [if_neg hz] at this
      omega
theorem Relax.start {g : Graph} {to without : Int} (h0 : 0 ≤ to) (h1 : to < g.nodes.length) (hne : to ≠ without) : Relax g to without ((List.replicate g.nodes.length (-1)).set to.toNat 0) := by
  have hlt : to.toNat < (List.replicate g.nodes.length (-1 : Int)).length := by simp; omega
  have hr := reached_set (out := List.replicate g.nodes.length (-1 : Int)) (i := to.toNat) (x := 0) hlt (by omega)
  have h2 : reached (List.replicate g.nodes.length (-1 : Int)) = 0 := by simp [reached]
  simp only [h2, List.getElem_replicate] at hr
  have hr1 : reached ((List.replicate g.nodes.length (-1 : Int)).set to.toNat 0) = 1 := by rw [hr]; simp
  refine ⟨by simp, fun v hv => ?_, fun hv => ?_, fun v hv hvw => ?_⟩
  · rw [List.getElem_set]
    split
    · rename_i hh
      refine .inr ⟨by omega, by omega, ?_⟩
      have : (v : Int) = to := by omega
      rw [this]
      exact .nil to
    · left; simp
  · rw [List.getElem_set]; simp
  · rw [List.getElem_set]
    split
    · rename_i hh; omega
    · simp
/-- Nothing is left to be relaxed. -/
def Flat (g : Graph) (without : Int) (out : List Int) (e : Edge) : Prop := e.fr = without ∨ (∀ h : e.to.toNat < out.length, out[e.to.toNat] < 0) ∨ (∀ (h : e.to.toNat < out.length) (h' : e.fr.toNat < out.length), 0 ≤ out[e.fr.toNat] ∧ out[e.fr.toNat] ≤ out[e.to.toNat] + 1)
theorem Relax.le {g : Graph} {to without : Int} {out : List Int} (h : Relax g to without out) (hin : ∀ e ∈ g.edges, 0 ≤ e.fr ∧ e.fr < g.nodes.length ∧ 0 ≤ e.to ∧ e.to < g.nodes.length) (hflat : ∀ e ∈ g.edges, Flat g without out e)
    {k : Nat} {a : Int} (hw : Walk (Step g without) k a to) (ha : 0 ≤ a) (ha' : a.toNat < out.length) : 0 ≤ out[a.toNat] ∧ out[a.toNat] ≤ k := by
  have hlen := h.len
  generalize hto : to = c at hw
  induction hw with
  | nil b => subst hto; rw [h.self ha']; simp
  | @cons a b c k hs w ih =>
    obtain ⟨h1, h2, e, he, rfl, rfl⟩ := hs
    obtain ⟨i1, i2, i3, i4⟩ := hin e he
    have hb' : e.to.toNat < out.length := by omega
    obtain ⟨j1, j2⟩ := ih i3 hb' hto
    rcases hflat e he with h5 | h5 | h5
    · exact absurd h5 h1
    · have := h5 hb'; omega
    · obtain ⟨h6, h7⟩ := h5 hb' ha'
      exact ⟨h6, by omega⟩
theorem Relax.dist {g : Graph} {to without : Int} {out : List Int} (h : Relax g to without out) (hin : ∀ e ∈ g.edges, 0 ≤ e.fr ∧ e.fr < g.nodes.length ∧ 0 ≤ e.to ∧ e.to < g.nodes.length) (hflat : ∀ e ∈ g.edges, Flat g without out e) :
    out = (List.range g.nodes.length).map fun v : Nat => Ab.dist g without (v : Int) to := by
  refine List.ext_getElem (by simp [h.len]) fun v hv hv' => ?_
  simp only [List.getElem_map, List.getElem_range]
  have hge : ∀ k, Walk (Step g without) k v to → 0 ≤ out[v] ∧ out[v] ≤ k := fun k hk => by
    have := h.le hin hflat hk (by omega) (by simpa using hv)
    simpa using this
  rcases h.val v hv with h1 | ⟨h1, h2, h3⟩
  · rw [h1]
    exact (least_none fun ⟨k, hk⟩ => by have := hge k hk; omega).symm
  · have := least_eq (p := fun k => Walk (Step g without) k v to) h3 fun j hj => by have := hge j hj; omega
    unfold Ab.dist
    rw [this]
    omega
end Go.Ab
