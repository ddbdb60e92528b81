/- Walks in graphs, distances, and the relaxation of edges (plain; own work). -/
set_option linter.unusedVariables false
set_option linter.unusedSimpArgs false
namespace Go.Ab
structure Edge where
  fr : Int
  to : Int
  st : Int
  deriving DecidableEq
structure Graph where
  nodes : List (List UInt8)
  edges : List Edge
  deriving DecidableEq

inductive Walk (E : Int → Int → Prop) : Nat → Int → Int → Prop where
  | nil (a : Int) : Walk E 0 a a
  | cons {a b c : Int} {k : Nat} (h : E a b) (w : Walk E k b c) : Walk E (k + 1) a c
theorem exists_least {p : Nat → Prop} (h : ∃ k, p k) : ∃ k, p k ∧ ∀ j, p j → k ≤ j := by
  obtain ⟨k, hk⟩ := h
  induction k using Nat.strongRecOn with
  | _ k ih =>
    by_cases hj : ∃ j, p j ∧ j < k
    · obtain ⟨j, h1, h2⟩ := hj
      exact ih j h2 h1
    · exact ⟨k, hk, fun j h1 => by
        rcases Nat.lt_or_ge j k with h2 | h2
        · exact absurd ⟨j, h1, h2⟩ hj
        · exact h2⟩
open Classical in
noncomputable def least (p : Nat → Prop) : Int := if h : ∃ k, p k then (((exists_least h).choose : Nat) : Int) else -1
theorem least_none {p : Nat → Prop} (h : ¬ ∃ k, p k) : least p = -1 := by simp [least, h]
theorem least_eq {p : Nat → Prop} {k : Nat} (h : p k) (hm : ∀ j, p j → k ≤ j) : least p = k := by
  have hh : ∃ k, p k := ⟨k, h⟩
  simp only [least, dif_pos hh]
  obtain ⟨h1, h2⟩ := (exists_least hh).choose_spec
  have h3 := hm _ h1
  have h4 := h2 _ h
  omega
theorem least_spec {p : Nat → Prop} (h : 0 ≤ least p) : p (least p).toNat ∧ ∀ j, p j → (least p).toNat ≤ j := by
  by_cases hh : ∃ k, p k
  · obtain ⟨k, h1, h2⟩ := exists_least hh
    rw [least_eq h1 h2]
    exact ⟨h1, h2⟩
  · rw [least_none hh] at h
    omega
theorem least_neg {p : Nat → Prop} : least p < 0 ↔ ¬ ∃ k, p k := by
  constructor
  · intro h hh
    obtain ⟨k, h1, h2⟩ := exists_least hh
    rw [least_eq h1 h2] at h
    omega
  · intro h; rw [least_none h]; omega
/-- An edge that leaves out a node. -/
def Step (g : Graph) (without : Int) (a b : Int) : Prop := a ≠ without ∧ b ≠ without ∧ ∃ e ∈ g.edges, e.fr = a ∧ e.to = b
noncomputable def dist (g : Graph) (without a b : Int) : Int := least fun k => Walk (Step g without) k a b

/-! ### The relaxation of edges -/
theorem sum_set : ∀ (l : List Nat) (i x : Nat) (h : i < l.length), (l.set i x).sum + l[i] = l.sum + x
  | [], _, _, h => by simp at h
  | y :: l, 0, x, _ => by simp; omega
  | y :: l, i + 1, x, h => by
    have := sum_set l i x (by simpa using h)
    simp only [List.set_cons_succ, List.sum_cons, List.getElem_cons_succ]
    omega
def reached (out : List Int) : Nat := out.countP (0 ≤ ·)
theorem reached_set {out : List Int} {i : Nat} {x : Int} (h : i < out.length) (hx : 0 ≤ x) : reached (out.set i x) = reached out + (if 0 ≤ out[i] then 0 else 1) := by
  unfold reached
  rw [List.countP_set h]
  by_cases h1 : 0 ≤ out[i]
  · have : 0 < List.countP (fun x => decide (0 ≤ x)) out := List.countP_pos_iff.2 ⟨out[i], List.getElem_mem h, by simpa using h1⟩
    simp [h1, hx]
    omega
  · simp [h1, hx]
def weight (n : Nat) (out : List Int) : Nat := (out.map fun x => if x < 0 then n else x.toNat).sum

structure Relax (g : Graph) (to without : Int) (out : List Int) : Prop where
  len : out.length = g.nodes.length
  val : ∀ v (h : v < out.length), out[v] = -1 ∨ (0 ≤ out[v] ∧ out[v] < reached out ∧ Walk (Step g without) (out[v]).toNat v to)
  self : ∀ h : to.toNat < out.length, out[to.toNat] = 0
  left : ∀ v (h : v < out.length), (v : Int) = without → out[v] = -1

theorem Relax.lt {g : Graph} {to without : Int} {out : List Int} (h : Relax g to without out) {v : Nat} (hv : v < out.length) : -1 ≤ out[v] ∧ out[v] < out.length := by
  have hr : reached out ≤ out.length := List.countP_le_length
  rcases h.val v hv with h1 | ⟨h1, h2, _⟩ <;> omega

theorem Relax.step {g : Graph} {to without : Int} {out : List Int} (h : Relax g to without out) {e : Edge} (he : e ∈ g.edges) (h1 : 0 ≤ e.fr) (h2 : e.fr.toNat < out.length) (h3 : 0 ≤ e.to) (h4 : e.to.toNat < out.length)
    (hw : e.fr ≠ without) (ht : 0 ≤ out[e.to.toNat]) (hf : out[e.fr.toNat] < 0 ∨ out[e.to.toNat] + 1 < out[e.fr.toNat]) (hto : 0 ≤ to) (hto' : to ≠ without) :
    Relax g to without (out.set e.fr.toNat (out[e.to.toNat] + 1)) ∧ weight out.length (out.set e.fr.toNat (out[e.to.toNat] + 1)) < weight out.length out := by
  have hne : out[e.to.toNat] ≠ -1 := by omega
  obtain ⟨_, hb, hwalk⟩ := (h.val _ h4).resolve_left hne
  have hcnt := reached_set (out := out) (i := e.fr.toNat) (x := out[e.to.toNat] + 1) h2 (by omega)
  have hcle : reached out ≤ out.length := List.countP_le_length
  have htw : e.to ≠ without := by
    intro hh
    have := h.left e.to.toNat h4 (by omega)
    omega
  refine ⟨⟨by simp [h.len], fun v hv => ?_, fun hv => ?_, fun v hv hvw => ?_⟩, ?_⟩
  · simp only [List.length_set] at hv
    rw [List.getElem_set]
    split
    · rename_i hev
      have hfv := h.val _ h2
      refine .inr ⟨by omega, ?_, ?_⟩
      · rw [hcnt]
        split
        · rcases hfv with h5 | ⟨_, h5, _⟩ <;> omega
        · omega
      · have hk : (out[e.to.toNat] + 1).toNat = (out[e.to.toNat]).toNat + 1 := by omega
        rw [hk]
        have hv' : (v : Int) = e.fr := by omega
        rw [hv']
        have h5 : ((e.to.toNat : Nat) : Int) = e.to := by omega
        rw [h5] at hwalk
        exact .cons ⟨hw, htw, e, he, rfl, rfl⟩ hwalk
    · rcases h.val v hv with h5 | ⟨h5, h6, h7⟩
      · exact .inl h5
      · refine .inr ⟨h5, ?_, h7⟩
        rw [hcnt]
        split <;> omega
  · simp only [List.length_set] at hv
    rw [List.getElem_set]
    split
    · rename_i hev
      have h5 := h.self hv
      have h6 : e.fr.toNat = to.toNat := hev
      simp only [h6] at hf
      omega
    · exact h.self hv
  · simp only [List.length_set] at hv
    rw [List.getElem_set]
    split
    · rename_i hev
      omega
    · exact h.left v hv hvw
  · unfold weight
    rw [List.map_set]
    have := sum_set (out.map fun x => if x < 0 then out.length else x.toNat) e.fr.toNat (if out[e.to.toNat] + 1 < 0 then out.length else (out[e.to.toNat] + 1).toNat) (by simpa using h2)
    simp only [List.getElem_map] at this
    have hbf := h.lt h2
    have hneg : ¬ out[e.to.toNat] + 1 < 0 := by omega
    rw [if_neg hneg] at this ⊢
    by_cases hz : out[e.fr.toNat] < 0
    · rw [if_pos hz] at this
      have hr2 : reached out < out.length := by
        rcases Nat.lt_or_ge (reached out) out.length with h5 | h5
        · exact h5
        · have h6 : reached out = out.length := by omega
          unfold reached at h6
          rw [List.countP_eq_length] at h6
          have := h6 _ (List.getElem_mem h2)
          simp at this
          omega
      omega
    · rw [if_neg hz] at this
      omega
theorem Relax.start {g : Graph} {to without : Int} (h0 : 0 ≤ to) (h1 : to < g.nodes.length) (hne : to ≠ without) : Relax g to without ((List.replicate g.nodes.length (-1)).set to.toNat 0) := by
  have hlt : to.toNat < (List.replicate g.nodes.length (-1 : Int)).length := by simp; omega
  have hr := reached_set (out := List.replicate g.nodes.length (-1 : Int)) (i := to.toNat) (x := 0) hlt (by omega)
  have h2 : reached (List.replicate g.nodes.length (-1 : Int)) = 0 := by simp [reached]
  simp only [h2, List.getElem_replicate] at hr
  have hr1 : reached ((List.replicate g.nodes.length (-1 : Int)).set to.toNat 0) = 1 := by rw [hr]; simp
  refine ⟨by simp, fun v hv => ?_, fun hv => ?_, fun v hv hvw => ?_⟩
  · rw [List.getElem_set]
    split
    · rename_i hh
      refine .inr ⟨by omega, by omega, ?_⟩
      have : (v : Int) = to := by omega
      rw [this]
      exact .nil to
    · left; simp
  · rw [List.getElem_set]; simp
  · rw [List.getElem_set]
    split
    · rename_i hh; omega
    · simp
/-- Nothing is left to be relaxed. -/
def Flat (g : Graph) (without : Int) (out : List Int) (e : Edge) : Prop := e.fr = without ∨ (∀ h : e.to.toNat < out.length, out[e.to.toNat] < 0) ∨ (∀ (h : e.to.toNat < out.length) (h' : e.fr.toNat < out.length), 0 ≤ out[e.fr.toNat] ∧ out[e.fr.toNat] ≤ out[e.to.toNat] + 1)
theorem Relax.le {g : Graph} {to without : Int} {out : List Int} (h : Relax g to without out) (hin : ∀ e ∈ g.edges, 0 ≤ e.fr ∧ e.fr < g.nodes.length ∧ 0 ≤ e.to ∧ e.to < g.nodes.length) (hflat : ∀ e ∈ g.edges, Flat g without out e)
    {k : Nat} {a : Int} (hw : Walk (Step g without) k a to) (ha : 0 ≤ a) (ha' : a.toNat < out.length) : 0 ≤ out[a.toNat] ∧ out[a.toNat] ≤ k := by
  have hlen := h.len
  generalize hto : to = c at hw
  induction hw with
  | nil b => subst hto; rw [h.self ha']; simp
  | @cons a b c k hs w ih =>
    obtain ⟨h1, h2, e, he, rfl, rfl⟩ := hs
    obtain ⟨i1, i2, i3, i4⟩ := hin e he
    have hb' : e.to.toNat < out.length := by omega
    obtain ⟨j1, j2⟩ := ih i3 hb' hto
    rcases hflat e he with h5 | h5 | h5
    · exact absurd h5 h1
    · have := h5 hb'; omega
    · obtain ⟨h6, h7⟩ := h5 hb' ha'
      exact ⟨h6, by omega⟩
theorem Relax.dist {g : Graph} {to without : Int} {out : List Int} (h : Relax g to without out) (hin : ∀ e ∈ g.edges, 0 ≤ e.fr ∧ e.fr < g.nodes.length ∧ 0 ≤ e.to ∧ e.to < g.nodes.length) (hflat : ∀ e ∈ g.edges, Flat g without out e) :
    out = (List.range g.nodes.length).map fun v : Nat => Ab.dist g without (v : Int) to := by
  refine List.ext_getElem (by simp [h.len]) fun v hv hv' => ?_
  simp only [List.getElem_map, List.getElem_range]
  have hge : ∀ k, Walk (Step g without) k v to → 0 ≤ out[v] ∧ out[v] ≤ k := fun k hk => by
    have := h.le hin hflat hk (by omega) (by simpa using hv)
    simpa using this
  rcases h.val v hv with h1 | ⟨h1, h2, h3⟩
  · rw [h1]
    exact (least_none fun ⟨k, hk⟩ => by have := hge k hk; omega).symm
  · have := least_eq (p := fun k => Walk (Step g without) k v to) h3 fun j hj => by have := hge j hj; omega
    unfold Ab.dist
    rw [this]
    omega
end Go.Ab
namespace Go.Ab
def ov (out : List Int) (v : Int) : Int := out.getD v.toNat (-1)
theorem ov_get {out : List Int} {v : Int} (h : v.toNat < out.length) : out[v.toNat] = ov out v := by simp [ov, h]
theorem ov_nat {out : List Int} {v : Nat} (h : v < out.length) : out[v] = ov out (v : Int) := by simp [ov, h]
theorem ov_set {out : List Int} {b v x : Int} (hb : 0 ≤ b) (hbl : b.toNat < out.length) (hv : 0 ≤ v) : ov (out.set b.toNat x) v = if v = b then x else ov out v := by
  unfold ov
  rw [List.getD_eq_getElem?_getD, List.getElem?_set, List.getD_eq_getElem?_getD]
  by_cases h : v = b
  · subst h; simp [hbl]
  · rw [if_neg (by omega), if_neg h]
/-- A step along a row, without a node. -/
def RStep (next : List (List Int)) (w a b : Int) : Prop := a ≠ w ∧ b ≠ w ∧ b ∈ next.getD a.toNat []
theorem Walk.snoc {E : Int → Int → Prop} {k : Nat} {a b c : Int} (w : Walk E k a b) (h : E b c) : Walk E (k + 1) a c := by
  induction w with
  | nil a => exact .cons h (.nil c)
  | cons h' w ih => exact .cons h' (ih h)
structure NextOK (next : List (List Int)) : Prop where
  size : next.length ≤ 1024
  rows : ∀ r ∈ next, r.length ≤ 1024
  inr : ∀ r ∈ next, ∀ b ∈ r, 0 ≤ b ∧ b < next.length
structure Bfs (next : List (List Int)) (w a : Int) (i : Nat) (out q : List Int) : Prop where
  len : out.length = next.length
  val : ∀ v : Int, 0 ≤ v → v.toNat < out.length → ov out v = -1 ∨ (0 ≤ ov out v ∧ v ∈ q)
  que : ∀ v ∈ q, 0 ≤ v ∧ v.toNat < out.length ∧ v ≠ w ∧ 0 ≤ ov out v ∧ ov out v < q.length ∧ Walk (RStep next w) (ov out v).toNat a v
  nodup : q.Nodup
  mono : ∀ j k (hj : j < q.length) (hk : k < q.length), j ≤ k → ov out q[j] ≤ ov out q[k]
  near : ∀ j (hj : j < q.length) (hi : i < q.length), ov out q[j] ≤ ov out q[i] + 1
  done : ∀ j (hj : j < q.length), j < i → ∀ b ∈ next.getD q[j].toNat [], b = w ∨ (0 ≤ ov out b ∧ ov out b ≤ ov out q[j] + 1)
  start : a ∈ q ∧ ov out a = 0
  ile : i ≤ q.length
theorem nodup_len {q : List Int} {n : Nat} (h : q.Nodup) (hb : ∀ v ∈ q, 0 ≤ v ∧ v.toNat < n) : q.length ≤ n := by
  have h1 : (q.map Int.toNat).Nodup := by
    rw [List.nodup_iff_pairwise_ne, List.pairwise_map]
    refine (List.nodup_iff_pairwise_ne.1 h).imp_of_mem fun {a b} ha hb' hab => ?_
    have := hb a ha
    have := hb b hb'
    omega
  have h2 : (q.map Int.toNat) ⊆ List.range n := fun x hx => by
    obtain ⟨v, hv, rfl⟩ := List.mem_map.1 hx
    exact List.mem_range.2 (hb v hv).2
  have := List.Nodup.length_le_of_subset h1 h2
  simpa using this
theorem Bfs.begin {next : List (List Int)} {w a : Int} (h0 : 0 ≤ a) (h1 : a.toNat < next.length) (hw : a ≠ w) : Bfs next w a 0 ((List.replicate next.length (-1)).set a.toNat 0) [a] := by
  have hl : (List.replicate next.length (-1 : Int)).length = next.length := by simp
  have hov : ∀ v : Int, 0 ≤ v → ov ((List.replicate next.length (-1)).set a.toNat 0) v = if v = a then 0 else -1 := fun v hv => by
    rw [ov_set h0 (by simpa using h1) hv]
    congr 1
    simp only [ov, List.getD_eq_getElem?_getD, List.getElem?_replicate]
    split <;> rfl
  refine ⟨by simp, fun v hv hvl => ?_, fun v hv => ?_, by simp, fun j k hj hk hjk => ?_, fun j hj hi => ?_, fun j hj hji => by omega, ⟨by simp, by rw [hov a h0]; simp⟩, by simp⟩
  · rw [hov v hv]
    by_cases h : v = a
    · subst h; exact .inr ⟨by simp, by simp⟩
    · exact .inl (by simp [h])
  · simp only [List.mem_singleton] at hv
    subst hv
    rw [hov v h0]
    exact ⟨h0, by simpa using h1, hw, by simp, by simp, by simpa using .nil v⟩
  · obtain rfl : j = 0 := by simpa using hj
    obtain rfl : k = 0 := by simpa using hk
    exact Int.le_refl _
  · obtain rfl : j = 0 := by simpa using hj
    have : ov ((List.replicate next.length (-1 : Int)).set a.toNat 0) ([a][0]) ≤ ov ((List.replicate next.length (-1)).set a.toNat 0) ([a][0]) + 1 := by omega
    exact this
theorem Bfs.qlen {next : List (List Int)} {w a : Int} {i : Nat} {out q : List Int} (h : Bfs next w a i out q) : q.length ≤ next.length :=
  nodup_len h.nodup fun v hv => ⟨(h.que v hv).1, by rw [← h.len]; exact (h.que v hv).2.1⟩
theorem Bfs.lt {next : List (List Int)} {w a : Int} {i : Nat} {out q : List Int} (h : Bfs next w a i out q) {v : Int} (h0 : 0 ≤ v) (hv : v.toNat < out.length) : -1 ≤ ov out v ∧ ov out v < 1 + next.length := by
  have := h.qlen
  rcases h.val v h0 hv with h1 | ⟨h1, h2⟩
  · omega
  · have := (h.que v h2).2.2.2.2.1
    omega
theorem Bfs.push {next : List (List Int)} {w a : Int} {i : Nat} {out q : List Int} (h : Bfs next w a i out q) (hi : i < q.length) {b : Int} (hb : b ∈ next.getD q[i].toNat []) (h0 : 0 ≤ b) (hbl : b.toNat < out.length) (hw : b ≠ w) (hn : ov out b < 0) :
    Bfs next w a i (out.set b.toNat (ov out q[i] + 1)) (q ++ [b]) := by
  have hqi : q[i] ∈ q := List.getElem_mem hi
  obtain ⟨c0, c1, c2, c3, c4, c5⟩ := h.que _ hqi
  have hbq : b ∉ q := fun hm => by have := (h.que b hm).2.2.2.1; omega
  have hov : ∀ v : Int, 0 ≤ v → ov (out.set b.toNat (ov out q[i] + 1)) v = if v = b then ov out q[i] + 1 else ov out v := fun v hv => ov_set h0 hbl hv
  have old : ∀ v ∈ q, ov (out.set b.toNat (ov out q[i] + 1)) v = ov out v := fun v hv => by
    rw [hov v (h.que v hv).1, if_neg (fun he => hbq (by rw [← he]; exact hv))]
  have new : ov (out.set b.toNat (ov out q[i] + 1)) b = ov out q[i] + 1 := by rw [hov b h0, if_pos rfl]
  have grow : ∀ v : Int, 0 ≤ v → 0 ≤ ov out v → ov (out.set b.toNat (ov out q[i] + 1)) v = ov out v := fun v hv hp => by
    rw [hov v hv, if_neg (fun he => by subst he; omega)]
  refine ⟨by simp [h.len], fun v hv hvl => ?_, fun v hv => ?_, ?_, fun j k hj hk hjk => ?_, fun j hj hi' => ?_, fun j hj hji b' hb' => ?_, ⟨List.mem_append_left _ h.start.1, by rw [old a h.start.1]; exact h.start.2⟩, by simp; omega⟩
  · simp only [List.length_set] at hvl
    by_cases he : v = b
    · subst he
      exact .inr ⟨by rw [new]; omega, by simp⟩
    · rw [hov v hv, if_neg he]
      exact (h.val v hv hvl).imp id fun h => ⟨h.1, List.mem_append_left _ h.2⟩
  · simp only [List.length_set, List.length_append, List.length_singleton]
    rcases List.mem_append.1 hv with hv | hv
    · obtain ⟨d0, d1, d2, d3, d4, d5⟩ := h.que v hv
      rw [old v hv]
      exact ⟨d0, d1, d2, d3, by omega, d5⟩
    · simp only [List.mem_singleton] at hv
      subst hv
      rw [new]
      refine ⟨h0, hbl, hw, by omega, by omega, ?_⟩
      rw [show (ov out q[i] + 1).toNat = (ov out q[i]).toNat + 1 from by omega]
      exact c5.snoc ⟨c2, hw, hb⟩
  · rw [List.nodup_append]
    exact ⟨h.nodup, by simp, fun x hx y hy he => by simp at hy; subst hy; subst he; exact hbq hx⟩
  · simp only [List.length_append, List.length_singleton] at hj hk
    rw [List.getElem_append, List.getElem_append]
    by_cases hk' : k < q.length
    · have hj' : j < q.length := by omega
      rw [dif_pos hj', dif_pos hk', old _ (List.getElem_mem hj'), old _ (List.getElem_mem hk')]
      exact h.mono j k hj' hk' hjk
    · rw [dif_neg hk']
      simp only [List.getElem_singleton]
      by_cases hj' : j < q.length
      · rw [dif_pos hj', old _ (List.getElem_mem hj'), new]
        exact h.near j hj' hi
      · rw [dif_neg hj']
        exact Int.le_refl _
  · simp only [List.length_append, List.length_singleton] at hj
    have e1 : (q ++ [b])[i] = q[i] := List.getElem_append_left hi
    rw [e1, old _ hqi, List.getElem_append]
    by_cases hj' : j < q.length
    · rw [dif_pos hj', old _ (List.getElem_mem hj')]
      exact h.near j hj' hi
    · rw [dif_neg hj']
      simp only [List.getElem_singleton]
      rw [new]
      exact Int.le_refl _
  · have hj' : j < q.length := by omega
    have e1 : (q ++ [b])[j] = q[j] := List.getElem_append_left hj'
    rw [e1] at hb' ⊢
    rw [old _ (List.getElem_mem hj')]
    rcases h.done j hj' hji b' hb' with h1 | ⟨h1, h2⟩
    · exact .inl h1
    · by_cases hb0 : 0 ≤ b'
      · rw [grow b' hb0 h1]
        exact .inr ⟨h1, h2⟩
      · refine .inr ?_
        have e2 : ov (out.set b.toNat (ov out q[i] + 1)) b' = ov (out.set b.toNat (ov out q[i] + 1)) 0 := by simp only [ov]; rw [show b'.toNat = (0 : Int).toNat from by omega]
        have e3 : ov out b' = ov out 0 := by simp only [ov]; rw [show b'.toNat = (0 : Int).toNat from by omega]
        rw [e3] at h1 h2
        rw [e2, grow 0 (Int.le_refl _) h1]
        exact ⟨h1, h2⟩
theorem Bfs.next {next : List (List Int)} {w a : Int} {i : Nat} {out q : List Int} (h : Bfs next w a i out q) (hi : i < q.length) (hd : ∀ b ∈ next.getD q[i].toNat [], b = w ∨ (0 ≤ ov out b ∧ ov out b ≤ ov out q[i] + 1)) : Bfs next w a (i + 1) out q := by
  refine ⟨h.len, h.val, h.que, h.nodup, h.mono, fun j hj hi' => ?_, fun j hj hji b hb => ?_, h.start, hi⟩
  · have h1 := h.near j hj hi
    have h2 := h.mono i (i + 1) hi hi' (Nat.le_succ i)
    omega
  · by_cases hji' : j = i
    · subst hji'; exact hd b hb
    · exact h.done j hj (by omega) b hb
/-- The distances from a node along rows. -/
noncomputable def far (next : List (List Int)) (w a v : Int) : Int := least fun k => Walk (RStep next w) k a v
theorem Bfs.fin {next : List (List Int)} {w a : Int} {out q : List Int} (hok : NextOK next) (h : Bfs next w a q.length out q) : out = (List.range next.length).map fun v : Nat => far next w a v := by
  have key : ∀ k u v, Walk (RStep next w) k u v → u ∈ q → 0 ≤ ov out v ∧ ov out v ≤ ov out u + k := by
    intro k u v hw
    induction hw with
    | nil u => intro hu; exact ⟨(h.que u hu).2.2.2.1, by omega⟩
    | @cons u b c k hs hw ih =>
      intro hu
      obtain ⟨j, hj, hju⟩ := List.mem_iff_getElem.1 hu
      obtain ⟨s1, s2, s3⟩ := hs
      have hd := h.done j hj hj b (by rw [hju]; exact s3)
      rw [hju] at hd
      obtain ⟨d1, d2⟩ := hd.resolve_left s2
      obtain ⟨u0, u1, _⟩ := h.que u hu
      have hrow : next.getD u.toNat [] ∈ next := by
        rw [List.getD_eq_getElem?_getD, List.getElem?_eq_getElem (by rw [← h.len]; exact u1)]
        exact List.getElem_mem _
      obtain ⟨b0, b1⟩ := hok.inr _ hrow b s3
      have hbq : b ∈ q := ((h.val b b0 (by rw [h.len]; omega)).resolve_left (by omega)).2
      obtain ⟨i1, i2⟩ := ih hbq
      exact ⟨i1, by omega⟩
  refine List.ext_getElem (by simp [h.len]) fun v h1 h2 => ?_
  rw [List.getElem_map, List.getElem_range, ov_nat h1]
  unfold far
  rcases h.val v (by omega) (by simpa using h1) with h3 | ⟨h3, h4⟩
  · rw [h3, least_none]
    rintro ⟨k, hk⟩
    have := (key k a v hk h.start.1).1
    omega
  · obtain ⟨_, _, _, _, _, hwk⟩ := h.que v h4
    rw [least_eq (k := (ov out v).toNat) hwk fun j hj => ?_]
    · omega
    · have := (key j a v hj h.start.1).2
      rw [h.start.2] at this
      omega
end Go.Ab
