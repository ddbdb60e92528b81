/-
  One text of the proof (own work): contracts of functions of the program, by the abstract machine.
-/
import Derived.Test.YtpecnbkfahekdaaA22
set_option linter.unusedVariables false
set_option linter.unusedSimpArgs false
namespace Go.Ab
open Go Go.RowKit Go.Proofs
set_option maxRecDepth 4000
set_option maxHeartbeats 1000000

/-! ### What an order is, and depths -/
structure Topo (g : Graph) (l : List Int) : Prop where
  nodup : l.Nodup
  inr : ∀ v ∈ l, 0 ≤ v ∧ v < g.nodes.length
  pre : ∀ p v q, l = p ++ v :: q → ∀ e ∈ g.edges, e.to = v → e.fr ∈ p
theorem Topo.snoc {g : Graph} {l : List Int} (h : Topo g l) {v : Int} (h0 : 0 ≤ v) (h1 : v < g.nodes.length) (hv : v ∉ l) (hp : ∀ e ∈ g.edges, e.to = v → e.fr ∈ l) : Topo g (l ++ [v]) := by
  refine ⟨?_, fun u hu => ?_, fun p u q he => ?_⟩
  · rw [List.nodup_append]
    exact ⟨h.nodup, by simp, fun x hx y hy he => by simp at hy; subst hy; subst he; exact hv hx⟩
  · rcases List.mem_append.1 hu with hu | hu
    · exact h.inr u hu
    · simp at hu; subst hu; exact ⟨h0, h1⟩
  · rcases List.eq_nil_or_concat q with rfl | ⟨q', x, rfl⟩
    · have h2 := List.append_inj' he rfl
      simp only [List.cons.injEq, and_true] at h2
      obtain ⟨rfl, rfl⟩ := h2
      exact hp
    · have h2 : l ++ [v] = (p ++ u :: q') ++ [x] := by rw [he]; simp
      obtain ⟨h3, _⟩ := List.append_inj' h2 rfl
      exact h.pre p u q' h3
theorem ord_topo {g : Graph} : ∀ (k : Nat) (t : List Bool) (acc l : List Int), ord g k t acc = some l → t.length = g.nodes.length → (∀ u : Int, 0 ≤ u → (tk t u = true ↔ u ∈ acc)) → Topo g acc → (∀ e ∈ g.edges, 0 ≤ e.fr) → Topo g l ∧ l.length = acc.length + k
  | 0, t, acc, l, h, ht, hacc, hto, hin => by
    simp only [ord, Option.some.injEq] at h
    subst h
    exact ⟨hto, rfl⟩
  | k + 1, t, acc, l, h, ht, hacc, hto, hin => by
    simp only [ord] at h
    split at h
    · rename_i hf
      have hr := firstR_at hf
      simp only [ready, Bool.and_eq_true, Bool.not_eq_true'] at hr
      obtain ⟨hr0, hr1⟩ := hr
      rw [List.any_eq_false] at hr1
      generalize firstR g t = v at *
      have hnew := hto.snoc (v := (v : Int)) (by omega) (by omega) (fun hm => by rw [(hacc _ (by omega)).2 hm] at hr0; cases hr0) fun e he hev => by
        have := hr1 e he
        simp [hev] at this
        exact (hacc _ (hin e he)).1 this
      obtain ⟨h2, h3⟩ := ord_topo k _ _ l h (by simp [ht]) (fun u hu => by rw [tk_set (by omega) hu]; simp [hacc u hu, or_comm]) hnew hin
      exact ⟨h2, by rw [h3]; simp; omega⟩
    · cases h
theorem Topo.all {g : Graph} {l : List Int} (h : Topo g l) (hl : l.length = g.nodes.length) {v : Int} (h0 : 0 ≤ v) (h1 : v < g.nodes.length) : v ∈ l := by
  rcases Classical.em (v ∈ l) with hm | hm
  · exact hm
  · have := nodup_len (q := v :: l) (n := g.nodes.length) (List.nodup_cons.2 ⟨hm, h.nodup⟩) fun u hu => by
      rcases List.mem_cons.1 hu with rfl | hu
      · omega
      · have := h.inr u hu; omega
    simp at this
    omega
/-- The order of a graph. -/
def ordL (g : Graph) : Option (List Int) := ord g g.nodes.length (List.replicate g.nodes.length false) []
theorem tk_rep (n : Nat) (u : Int) : tk (List.replicate n false) u = false := by
  unfold tk
  rw [List.getD_eq_getElem?_getD, List.getElem?_replicate]
  split <;> rfl
theorem ordL_topo {g : Graph} (hin : InRange g) {l : List Int} (h : ordL g = some l) : Topo g l ∧ l.length = g.nodes.length := by
  obtain ⟨h1, h2⟩ := ord_topo _ _ _ l h (by simp) (fun u _ => by rw [tk_rep]; simp) ⟨by simp, by simp, fun p v q he => by simp at he⟩ fun e he => (hin e he).1
  exact ⟨h1, by simpa using h2⟩
/-- The greatest of 0 and the places behind the beginnings of some edges. -/
def MaxIn (es : List Edge) (S : Edge → Prop) (o : List Int) (x : Int) : Prop := 0 ≤ x ∧ (∀ e ∈ es, S e → ov o e.fr + 1 ≤ x) ∧ (x = 0 ∨ ∃ e ∈ es, S e ∧ x = ov o e.fr + 1)
theorem MaxIn.uniq {es : List Edge} {S : Edge → Prop} {o o' : List Int} {x y : Int} (h : MaxIn es S o x) (h' : MaxIn es S o' y) (he : ∀ e ∈ es, S e → ov o e.fr = ov o' e.fr) : x = y := by
  obtain ⟨a1, a2, a3⟩ := h
  obtain ⟨b1, b2, b3⟩ := h'
  have h1 : x ≤ y := by
    rcases a3 with rfl | ⟨e, he1, he2, rfl⟩
    · exact b1
    · rw [he e he1 he2]; exact b2 e he1 he2
  have h2 : y ≤ x := by
    rcases b3 with rfl | ⟨e, he1, he2, rfl⟩
    · exact a1
    · rw [← he e he1 he2]; exact a2 e he1 he2
  omega
theorem MaxIn.congr {es : List Edge} {S S' : Edge → Prop} {o o' : List Int} {x : Int} (h : MaxIn es S o x) (hS : ∀ e ∈ es, S e ↔ S' e) (he : ∀ e ∈ es, S e → ov o e.fr = ov o' e.fr) : MaxIn es S' o' x := by
  obtain ⟨a1, a2, a3⟩ := h
  refine ⟨a1, fun e h1 h2 => ?_, ?_⟩
  · rw [← he e h1 ((hS e h1).2 h2)]; exact a2 e h1 ((hS e h1).2 h2)
  · rcases a3 with h | ⟨e, h1, h2, h3⟩
    · exact .inl h
    · exact .inr ⟨e, h1, (hS e h1).1 h2, by rw [← he e h1 h2]; exact h3⟩
def IsDep (g : Graph) (o : List Int) : Prop := o.length = g.nodes.length ∧ ∀ v : Int, 0 ≤ v → v < g.nodes.length → MaxIn g.edges (fun e => e.to = v) o (ov o v)
theorem dep_uniq {g : Graph} (hin : InRange g) {l : List Int} (ht : Topo g l) (hl : l.length = g.nodes.length) {o o' : List Int} (h : IsDep g o) (h' : IsDep g o') : o = o' := by
  have key : ∀ (k : Nat) (p q : List Int), p.length = k → l = p ++ q → ∀ v ∈ p, ov o v = ov o' v := by
    intro k
    induction k with
    | zero => intro p q hp _ v hv; rw [List.eq_nil_of_length_eq_zero hp] at hv; cases hv
    | succ k ih =>
      intro p q hp hq v hv
      rcases List.eq_nil_or_concat p with rfl | ⟨p, x, rfl⟩
      · cases hv
      have hq' : l = p ++ x :: q := by rw [hq]; simp
      have hp' : p.length = k := by simpa using hp
      rw [List.concat_eq_append] at hv
      rcases List.mem_append.1 hv with hv | hv
      · exact ih p _ hp' hq' v hv
      · simp at hv
        subst hv
        obtain ⟨h0, h1⟩ := ht.inr v (by rw [hq']; simp)
        exact (h.2 v h0 h1).uniq (h'.2 v h0 h1) fun e he hev => ih p _ hp' hq' _ (ht.pre p v q hq' e he hev)
  refine List.ext_getElem (by rw [h.1, h'.1]) fun i h1 h2 => ?_
  rw [ov_nat h1, ov_nat h2]
  exact key _ l [] rfl (by simp) _ (ht.all hl (by omega) (by have := h.1; omega))
open Classical in
noncomputable def dep (g : Graph) : List Int := if h : ∃ o, IsDep g o then h.choose else []
theorem dep_eq {g : Graph} (hin : InRange g) {l : List Int} (h : ordL g = some l) {o : List Int} (ho : IsDep g o) : dep g = o := by
  obtain ⟨ht, hl⟩ := ordL_topo hin h
  have hh : ∃ o, IsDep g o := ⟨o, ho⟩
  unfold dep
  rw [dif_pos hh]
  exact dep_uniq hin ht hl hh.choose_spec ho
noncomputable def depR (g : Graph) : D := if chk g = 0 then match ordL g with
    | some _ => .tup [ints (dep g), i64 0]
    | none => .tup [.list [], i64 12]
  else .tup [.list [], i64 1]
/-! One node after the other, edges forward -/
structure Fwd (g : Graph) (p : List Int) (o : List Int) : Prop where
  len : o.length = g.nodes.length
  val : ∀ w : Int, 0 ≤ w → w < g.nodes.length → MaxIn g.edges (fun e => e.to = w ∧ e.fr ∈ p) o (ov o w)
  bd : ∀ w : Int, 0 ≤ w → w < g.nodes.length → ov o w ≤ p.length
structure FwdIn (g : Graph) (p : List Int) (n : Int) (ts : List Int) (o : List Int) : Prop where
  len : o.length = g.nodes.length
  val : ∀ w : Int, 0 ≤ w → w < g.nodes.length → MaxIn g.edges (fun e => e.to = w ∧ (e.fr ∈ p ∨ (e.fr = n ∧ w ∈ ts))) o (ov o w)
  bd : ∀ w : Int, 0 ≤ w → w < g.nodes.length → ov o w ≤ p.length + 1
  own : ov o n ≤ p.length
theorem Fwd.enter {g : Graph} {p : List Int} {o : List Int} (h : Fwd g p o) {n : Int} (h0 : 0 ≤ n) (h1 : n < g.nodes.length) : FwdIn g p n [] o :=
  ⟨h.len, fun w a b => (h.val w a b).congr (fun e _ => by simp) (fun _ _ _ => rfl), fun w a b => by have := h.bd w a b; omega, h.bd n h0 h1⟩
theorem FwdIn.step {g : Graph} (hin : InRange g) {p ts : List Int} {n b : Int} {o : List Int} (h : FwdIn g p n ts o) (hbp : b ∉ p) (hbn : b ≠ n) (hb0 : 0 ≤ b) (hb1 : b < g.nodes.length) (he : ∃ e ∈ g.edges, e.fr = n ∧ e.to = b) :
    FwdIn g p n (ts ++ [b]) (o.set b.toNat (max (ov o b) (ov o n + 1))) := by
  have hl := h.len
  obtain ⟨e0, hm0, hf0, ht0⟩ := he
  obtain ⟨n0, n1, _, _⟩ := hin e0 hm0
  rw [hf0] at n0 n1
  have hov : ∀ v : Int, 0 ≤ v → ov (o.set b.toNat (max (ov o b) (ov o n + 1))) v = if v = b then max (ov o b) (ov o n + 1) else ov o v := fun v hv => ov_set hb0 (by omega) hv
  have hfr : ∀ e ∈ g.edges, (e.fr ∈ p ∨ e.fr = n) → ov (o.set b.toNat (max (ov o b) (ov o n + 1))) e.fr = ov o e.fr := fun e hm hor => by
    rw [hov _ (hin e hm).1, if_neg]
    rintro h2
    rcases hor with h3 | h3
    · rw [h2] at h3; exact hbp h3
    · rw [h2] at h3; exact hbn h3
  refine ⟨by simp [hl], fun w w0 w1 => ?_, fun w w0 w1 => ?_, ?_⟩
  · rw [hov w w0]
    obtain ⟨a1, a2, a3⟩ := h.val w w0 w1
    by_cases hwb : w = b
    · subst hwb
      rw [if_pos rfl]
      refine ⟨by omega, fun e hm ⟨h1, h2⟩ => ?_, ?_⟩
      · rw [hfr e hm (h2.imp id And.left)]
        rcases h2 with h2 | ⟨h2, _⟩
        · have := a2 e hm ⟨h1, .inl h2⟩; omega
        · rw [h2]; omega
      · by_cases hmx : ov o n + 1 ≤ ov o w
        · rw [show max (ov o w) (ov o n + 1) = ov o w from by omega]
          rcases a3 with h3 | ⟨e, hm, ⟨h1, h2⟩, h3⟩
          · exact .inl h3
          · refine .inr ⟨e, hm, ⟨h1, h2.imp id fun h => ⟨h.1, List.mem_append_left _ h.2⟩⟩, ?_⟩
            have := hfr e hm (h2.imp id And.left)
            rw [show max (ov o w) (ov o n + 1) = ov o w from by omega] at this
            rw [this]; exact h3
        · refine .inr ⟨e0, hm0, ⟨ht0, .inr ⟨hf0, by simp⟩⟩, ?_⟩
          rw [hfr e0 hm0 (.inr hf0), hf0]
          omega
    · rw [if_neg hwb]
      exact MaxIn.congr ⟨a1, a2, a3⟩ (fun e _ => by simp [hwb]) fun e hm ⟨_, h2⟩ => (hfr e hm (h2.imp id And.left)).symm
  · rw [hov w w0]
    have := h.own
    have := h.bd w w0 w1
    split
    · rename_i hh; rw [hh] at this; omega
    · omega
  · rw [hov n n0, if_neg (Ne.symm hbn)]
    exact h.own
theorem FwdIn.leave {g : Graph} {p ts : List Int} {n : Int} {o : List Int} (h : FwdIn g p n ts o) (hts : ∀ e ∈ g.edges, e.fr = n → e.to ∈ ts) : Fwd g (p ++ [n]) o :=
  ⟨h.len, fun w a b => (h.val w a b).congr (fun e hm => by
    simp only [List.mem_append, List.mem_singleton]
    constructor
    · rintro ⟨h1, h2⟩; exact ⟨h1, h2.imp id And.left⟩
    · rintro ⟨h1, h2⟩; exact ⟨h1, h2.imp id fun h3 => ⟨h3, by rw [← h1]; exact hts e hm h3⟩⟩) (fun _ _ _ => rfl), fun w a b => by have := h.bd w a b; simp; omega⟩
theorem Fwd.dep {g : Graph} (hin : InRange g) {l o : List Int} (ht : Topo g l) (hl : l.length = g.nodes.length) (h : Fwd g l o) : IsDep g o :=
  ⟨h.len, fun w a b => (h.val w a b).congr (fun e hm => by
    obtain ⟨r1, r2, _, _⟩ := hin e hm
    simp [ht.all hl r1 r2]) fun _ _ _ => rfl⟩
/-! One node after the other, edges looked up -/
structure Bwd (g : Graph) (p : List Int) (o : List Int) : Prop where
  len : o.length = g.nodes.length
  val : ∀ w ∈ p, MaxIn g.edges (fun e => e.to = w) o (ov o w)
  rest : ∀ w : Int, 0 ≤ w → w < g.nodes.length → w ∉ p → ov o w = 0
  bd : ∀ w : Int, 0 ≤ w → w < g.nodes.length → ov o w ≤ p.length
structure BwdIn (g : Graph) (p : List Int) (n : Int) (j : Nat) (o : List Int) : Prop where
  len : o.length = g.nodes.length
  val : ∀ w ∈ p, MaxIn g.edges (fun e => e.to = w) o (ov o w)
  here : MaxIn (g.edges.take j) (fun e => e.to = n) o (ov o n)
  rest : ∀ w : Int, 0 ≤ w → w < g.nodes.length → w ∉ p → w ≠ n → ov o w = 0
  bd : ∀ w : Int, 0 ≤ w → w < g.nodes.length → w ≠ n → ov o w ≤ p.length
  bdn : ov o n ≤ p.length + 1
theorem Bwd.enter {g : Graph} {p : List Int} {o : List Int} (h : Bwd g p o) {n : Int} (h0 : 0 ≤ n) (h1 : n < g.nodes.length) (hn : n ∉ p) : BwdIn g p n 0 o := by
  have hz := h.rest n h0 h1 hn
  exact ⟨h.len, h.val, ⟨by omega, fun e he => by simp at he, .inl hz⟩, fun w a b c _ => h.rest w a b c, fun w a b _ => h.bd w a b, by omega⟩
theorem MaxIn.more {es : List Edge} {S : Edge → Prop} {o : List Int} {x : Int} (h : MaxIn es S o x) {e : Edge} (he : S e → ov o e.fr + 1 ≤ x) : MaxIn (es ++ [e]) S o x := by
  obtain ⟨a1, a2, a3⟩ := h
  refine ⟨a1, fun e' h1 h2 => ?_, a3.imp id fun ⟨e', h1, h2⟩ => ⟨e', List.mem_append_left _ h1, h2⟩⟩
  rcases List.mem_append.1 h1 with h1 | h1
  · exact a2 e' h1 h2
  · simp at h1; subst h1; exact he h2
theorem BwdIn.skip {g : Graph} {p : List Int} {n : Int} {j : Nat} {o : List Int} (h : BwdIn g p n j o) (hj : j < g.edges.length) (he : g.edges[j].to = n → ov o g.edges[j].fr + 1 ≤ ov o n) : BwdIn g p n (j + 1) o :=
  ⟨h.len, h.val, by rw [List.take_add_one, List.getElem?_eq_getElem hj]; exact h.here.more he, h.rest, h.bd, h.bdn⟩
theorem BwdIn.up {g : Graph} (hin : InRange g) {p : List Int} {n : Int} {j : Nat} {o : List Int} (h : BwdIn g p n j o) (hj : j < g.edges.length) (ht : g.edges[j].to = n) (hn : n ∉ p) (hpre : ∀ e ∈ g.edges, e.to = n → e.fr ∈ p)
    (hcl : ∀ e ∈ g.edges, e.to ∈ p → e.fr ∈ p) (hp : ∀ w ∈ p, 0 ≤ w ∧ w < g.nodes.length) (hup : ov o n < ov o g.edges[j].fr + 1) : BwdIn g p n (j + 1) (o.set n.toNat (ov o g.edges[j].fr + 1)) := by
  have hl := h.len
  have hm := List.getElem_mem hj
  obtain ⟨_, _, n0, n1⟩ := hin _ hm
  rw [ht] at n0 n1
  have hov : ∀ (x v : Int), 0 ≤ v → ov (o.set n.toNat x) v = if v = n then x else ov o v := fun x v hv => ov_set n0 (by omega) hv
  have hne : ∀ w ∈ p, w ≠ n := fun w hw he => hn (he ▸ hw)
  have hfj := hpre _ hm ht
  generalize hx : ov o g.edges[j].fr + 1 = x at hup
  have hfr : ∀ w ∈ p, ov (o.set n.toNat x) w = ov o w := fun w hw => by rw [hov x w (hp w hw).1, if_neg (hne w hw)]
  have hfb := h.bd _ (hp _ hfj).1 (hp _ hfj).2 (hne _ hfj)
  have hnn : ov (o.set n.toNat x) n = x := by rw [hov x n n0, if_pos rfl]
  refine ⟨by simp [hl], fun w hw => ?_, ?_, fun w a b c d => ?_, fun w a b c => ?_, by rw [hnn]; omega⟩
  · rw [hfr w hw]
    exact (h.val w hw).congr (fun _ _ => Iff.rfl) fun e he hew => (hfr _ (hcl e he (by rw [hew]; exact hw))).symm
  · rw [hnn, List.take_add_one, List.getElem?_eq_getElem hj]
    obtain ⟨a1, a2, a3⟩ := h.here
    refine ⟨by omega, fun e he hen => ?_, .inr ⟨g.edges[j], List.mem_append_right _ (List.mem_singleton.2 rfl), ht, by rw [hfr _ hfj]; exact hx.symm⟩⟩
    have hem : e ∈ g.edges := by
      rcases List.mem_append.1 he with he | he
      · exact List.mem_of_mem_take he
      · simp at he; subst he; exact hm
    rw [hfr _ (hpre e hem hen)]
    rcases List.mem_append.1 he with he | he
    · have := a2 e he hen; omega
    · simp at he; subst he; omega
  · rw [hov x w a, if_neg d]; exact h.rest w a b c d
  · rw [hov x w a, if_neg c]; exact h.bd w a b c
theorem BwdIn.leave {g : Graph} {p : List Int} {n : Int} {o : List Int} (h : BwdIn g p n g.edges.length o) : Bwd g (p ++ [n]) o := by
  refine ⟨h.len, fun w hw => ?_, fun w a b c => ?_, fun w a b => ?_⟩
  · rcases List.mem_append.1 hw with hw | hw
    · exact h.val w hw
    · simp at hw
      subst hw
      have := h.here
      rw [List.take_length] at this
      exact this
  · simp only [List.mem_append, List.mem_singleton, not_or] at c
    exact h.rest w a b c.1 c.2
  · simp only [List.length_append, List.length_singleton]
    by_cases hwn : w = n
    · subst hwn; have := h.bdn; omega
    · have := h.bd w a b hwn; omega
theorem Bwd.dep {g : Graph} {l o : List Int} (ht : Topo g l) (hl : l.length = g.nodes.length) (h : Bwd g l o) : IsDep g o := ⟨h.len, fun w a b => h.val w (ht.all hl a b)⟩
end Go.Ab
