/-
  One text of the proof (own work): contracts of functions of the program, by the abstract machine.
-/
import Derived.Test.YtpecnbkfahekdaaA21
set_option linter.unusedVariables false
set_option linter.unusedSimpArgs false
namespace Go.Ab
open Go Go.RowKit Go.Proofs
set_option maxRecDepth 4000
set_option maxHeartbeats 4000000

/-! ### Order, by counts of open edges -/
/-- A list over the nodes. -/
def tab (n : Nat) (f : Nat → Int) : List Int := (List.range n).map f
theorem tab_len (n : Nat) (f : Nat → Int) : (tab n f).length = n := by simp [tab]
theorem tab_get {n : Nat} {f : Nat → Int} {v : Nat} (h : v < (tab n f).length) : (tab n f)[v] = f v := by simp [tab]
theorem tab_set {n : Nat} {f : Nat → Int} {v : Nat} (x : Int) : (tab n f).set v x = tab n fun u => if u = v then x else f u := by
  refine List.ext_getElem (by simp [tab]) fun i h1 h2 => ?_
  rw [List.getElem_set]
  simp only [tab, List.getElem_map, List.getElem_range]
  by_cases h : v = i
  · simp [h]
  · simp [h, Ne.symm h]
theorem tab_congr {n : Nat} {f g : Nat → Int} (h : ∀ v, v < n → f v = g v) : tab n f = tab n g := List.map_congr_left fun v hv => h v (List.mem_range.1 hv)
/-- The rows, in full. -/
theorem nbFold_row (back : Bool) : ∀ (es : List Edge) (L : List (List Int)), (∀ e ∈ es, (ends back e).1.toNat < L.length) → ∀ a : Nat, (es.foldl (nbAdd back) L).getD a [] = L.getD a [] ++ (es.filter fun e => decide ((ends back e).1.toNat = a)).map fun e => (ends back e).2
  | [], L, h, a => by simp
  | e :: es, L, h, a => by
    have h0 := h e List.mem_cons_self
    rw [List.foldl_cons, nbFold_row back es _ (fun x hx => by rw [nbAdd_len]; exact h x (List.mem_cons_of_mem _ hx))]
    by_cases he : (ends back e).1.toNat = a
    · subst he
      simp [nbAdd, List.getD_eq_getElem?_getD, List.getElem?_set, h0]
    · simp [nbAdd, List.getD_eq_getElem?_getD, List.getElem?_set, he]
theorem nbs_row {g : Graph} (h : InRange g) {a : Nat} : (nbs g false).getD a [] = (g.edges.filter fun e => decide (e.fr = (a : Int))).map fun e => e.to := by
  unfold nbs
  rw [nbFold_row false g.edges _ (fun e he => by have := ends_in h false he; simp; omega)]
  have h1 : (List.replicate g.nodes.length ([] : List Int)).getD a [] = [] := by
    simp only [List.getD_eq_getElem?_getD, List.getElem?_replicate]
    split <;> rfl
  rw [h1, List.nil_append]
  simp only [ends, Bool.false_eq_true, if_false]
  congr 1
  refine List.filter_congr fun e he => ?_
  have := h e he
  rw [decide_eq_decide]
  omega
theorem count_row {g : Graph} (h : InRange g) {a : Nat} (b : Int) : ((nbs g false).getD a []).count b = g.edges.countP fun e => decide (e.fr = (a : Int)) && decide (e.to = b) := by
  rw [nbs_row h, List.count, List.countP_map, List.countP_filter]
  refine List.countP_congr fun e _ => ?_
  simp [and_comm]
/-- Open edges to a node; -1 for one that was taken. -/
def opn (g : Graph) (t : List Bool) (v : Nat) : Int := if tk t v then -1 else (g.edges.countP fun e => decide (e.to = (v : Int)) && !tk t e.fr)
def Shut (g : Graph) (t : List Bool) : Prop := ∀ e ∈ g.edges, tk t e.to = true → tk t e.fr = true
theorem tk_set {t : List Bool} {v : Nat} (hv : v < t.length) {u : Int} (hu : 0 ≤ u) : tk (t.set v true) u = (decide (u = v) || tk t u) := by
  unfold tk
  rw [List.getD_eq_getElem?_getD, List.getElem?_set, List.getD_eq_getElem?_getD]
  by_cases h : u = v
  · subst h; simp [hv]
  · have : ¬ v = u.toNat := by omega
    simp [h, this]
theorem ready_iff {g : Graph} {t : List Bool} {v : Nat} : ready g t v = true ↔ opn g t v = 0 := by
  unfold ready opn
  cases tk t v
  · simp only [Bool.not_false, Bool.true_and, Bool.false_eq_true, if_false]
    rw [Bool.not_eq_true', List.any_eq_false]
    constructor
    · intro h
      have : g.edges.countP (fun e => decide (e.to = (v : Int)) && !tk t e.fr) = 0 := List.countP_eq_zero.2 fun e he => by simpa using h e he
      omega
    · intro h e he
      have h2 : g.edges.countP (fun e => decide (e.to = (v : Int)) && !tk t e.fr) = 0 := by omega
      have := List.countP_eq_zero.1 h2 e he
      simpa using this
  · simp
theorem opn_take {g : Graph} (h : InRange g) {t : List Bool} (ht : t.length = g.nodes.length) (hs : Shut g t) {n : Nat} (hn : n < g.nodes.length) (hr : ready g t n = true) :
    Shut g (t.set n true) ∧ ∀ v, v < g.nodes.length → opn g (t.set n true) v = (if v = n then -1 else opn g t v) - ((nbs g false).getD n []).count (v : Int) := by
  have hr2 := hr
  simp only [ready, Bool.and_eq_true, Bool.not_eq_true'] at hr2
  obtain ⟨hr0, hr1⟩ := hr2
  rw [List.any_eq_false] at hr1
  have htk := fun (u : Int) (hu : 0 ≤ u) => tk_set (t := t) (v := n) (by omega) hu
  refine ⟨fun e he => ?_, fun v hv => ?_⟩
  · obtain ⟨r1, r2, r3, r4⟩ := h e he
    rw [htk _ r1, htk _ r3]
    intro h1
    simp only [Bool.or_eq_true, decide_eq_true_eq] at h1 ⊢
    rcases h1 with h1 | h1
    · have := hr1 e he
      simp [h1] at this
      exact .inr this
    · exact .inr (hs e he h1)
  · rw [count_row h]
    by_cases hvn : v = n
    · subst hvn
      have h0 : g.edges.countP (fun e => decide (e.fr = (v : Int)) && decide (e.to = (v : Int))) = 0 := List.countP_eq_zero.2 fun e he => by
        have := hr1 e he
        simp only [Bool.and_eq_true, decide_eq_true_eq, not_and]
        intro h1 h2
        rw [h1] at this
        simp [h2, hr0] at this
      rw [h0]
      simp [opn, htk]
    · rw [if_neg hvn]
      unfold opn
      rw [htk _ (by omega)]
      have hd : decide ((v : Int) = (n : Int)) = false := by simp; omega
      rw [hd, Bool.false_or]
      cases hv2 : tk t v with
      | true =>
        have h0 : g.edges.countP (fun e => decide (e.fr = (n : Int)) && decide (e.to = (v : Int))) = 0 := List.countP_eq_zero.2 fun e he => by
          simp only [Bool.and_eq_true, decide_eq_true_eq, not_and]
          intro h1 h2
          have := hs e he (by rw [h2]; exact hv2)
          rw [h1, hr0] at this; cases this
        rw [h0]
        simp
      | false =>
        simp only [Bool.false_eq_true, if_false]
        have key : g.edges.countP (fun e => decide (e.to = (v : Int)) && !tk t e.fr) = g.edges.countP (fun e => decide (e.to = (v : Int)) && !tk (t.set n true) e.fr) + g.edges.countP (fun e => decide (e.fr = (n : Int)) && decide (e.to = (v : Int))) := by
          have : ∀ es : List Edge, (∀ e ∈ es, e ∈ g.edges) → es.countP (fun e => decide (e.to = (v : Int)) && !tk t e.fr) = es.countP (fun e => decide (e.to = (v : Int)) && !tk (t.set n true) e.fr) + es.countP (fun e => decide (e.fr = (n : Int)) && decide (e.to = (v : Int))) := by
            intro es
            induction es with
            | nil => intro _; rfl
            | cons e es ih =>
              intro hm
              obtain ⟨r1, _, _, _⟩ := h e (hm e List.mem_cons_self)
              rw [List.countP_cons, List.countP_cons, List.countP_cons, ih fun x hx => hm x (List.mem_cons_of_mem _ hx), htk _ r1]
              by_cases h1 : e.to = (v : Int)
              · by_cases h2 : e.fr = (n : Int)
                · simp [h1, h2, hr0]; omega
                · simp [h1, h2]; omega
              · simp [h1]
          exact this g.edges fun _ h => h
        omega
end Go.Ab
