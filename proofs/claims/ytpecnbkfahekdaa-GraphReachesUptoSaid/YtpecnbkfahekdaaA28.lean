/-
  One text of the proof (own work): contracts of functions of the program, by the abstract machine.
-/
import Derived.Test.YtpecnbkfahekdaaA17
import Derived.Test.YtpecnbkfahekdaaA11
import Derived.Test.YtpecnbkfahekdaaA27
set_option linter.unusedVariables false
set_option linter.unusedSimpArgs false
namespace Go.Ab
open Go Go.RowKit Go.Proofs
set_option maxRecDepth 4000
set_option maxHeartbeats 1000000

/-! ### Chains from a node to itself -/
theorem Walk.first {E : Int → Int → Prop} {k : Nat} {a c : Int} (w : Walk E (k + 1) a c) : ∃ b, E a b ∧ Walk E k b c := by
  cases w with
  | cons h w => exact ⟨_, h, w⟩
theorem Walk.last {E : Int → Int → Prop} : ∀ {k : Nat} {a c : Int}, Walk E (k + 1) a c → ∃ b, Walk E k a b ∧ E b c
  | 0, a, c, w => by
    obtain ⟨b, h, w⟩ := w.first
    cases w
    exact ⟨a, .nil a, h⟩
  | k + 1, a, c, w => by
    obtain ⟨b, h, w⟩ := w.first
    obtain ⟨d, w', h'⟩ := w.last
    exact ⟨d, .cons h w', h'⟩
theorem step_iff {g : Graph} (h : InRange g) {a b : Int} : Step g (-1) a b ↔ ∃ e ∈ g.edges, e.fr = a ∧ e.to = b := by
  refine ⟨fun ⟨_, _, h⟩ => h, fun ⟨e, he, h1, h2⟩ => ?_⟩
  obtain ⟨r1, _, r3, _⟩ := h e he
  exact ⟨by omega, by omega, e, he, h1, h2⟩
theorem leads_iff {g : Graph} (h : InRange g) {a b : Int} : leads g a b = true ↔ ∃ k, Walk (Step g (-1)) (k + 1) a b := by
  simp only [leads, List.any_eq_true, decide_eq_true_eq]
  constructor
  · rintro ⟨e, he, rfl, hd⟩
    exact ⟨_, .cons ((step_iff h).2 ⟨e, he, rfl, rfl⟩) (walk_dist hd)⟩
  · rintro ⟨k, w⟩
    obtain ⟨c, hs, w⟩ := w.first
    obtain ⟨e, he, rfl, rfl⟩ := (step_iff h).1 hs
    exact ⟨e, he, rfl, (dist_walk w).1⟩
theorem leads_far {g : Graph} (h : InRange g) {a b : Int} (hab : a ≠ b) : leads g a b = decide (0 < dist g (-1) a b) := by
  rw [Bool.eq_iff_iff, leads_iff h, decide_eq_true_eq]
  constructor
  · rintro ⟨k, w⟩
    have h1 := (dist_walk w).1
    rcases Int.lt_or_eq_of_le h1 with h2 | h2
    · exact h2
    · exact absurd (dist_zero h2.symm) hab
  · intro hd
    have w := walk_dist (Int.le_of_lt hd)
    obtain ⟨k, hk⟩ : ∃ k, (dist g (-1) a b).toNat = k + 1 := ⟨(dist g (-1) a b).toNat - 1, by omega⟩
    rw [hk] at w
    exact ⟨k, w⟩
/-- The row of a node. -/
def rowOf (g : Graph) (back : Bool) (v : Int) : List Int := (nbs g back).getD v.toNat []
/-- How far a node is, from a node or with 'back' to it. -/
noncomputable def farD (g : Graph) (back : Bool) (a v : Int) : Int := if back then dist g (-1) v a else dist g (-1) a v
noncomputable def farSet (g : Graph) (back : Bool) (a : Int) : List Int := sieve g.nodes.length fun i => decide (0 < farD g back a i)
noncomputable def loopAt (g : Graph) (back : Bool) (a : Int) : Bool := (rowOf g back a).contains a || (farSet g back a).any fun n => (rowOf g back n).contains a
theorem sieve_mem {n : Nat} {p : Nat → Bool} {x : Int} : x ∈ sieve n p ↔ 0 ≤ x ∧ x < n ∧ p x.toNat = true := by
  simp only [sieve, List.mem_map, List.mem_filter, List.mem_range]
  constructor
  · rintro ⟨i, ⟨h1, h2⟩, rfl⟩
    exact ⟨by omega, by omega, by simpa using h2⟩
  · rintro ⟨h1, h2, h3⟩
    exact ⟨x.toNat, ⟨by omega, h3⟩, by omega⟩
theorem loopAt_eq {g : Graph} (h : InRange g) (back : Bool) {a : Int} (h0 : 0 ≤ a) : loopAt g back a = leads g a a := by
  have hrow : ∀ {b : Int}, 0 ≤ b → ((rowOf g back b).contains a = true ↔ if back then Step g (-1) a b else Step g (-1) b a) := fun {b} hb => by
    rw [List.contains_iff_mem, rowOf, nbs_mem h back hb]
    cases back with
    | true => simp only [if_true, step_iff h, ends, Prod.mk.injEq]; exact ⟨fun ⟨e, he, h1, h2⟩ => ⟨e, he, h2, h1⟩, fun ⟨e, he, h1, h2⟩ => ⟨e, he, h2, h1⟩⟩
    | false => simp only [Bool.false_eq_true, if_false, step_iff h, ends, Prod.mk.injEq]
  rw [Bool.eq_iff_iff, leads_iff h, loopAt, Bool.or_eq_true, List.any_eq_true, hrow h0]
  constructor
  · rintro (h1 | ⟨n, hn, h2⟩)
    · have h1' : Step g (-1) a a := by
        revert h1
        cases back <;> simp
      exact ⟨0, .cons h1' (.nil a)⟩
    · rw [farSet, sieve_mem] at hn
      obtain ⟨n0, n1, n2⟩ := hn
      rw [hrow n0] at h2
      have n2' := of_decide_eq_true n2
      rw [Int.toNat_of_nonneg n0] at n2'
      cases back with
      | true =>
        simp only [farD, if_true] at n2' h2
        exact ⟨_, .cons h2 (walk_dist (Int.le_of_lt n2'))⟩
      | false =>
        simp only [farD, Bool.false_eq_true, if_false] at n2' h2
        exact ⟨_, (walk_dist (Int.le_of_lt n2')).snoc h2⟩
  · rintro ⟨k, w⟩
    cases back with
    | true =>
      obtain ⟨n, hs, w'⟩ := w.first
      obtain ⟨_, _, n0, n1⟩ := step_in h hs
      have hd := (dist_walk w').1
      rcases Int.lt_or_eq_of_le hd with h2 | h2
      · refine .inr ⟨n, ?_, by rw [hrow n0]; simpa using hs⟩
        rw [farSet, sieve_mem]
        refine ⟨n0, n1, decide_eq_true ?_⟩
        rw [Int.toNat_of_nonneg n0]
        simpa [farD] using h2
      · have := dist_zero h2.symm
        subst this
        exact .inl (by simpa using hs)
    | false =>
      obtain ⟨n, w', hs⟩ := w.last
      obtain ⟨n0, n1, _, _⟩ := step_in h hs
      have hd := (dist_walk w').1
      rcases Int.lt_or_eq_of_le hd with h2 | h2
      · refine .inr ⟨n, ?_, by rw [hrow n0]; simpa using hs⟩
        rw [farSet, sieve_mem]
        refine ⟨n0, n1, decide_eq_true ?_⟩
        rw [Int.toNat_of_nonneg n0]
        simpa [farD] using h2
      · have := dist_zero h2.symm
        subst this
        exact .inl (by simpa using hs)

/-! ### A number put into its place -/
theorem sieve_congr {n : Nat} {p q : Nat → Bool} (h : ∀ i, i < n → p i = q i) : sieve n p = sieve n q := by
  unfold sieve
  congr 1
  exact List.filter_congr fun i hi => h i (List.mem_range.1 hi)
theorem sieve_sorted (n : Nat) (p : Nat → Bool) : (sieve n p).Pairwise (· < ·) := by
  unfold sieve
  rw [List.pairwise_map]
  exact (List.Pairwise.filter p List.pairwise_lt_range).imp fun h => by omega
theorem sieve_up {p : Nat → Bool} {a : Nat} (hp : p a = false) : ∀ m : Nat, ∃ up, sieve (a + 1 + m) p = sieve a p ++ up ∧ (sieve (a + 1 + m) fun i => p i || i == a) = sieve a p ++ (a : Int) :: up ∧ ∀ x ∈ up, (a : Int) < x
  | 0 => by
    refine ⟨[], ?_, ?_, by simp⟩
    · rw [Nat.add_zero, sieve_succ, hp]; simp
    · rw [Nat.add_zero, sieve_succ, sieve_congr (q := p) fun i hi => by
        have : (i == a) = false := by simp; omega
        rw [this, Bool.or_false]]
      simp
  | m + 1 => by
    obtain ⟨up, h1, h2, h3⟩ := sieve_up hp m
    have e : ((a + 1 + m) == a) = false := by simp; omega
    cases hq : p (a + 1 + m) with
    | true => refine ⟨up ++ [((a + 1 + m : Nat) : Int)], ?_, ?_, fun x hx => ?_⟩
              · rw [show a + 1 + (m + 1) = a + 1 + m + 1 from by omega, sieve_succ, h1, hq]; simp
              · rw [show a + 1 + (m + 1) = a + 1 + m + 1 from by omega, sieve_succ, h2, hq]; simp
              · rw [List.mem_append, List.mem_singleton] at hx
                rcases hx with hx | rfl
                · exact h3 x hx
                · omega
    | false => refine ⟨up, ?_, ?_, h3⟩
               · rw [show a + 1 + (m + 1) = a + 1 + m + 1 from by omega, sieve_succ, h1, hq]; simp
               · rw [show a + 1 + (m + 1) = a + 1 + m + 1 from by omega, sieve_succ, h2, hq, e]; simp
theorem sieve_put {n : Nat} {p : Nat → Bool} {a : Nat} (ha : a < n) (hp : p a = false) :
    (sieve n p).take (lessN (sieve n p) a) ++ (a : Int) :: (sieve n p).drop (lessN (sieve n p) a) = sieve n fun i => p i || i == a := by
  obtain ⟨up, h1, h2, h3⟩ := sieve_up hp (n - (a + 1))
  rw [show a + 1 + (n - (a + 1)) = n from by omega] at h1 h2
  have e : lessN (sieve n p) a = (sieve a p).length := by
    rw [lessN, h1, List.filter_append, List.filter_eq_self.2 fun x hx => ?_, List.filter_eq_nil_iff.2 fun x hx => ?_, List.append_nil]
    · have := h3 x hx
      simp
      omega
    · have := (sieve_mem.1 hx).2.1
      exact decide_eq_true this
  rw [e, h2, h1, List.take_left, List.drop_left]
/-- What Reach and Back make of the nodes that are far. -/
noncomputable def endsOf (g : Graph) (back : Bool) (a : Int) : List Int := if loopAt g back a then (farSet g back a).take (lessN (farSet g back a) a) ++ a :: (farSet g back a).drop (lessN (farSet g back a) a) else farSet g back a
theorem endsOf_eq {g : Graph} {back : Bool} {a : Int} (hv : valid g a = true) : endsOf g back a = if back then Ab.back g a else reach g a := by
  obtain ⟨hfit, h0, h1⟩ := valid_of hv
  have hin := hfit.inr
  have key : endsOf g back a = sieve g.nodes.length fun i => if back then leads g i a else leads g a i := by
    obtain ⟨n, rfl⟩ : ∃ n : Nat, a = n := ⟨a.toNat, by omega⟩
    have hself : decide (0 < farD g back n (n : Int)) = false := by
      unfold farD
      cases back <;> simp [dist_self]
    have hd : ∀ i : Nat, i ≠ n → decide (0 < farD g back n (i : Int)) = (if back then leads g i n else leads g n i) := fun i hi => by
      unfold farD
      cases back with
      | true => simp only [if_true]; rw [leads_far hin (by omega)]
      | false => simp only [Bool.false_eq_true, if_false]; rw [leads_far hin (by omega)]
    unfold endsOf
    cases hl : loopAt g back n with
    | true =>
      rw [if_pos rfl]
      rw [loopAt_eq hin back h0] at hl
      unfold farSet
      rw [sieve_put (by omega) hself]
      refine sieve_congr fun i hi => ?_
      by_cases hin2 : i = n
      · subst hin2
        simp [hl]
      · rw [hd i hin2]
        have : (i == n) = false := by simpa using hin2
        rw [this, Bool.or_false]
    | false =>
      rw [if_neg (by simp)]
      rw [loopAt_eq hin back h0] at hl
      refine sieve_congr fun i hi => ?_
      by_cases hin2 : i = n
      · subst hin2
        rw [hself]
        simp [hl]
      · exact hd i hin2
  rw [key]
  cases back with
  | true => simp [Ab.back, hv]
  | false => simp [reach, hv]
end Go.Ab
