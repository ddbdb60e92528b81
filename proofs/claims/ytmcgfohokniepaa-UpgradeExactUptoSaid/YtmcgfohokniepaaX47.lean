/-
  One text of the proof (own work): contracts of functions of the program, by the abstract machine.
-/
import Derived.Test.YtmcgfohokniepaaX21
import Derived.Test.YtmcgfohokniepaaX42
import Derived.Test.YtmcgfohokniepaaX32
import Derived.Test.YtmcgfohokniepaaX46
set_option linter.unusedVariables false
set_option linter.unusedSimpArgs false
namespace Go.Ab
open Go Go.RowKit Go.Proofs
set_option maxRecDepth 4000
set_option maxHeartbeats 40000000
theorem RvOK.sz {r : Rev} {l : List Now} (h : RvOK r) (hl : l.length ≤ 14) : SzA r l := by
  obtain ⟨h1, h2, h3, h4, h5, h6, h7⟩ := h
  exact ⟨⟨⟨by omega, by omega, by omega, by omega⟩, by omega⟩, fun d hd => by have := h5 d hd; omega⟩
structure LaA (x : List Dd × List Int) : Prop where
  n : x.1.length ≤ 1099511627776
  d : ∀ d ∈ x.1, DdOK d
  m : NsOK x.2
structure LaB (x : List Dd × List Int × List Int) : Prop where
  n : x.1.length ≤ 1099511627776
  d : ∀ d ∈ x.1, DdOK d
  m : NsOK x.2.1
  m2 : NsOK x.2.2
noncomputable def Γ5 : FuncId → Option CSpec := fun f => if f = 11 then some (.pure false (g11')) else if f = 15 then some (.pure false (g15)) else if f = 16 then some (.pure false (g16)) else if f = 17 then some (.pure false (g15)) else if f = 20 then some (.pure true (g20)) else if f = 24 then some (.pure false (g24)) else if f = 25 then some (.pure false (g25)) else none
theorem Γ5_ok : ∀ f s, Γ5 f = some s → SpecOK Try.prog f s := by
  intro f s h
  unfold Γ5 at h
  split at h
  · rename_i hf; cases h; subst hf; exact f11_ok'
  split at h
  · rename_i hf; cases h; subst hf; exact f15_ok
  split at h
  · rename_i hf; cases h; subst hf; exact f16_ok
  split at h
  · rename_i hf; cases h; subst hf; exact f17_ok
  split at h
  · rename_i hf; cases h; subst hf; exact f20_ok
  split at h
  · rename_i hf; cases h; subst hf; exact f24_ok
  split at h
  · rename_i hf; cases h; subst hf; exact f25_ok
  · cases h
noncomputable def g5 : List D → Option D := encSpec (fun x : List Dd × List Int => [.list (x.1.map eDd), .list (x.2.map u8)]) LaA (fun _ => .bool true)
theorem g5_eq {a : List Dd} {b : List Int} (h : a.length ≤ 1099511627776 ∧ ∀ d ∈ a, DdOK d) (h2 : NsOK b) : g5 [.list (a.map eDd), .list (b.map u8)] = some (.bool true) := encSpec_eq (x := (a, b)) ⟨h.1, h.2, h2⟩ fun y hy => rfl
theorem f5_ok : PureOK Try.prog 5 true g5 := by
  have hΓ := Γ5_ok
  refine pure_enc (n := 47) (rs := [.tmp 4]) Try.func5 (by kernel_rfl) rfl (by kernel_rfl) (by kernel_rfl) ?_
  rintro ⟨ds, ns⟩ ⟨h1, h2, h3⟩
  refine ⟨fun _ => .bool _, fun k hz0 => ?_⟩
  dsimp only at h1 h2 h3 ⊢
  obtain ⟨r, ok, e24, hr⟩ := g24_eq h1 h2
  obtain ⟨l, e25, hl, -⟩ := g25_eq h3
  have hz := hr.sz hl
  have hdl := hz.v.r.dcs
  have e15 := g15_eq hz
  have e16 := g16_eq hz.v.l
  have e20 := g20_eq (l := stds r l) (by rw [stds_len]; exact hdl)
  have e20n := g20_eq (l := []) (by simp)
  simp only [List.map_nil] at e20n
  unfold eR at e24
  rw [start_frame (by simp)]; simp only [enumV, go_sem, emptyH]
  cases ok with
  | false =>
    repeat (first
      | (apply axJ; (focus ((with_reducible constructor) <;> rfl)))
      | (apply awT mixedOK hΓ (by kernel_rfl); (simp (disch := omega) only [go_sem, ↓reduceIte, dk, Γ5, g11_eq', e24] <;> with_reducible rfl))
      | ((first | apply awR hΓ | apply awG | apply awH mixedOK hΓ rfl (by kernel_rfl) | apply ovE rfl); (simp (disch := omega) only [go_sem, ↓reduceIte, dk, Γ5, g11_eq', e24] <;> with_reducible rfl); exact trivial)
      | rfl)
  | true =>
  rcases vld_01 l with h | h
  · have hs : stR r l = .tup [.list ((stds r l).map eS), i64 0] := by simp [stR, h]
    rw [hs] at e15
    repeat (first
      | (apply axJ; (focus ((with_reducible constructor) <;> rfl)))
      | (apply awT mixedOK hΓ (by kernel_rfl); (simp (disch := omega) only [go_sem, ↓reduceIte, dk, Γ5, g11_eq', e24, e15, e16, e20, e25] <;> with_reducible rfl))
      | ((first | apply awR hΓ | apply awG | apply awH mixedOK hΓ rfl (by kernel_rfl) | apply ovE rfl); (simp (disch := omega) only [go_sem, ↓reduceIte, dk, Γ5, g11_eq', e24, e15, e16, e20, e25] <;> with_reducible rfl); exact trivial)
      | rfl)
  · have hs : stR r l = .tup [.list [], i64 1] := by simp [stR, h]
    rw [hs] at e15
    repeat (first
      | (apply axJ; (focus ((with_reducible constructor) <;> rfl)))
      | (apply awT mixedOK hΓ (by kernel_rfl); (simp (disch := omega) only [go_sem, ↓reduceIte, dk, Γ5, g11_eq', e24, e15, e16, e20n, e25] <;> with_reducible rfl))
      | ((first | apply awR hΓ | apply awG | apply awH mixedOK hΓ rfl (by kernel_rfl) | apply ovE rfl); (simp (disch := omega) only [go_sem, ↓reduceIte, dk, Γ5, g11_eq', e24, e15, e16, e20n, e25] <;> with_reducible rfl); exact trivial)
      | rfl)
end Go.Ab
namespace Go.Ab
open Go Go.RowKit Go.Proofs
set_option maxRecDepth 4000
set_option maxHeartbeats 40000000
theorem filt_succ {α β : Type} (p : α → Bool) (f : α → β) {l : List α} {i : Nat} (h : i < l.length) : ((l.take (i + 1)).filter p).map f = ((l.take i).filter p).map f ++ (if p l[i] then [f l[i]] else []) := by
  rw [List.take_add_one, List.getElem?_eq_getElem h, List.filter_append, List.map_append]
  congr 1
  simp only [Option.toList_some, List.filter_cons, List.filter_nil]
  split <;> rfl
theorem filt_len {α β : Type} (p : α → Bool) (f : α → β) (l : List α) (i : Nat) : (((l.take i).filter p).map f).length ≤ i := by
  rw [List.length_map]
  exact Nat.le_trans (List.length_filter_le _ _) (by rw [List.length_take]; omega)
theorem stds_at {r : Rev} {l : List Now} {i : Nat} (h : i < r.dcs.length) (h2 : i < (stds r l).length) : (stds r l)[i] = ⟨r.dcs[i].id, stat r l r.dcs[i]⟩ := by simp [stds]
noncomputable def g30 : List D → Option D := encSpec (fun l : List (List UInt8) => [.list (l.map .str), .list (l.map .str)]) (fun l => l.length ≤ 1099511627776) (fun _ => .bool true)
theorem g30_eq {l : List (List UInt8)} (h : l.length ≤ 1099511627776) : g30 [.list (l.map .str), .list (l.map .str)] = some (.bool true) := encSpec_eq (x := l) h fun y hy => rfl
theorem f30_ok : PureOK Try.prog 30 true g30 := by
  have hΓ := Γ0_ok
  refine pure_enc (n := 26) (rs := [.tmp 4]) Try.func30 (by kernel_rfl) rfl (by kernel_rfl) (by kernel_rfl) ?_
  intro l hl
  refine ⟨fun _ => .bool _, fun k hz0 => ?_⟩
  have hne : ((l.length : Int) != (l.length : Int)) = false := by simp
  rw [start_frame (by simp)]; simp only [enumV, go_sem, emptyH]
  repeat (first
    | (apply axJ; (focus ((with_reducible constructor) <;> rfl)))
    | (apply awT mixedOK hΓ (by kernel_rfl); (simp (disch := omega) only [go_sem, ↓reduceIte, dk, hne] <;> with_reducible rfl))
    | ((first | apply awR hΓ | apply awG | apply awH mixedOK hΓ rfl (by kernel_rfl) | apply ovE rfl); (simp (disch := omega) only [go_sem, ↓reduceIte, dk, hne] <;> with_reducible rfl); exact trivial)
    | rfl)
  refine awp_loop_at (X := Nat) (fun i => (frame 26 [(0, .data (.list (l.map .str))), (1, .data (.list (l.map .str))), (12, .data (i64 l.length)), (13, .data (i64 i))])) (fun _ => []) 1
    (fun i => i ≤ l.length) (fun i => l.length - i) 0 (Nat.zero_le _) (Weak.w) ?_
  intro i hi
  by_cases hi2 : i < l.length
  · generalize hy : l[i] = y
    have h1 : (y != y) = false := by simp
    repeat (first
      | (apply axJ; (focus ((with_reducible constructor) <;> rfl)))
      | (apply awT mixedOK hΓ (by kernel_rfl); (simp (disch := omega) only [go_sem, ↓reduceIte, dk, hy, h1] <;> with_reducible rfl))
      | ((first | apply awR hΓ | apply awG | apply awH mixedOK hΓ rfl (by kernel_rfl) | apply ovE rfl); (simp (disch := omega) only [go_sem, ↓reduceIte, dk, hy, h1] <;> with_reducible rfl); exact trivial)
      | rfl)
    exact ⟨i + 1, by omega, by omega, Weak.w⟩
  · repeat (first
    | (apply axJ; (focus ((with_reducible constructor) <;> rfl)))
    | (apply awT mixedOK hΓ (by kernel_rfl); (simp (disch := omega) only [go_sem, ↓reduceIte, dk] <;> with_reducible rfl))
    | ((first | apply awR hΓ | apply awG | apply awH mixedOK hΓ rfl (by kernel_rfl) | apply ovE rfl); (simp (disch := omega) only [go_sem, ↓reduceIte, dk] <;> with_reducible rfl); exact trivial)
    | rfl)
end Go.Ab
