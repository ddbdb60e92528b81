/-
  One text of the proof (own work): contracts of functions of the program, by the abstract machine.
-/
import Derived.Test.YtmcgfohokniepaaX21
import Derived.Test.YtmcgfohokniepaaX48
import Derived.Test.YtmcgfohokniepaaX47
set_option linter.unusedVariables false
set_option linter.unusedSimpArgs false
namespace Go.Ab
open Go Go.RowKit Go.Proofs
set_option maxRecDepth 4000
set_option maxHeartbeats 40000000
theorem fa_tup (r : Rev) (l m : List Now) : ∃ (a : List (List UInt8)) (e : Int), faR r l m = .tup [.list (a.map .str), i64 e] ∧ a.length ≤ r.dcs.length ∧ (e = 0 ∨ e = 1) := by
  unfold faR
  split
  · exact ⟨_, 0, rfl, filt_len _ _ _ _, .inl rfl⟩
  · exact ⟨[], 1, rfl, by simp, .inr rfl⟩
theorem ch_tup (l m : List Now) : ∃ (a : List Now) (e : Int), chR l m = .tup [.list (a.map eN), i64 e] ∧ a.length ≤ l.length ∧ (e = 0 ∨ e = 1) := by
  unfold chR
  split
  · exact ⟨_, 0, rfl, filt_len _ _ _ _, .inl rfl⟩
  · exact ⟨[], 1, rfl, by simp, .inr rfl⟩
noncomputable def Γ6 : FuncId → Option CSpec := fun f => if f = 11 then some (.pure false (g11')) else if f = 16 then some (.pure false (g16)) else if f = 21 then some (.pure true (g21)) else if f = 24 then some (.pure false (g24)) else if f = 25 then some (.pure false (g25)) else if f = 26 then some (.pure false (g26)) else if f = 27 then some (.pure false (g26)) else if f = 28 then some (.pure false (g28)) else if f = 29 then some (.pure false (g28)) else if f = 30 then some (.pure true (g30)) else none
theorem Γ6_ok : ∀ f s, Γ6 f = some s → SpecOK Try.prog f s := by
  intro f s h
  unfold Γ6 at h
  split at h
  · rename_i hf; cases h; subst hf; exact f11_ok'
  split at h
  · rename_i hf; cases h; subst hf; exact f16_ok
  split at h
  · rename_i hf; cases h; subst hf; exact f21_ok
  split at h
  · rename_i hf; cases h; subst hf; exact f24_ok
  split at h
  · rename_i hf; cases h; subst hf; exact f25_ok
  split at h
  · rename_i hf; cases h; subst hf; exact f26_ok
  split at h
  · rename_i hf; cases h; subst hf; exact f27_ok
  split at h
  · rename_i hf; cases h; subst hf; exact f28_ok
  split at h
  · rename_i hf; cases h; subst hf; exact f29_ok
  split at h
  · rename_i hf; cases h; subst hf; exact f30_ok
  · cases h
noncomputable def g6 : List D → Option D := encSpec (fun x : List Dd × List Int × List Int => [.list (x.1.map eDd), .list (x.2.1.map u8), .list (x.2.2.map u8)]) LaB (fun _ => .bool true)
theorem g6_eq {a : List Dd} {b c : List Int} (h : a.length ≤ 1099511627776 ∧ ∀ d ∈ a, DdOK d) (h2 : NsOK b) (h3 : NsOK c) : g6 [.list (a.map eDd), .list (b.map u8), .list (c.map u8)] = some (.bool true) := encSpec_eq (x := (a, b, c)) ⟨h.1, h.2, h2, h3⟩ fun y hy => rfl
theorem f6_ok : PureOK Try.prog 6 true g6 := by
  have hΓ := Γ6_ok
  refine pure_enc (n := 83) (rs := [.tmp 6]) Try.func6 (by kernel_rfl) rfl (by kernel_rfl) (by kernel_rfl) ?_
  rintro ⟨ds, n1, n2⟩ ⟨h1, h2, h3, h4⟩
  refine ⟨fun _ => .bool _, fun k hz0 => ?_⟩
  dsimp only at h1 h2 h3 h4 ⊢
  obtain ⟨r, ok, e24, hr⟩ := g24_eq h1 h2
  obtain ⟨l, e25, hl, -⟩ := g25_eq h3
  obtain ⟨m, e25m, hm, -⟩ := g25_eq h4
  have hz := hr.sz hl
  have hz2 := hr.sz hm
  have hdl := hz.v.r.dcs
  have e16 := g16_eq hz.v.l
  have e16m := g16_eq hz2.v.l
  have e26 := g26_eq hz hz2
  have e28 := g28_eq hz.v.l hz2.v.l
  obtain ⟨a, e, ea, hal, he⟩ := fa_tup r l m
  obtain ⟨c, e2, ec, hcl, he2⟩ := ch_tup l m
  rw [ea] at e26
  rw [ec] at e28
  have hll := hz.v.l
  have e30 := g30_eq (l := a) (by omega)
  have e21 := g21_eq (l := c) (by omega)
  have b1 : (e == e) = true := by simp
  have b2 : (e2 == e2) = true := by simp
  unfold eR at e24
  rw [start_frame (by simp)]; simp only [enumV, go_sem, emptyH]
  cases ok with
  | false =>
    repeat (first
      | (apply axJ; (focus ((with_reducible constructor) <;> rfl)))
      | (apply awT mixedOK hΓ (by kernel_rfl); (simp (disch := omega) only [go_sem, ↓reduceIte, dk, Γ6, g11_eq', e24] <;> with_reducible rfl))
      | ((first | apply awR hΓ | apply awG | apply awH mixedOK hΓ rfl (by kernel_rfl) | apply ovE rfl); (simp (disch := omega) only [go_sem, ↓reduceIte, dk, Γ6, g11_eq', e24] <;> with_reducible rfl); exact trivial)
      | rfl)
  | true =>
  repeat (first
    | (apply axJ; (focus ((with_reducible constructor) <;> rfl)))
    | (apply awT mixedOK hΓ (by kernel_rfl); (simp (disch := omega) only [go_sem, ↓reduceIte, dk, Γ6, g11_eq', e24, e25, e25m, e16, e16m, e26, e28, e30, e21, b1, b2] <;> with_reducible rfl))
    | ((first | apply awR hΓ | apply awG | apply awH mixedOK hΓ rfl (by kernel_rfl) | apply ovE rfl); (simp (disch := omega) only [go_sem, ↓reduceIte, dk, Γ6, g11_eq', e24, e25, e25m, e16, e16m, e26, e28, e30, e21, b1, b2] <;> with_reducible rfl); exact trivial)
    | rfl)
end Go.Ab
