/-
  One text of the proof (own work): contracts of functions of the program, by the abstract machine.
-/
import Derived.Test.YtmcgfohokniepaaX21
import Derived.Test.YtmcgfohokniepaaX51
import Derived.Test.YtmcgfohokniepaaX47
set_option linter.unusedVariables false
set_option linter.unusedSimpArgs false
namespace Go.Ab
open Go Go.RowKit Go.Proofs
set_option maxRecDepth 4000
set_option maxHeartbeats 40000000
theorem bl_total : ∀ a b : List UInt8, a ≠ b → Op.bytesLess a b = true ∨ Op.bytesLess b a = true
  | [], [], h => absurd rfl h
  | [], _ :: _, _ => .inl rfl
  | _ :: _, [], _ => .inr rfl
  | a :: x, b :: y, h => by
    simp only [Op.bytesLess]
    by_cases h1 : a < b
    · left; simp [h1]
    · by_cases h2 : b < a
      · right; simp [h2]
      · have : a = b := UInt8.le_antisymm (UInt8.not_lt.1 h2) (UInt8.not_lt.1 h1)
        subst this
        have hxy : x ≠ y := fun e => h (by rw [e])
        rcases bl_total x y hxy with h3 | h3
        · left; simp [h3]
        · right; simp [h3]
theorem RvOK.stand {r : Rev} {l : List Now} (h : RvOK r) {q s : List UInt8} : (ansN r l q s r.dcs.length).length ≤ 1 := by
  obtain ⟨h1, h2, h3, h4, h5, h6, h7⟩ := h
  refine ans_one fun a ha b hb k1 k2 => ?_
  unfold hit at k1 k2
  simp only [Bool.and_eq_true, beq_iff_eq] at k1 k2
  obtain ⟨⟨q1, s1⟩, t1⟩ := k1
  obtain ⟨⟨q2, s2⟩, t2⟩ := k2
  refine stand_one h6 bl_total (fun a ha b hb hl a1 a2 a3 b1 b2 b3 hq hs hn => h7 a ha b hb ?_) ha hb t1 t2 (q1.trans q2.symm) (s1.trans s2.symm)
  simp [cnd, opn, hl, a1, a2, a3, b1, b2, b3, hq, hs, hn]
theorem an_tup (r : Rev) (l : List Now) (q s : List UInt8) (h : (ansN r l q s r.dcs.length).length ≤ 1) : ∃ (a : List (List UInt8)) (e : Int), anR r l q s = .tup [.list (a.map .str), i64 e] ∧ a.length ≤ 1 := by
  unfold anR
  split
  · exact ⟨_, 0, rfl, h⟩
  · exact ⟨[], 1, rfl, by simp⟩
structure LaS (x : List Dd × List Int × List UInt8 × List UInt8) : Prop where
  n : x.1.length ≤ 1099511627776
  d : ∀ d ∈ x.1, DdOK d
  m : NsOK x.2.1
noncomputable def Γ8 : FuncId → Option CSpec := fun f => if f = 11 then some (.pure false (g11')) else if f = 16 then some (.pure false (g16)) else if f = 24 then some (.pure false (g24)) else if f = 25 then some (.pure false (g25)) else if f = 30 then some (.pure true (g30)) else if f = 32 then some (.pure false (g32)) else if f = 33 then some (.pure false (g32)) else none
theorem Γ8_ok : ∀ f s, Γ8 f = some s → SpecOK Try.prog f s := by
  intro f s h
  unfold Γ8 at h
  split at h
  · rename_i hf; cases h; subst hf; exact f11_ok'
  split at h
  · rename_i hf; cases h; subst hf; exact f16_ok
  split at h
  · rename_i hf; cases h; subst hf; exact f24_ok
  split at h
  · rename_i hf; cases h; subst hf; exact f25_ok
  split at h
  · rename_i hf; cases h; subst hf; exact f30_ok
  split at h
  · rename_i hf; cases h; subst hf; exact f32_ok
  split at h
  · rename_i hf; cases h; subst hf; exact f33_ok
  · cases h
noncomputable def g8 : List D → Option D := encSpec (fun x : List Dd × List Int × List UInt8 × List UInt8 => [.list (x.1.map eDd), .list (x.2.1.map u8), .str x.2.2.1, .str x.2.2.2]) LaS (fun _ => .bool true)
theorem g8_eq {a : List Dd} {b : List Int} {s t : List UInt8} (h : a.length ≤ 1099511627776 ∧ ∀ d ∈ a, DdOK d) (h2 : NsOK b) : g8 [.list (a.map eDd), .list (b.map u8), .str s, .str t] = some (.bool true) := encSpec_eq (x := (a, b, s, t)) ⟨h.1, h.2, h2⟩ fun y hy => rfl
theorem f8_ok : PureOK Try.prog 8 true g8 := by
  have hΓ := Γ8_ok
  refine pure_enc (n := 105) (rs := [.tmp 8]) Try.func8 (by kernel_rfl) rfl (by kernel_rfl) (by kernel_rfl) ?_
  rintro ⟨ds, ns, q, s⟩ ⟨h1, h2, h3⟩
  refine ⟨fun _ => .bool _, fun k hz0 => ?_⟩
  dsimp only at h1 h2 h3 ⊢
  obtain ⟨r, ok, e24, hr⟩ := g24_eq h1 h2
  obtain ⟨l, e25, hl, -⟩ := g25_eq h3
  have hz := hr.sz hl
  have hll := hz.v.l
  have hdl := hz.v.r.dcs
  have e16 := g16_eq hz.v.l
  have hne : ∀ n : Int, (n != n) = false := fun n => by simp
  unfold eR at e24
  rw [start_frame (by simp)]; simp only [enumV, go_sem, emptyH]
  cases ok with
  | false =>
    repeat (first
      | (apply axJ; (focus ((with_reducible constructor) <;> rfl)))
      | (apply awT mixedOK hΓ (by kernel_rfl); (simp (disch := omega) only [go_sem, ↓reduceIte, dk, Γ8, g11_eq', e24] <;> with_reducible rfl))
      | ((first | apply awR hΓ | apply awG | apply awH mixedOK hΓ rfl (by kernel_rfl) | apply ovE rfl); (simp (disch := omega) only [go_sem, ↓reduceIte, dk, Γ8, g11_eq', e24] <;> with_reducible rfl); exact trivial)
      | rfl)
  | true =>
  have e32 := g32_eq (q := q) (s := s) hz
  obtain ⟨a, e, ea, hal⟩ := an_tup r l q s hr.stand
  rw [ea] at e32
  have e30 := g30_eq (l := a) (by omega)
  have hee := hne e
  repeat (first
    | (apply axJ; (focus ((with_reducible constructor) <;> rfl)))
    | (apply awT mixedOK hΓ (by kernel_rfl); (simp (disch := omega) only [go_sem, ↓reduceIte, dk, Γ8, g11_eq', e24, e25, e16, e32, e30, hee] <;> with_reducible rfl))
    | ((first | apply awR hΓ | apply awG | apply awH mixedOK hΓ rfl (by kernel_rfl) | apply ovE rfl); (simp (disch := omega) only [go_sem, ↓reduceIte, dk, Γ8, g11_eq', e24, e25, e16, e32, e30, hee] <;> with_reducible rfl); exact trivial)
    | rfl)
  refine awp_loop_at (X := Nat) (fun i => (frame 105 [(9, .ptr 6 0), (11, .data (.list (l.map eN))), (63, .data (.list (r.dcs.map eDc))), (64, .data (i64 r.dcs.length)), (65, .data (i64 i))]))
    (fun i => [(6, .box [.data (.list (r.rvs.map eRw)), .data (.list (r.pks.map ePk)), .data (.list (r.dcs.map eDc)), .data (.list (r.dps.map eDp))])]) 10
    (fun i => i ≤ r.dcs.length) (fun i => r.dcs.length - i) 0 (Nat.zero_le _) (Weak.w) ?_
  intro i hi
  by_cases hi2 : i < r.dcs.length
  · generalize hy : r.dcs[i] = y
    have e32 := g32_eq (q := y.q) (s := y.s) hz
    obtain ⟨a, e, ea, hal⟩ := an_tup r l y.q y.s hr.stand
    rw [ea] at e32
    have e30 := g30_eq (l := a) (by omega)
    have hee := hne e
    repeat (first
      | (apply axJ; (focus ((with_reducible constructor) <;> rfl)))
      | (apply awT mixedOK hΓ (by kernel_rfl); (simp (disch := omega) only [go_sem, ↓reduceIte, dk, eDc, hy, Γ8, e16, e32, e30, hee] <;> with_reducible rfl))
      | ((first | apply awR hΓ | apply awG | apply awH mixedOK hΓ rfl (by kernel_rfl) | apply ovE rfl); (simp (disch := omega) only [go_sem, ↓reduceIte, dk, eDc, hy, Γ8, e16, e32, e30, hee] <;> with_reducible rfl); exact trivial)
      | rfl)
    exact ⟨i + 1, by omega, by omega, Weak.w⟩
  repeat (first
    | (apply axJ; (focus ((with_reducible constructor) <;> rfl)))
    | (apply awT mixedOK hΓ (by kernel_rfl); (simp (disch := omega) only [go_sem, ↓reduceIte, dk] <;> with_reducible rfl))
    | ((first | apply awR hΓ | apply awG | apply awH mixedOK hΓ rfl (by kernel_rfl) | apply ovE rfl); (simp (disch := omega) only [go_sem, ↓reduceIte, dk] <;> with_reducible rfl); exact trivial)
    | rfl)
end Go.Ab
