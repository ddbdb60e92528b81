/-
  One text of the proof (own work): contracts of functions of the program, by the abstract machine.
-/
import Derived.Test.YtmcgfohokniepaaX21
import Derived.Test.YtmcgfohokniepaaX51
import Derived.Test.YtmcgfohokniepaaX47
set_option linter.unusedVariables false
set_option linter.unusedSimpArgs false
namespace Go.Ab
open Go Go.RowKit Go.Proofs
set_option maxRecDepth 4000
set_option maxHeartbeats 40000000
noncomputable def Γ9 : FuncId → Option CSpec := fun f => if f = 11 then some (.pure false (g11')) else if f = 16 then some (.pure false (g16)) else if f = 18 then some (.pure false (g19)) else if f = 21 then some (.pure true (g21)) else if f = 23 then some (.pure true (g22)) else if f = 24 then some (.pure false (g24)) else if f = 25 then some (.pure false (g25)) else if f = 32 then some (.pure false (g32)) else none
theorem Γ9_ok : ∀ f s, Γ9 f = some s → SpecOK Try.prog f s := by
  intro f s h
  unfold Γ9 at h
  split at h
  · rename_i hf; cases h; subst hf; exact f11_ok'
  split at h
  · rename_i hf; cases h; subst hf; exact f16_ok
  split at h
  · rename_i hf; cases h; subst hf; exact f18_ok
  split at h
  · rename_i hf; cases h; subst hf; exact f21_ok
  split at h
  · rename_i hf; cases h; subst hf; exact f23_ok
  split at h
  · rename_i hf; cases h; subst hf; exact f24_ok
  split at h
  · rename_i hf; cases h; subst hf; exact f25_ok
  split at h
  · rename_i hf; cases h; subst hf; exact f32_ok
  · cases h
noncomputable def g9 : List D → Option D := encSpec (fun x : List Dd × List Int => [.list (x.1.map eDd), .list (x.2.map u8)]) LaA (fun _ => .bool true)
theorem g9_eq {a : List Dd} {b : List Int} (h : a.length ≤ 1099511627776 ∧ ∀ d ∈ a, DdOK d) (h2 : NsOK b) : g9 [.list (a.map eDd), .list (b.map u8)] = some (.bool true) := encSpec_eq (x := (a, b)) ⟨h.1, h.2, h2⟩ fun y hy => rfl
theorem f9_ok : PureOK Try.prog 9 true g9 := by
  have hΓ := Γ9_ok
  refine pure_enc (n := 73) (rs := [.tmp 4]) Try.func9 (by kernel_rfl) rfl (by kernel_rfl) (by kernel_rfl) ?_
  rintro ⟨ds, ns⟩ ⟨h1, h2, h3⟩
  refine ⟨fun _ => .bool _, fun k hz0 => ?_⟩
  dsimp only at h1 h2 h3 ⊢
  obtain ⟨r, ok, e24, hr⟩ := g24_eq h1 h2
  obtain ⟨l, e25, hl, -⟩ := g25_eq h3
  have hz := hr.sz hl
  have hll := hz.v.l
  have e22 := g22_eq hz.v.l
  have e16 := g16_eq hz.v.l
  have e19 := g19_eq hz
  have e21 := g21_eq (l := dues r l l) (Nat.le_trans (dues_len _ _ _) hll)
  have h10 : ((1 : Int) != 0) = true := rfl
  have h00 : ((0 : Int) != 0) = false := rfl
  unfold eR at e24
  rw [start_frame (by simp)]; simp only [enumV, go_sem, emptyH]
  cases ok with
  | false =>
    repeat (first
      | (apply axJ; (focus ((with_reducible constructor) <;> rfl)))
      | (apply awT mixedOK hΓ (by kernel_rfl); (simp (disch := omega) only [go_sem, ↓reduceIte, dk, Γ9, g11_eq', e24, e25] <;> with_reducible rfl))
      | ((first | apply awR hΓ | apply awG | apply awH mixedOK hΓ rfl (by kernel_rfl) | apply ovE rfl); (simp (disch := omega) only [go_sem, ↓reduceIte, dk, Γ9, g11_eq', e24, e25] <;> with_reducible rfl); exact trivial)
      | rfl)
  | true =>
  rcases vld_01 l with h | h
  case inr =>
    rw [h] at e22
    repeat (first
      | (apply axJ; (focus ((with_reducible constructor) <;> rfl)))
      | (apply awT mixedOK hΓ (by kernel_rfl); (simp (disch := omega) only [go_sem, ↓reduceIte, dk, Γ9, g11_eq', e24, e25, e22, h10] <;> with_reducible rfl))
      | ((first | apply awR hΓ | apply awG | apply awH mixedOK hΓ rfl (by kernel_rfl) | apply ovE rfl); (simp (disch := omega) only [go_sem, ↓reduceIte, dk, Γ9, g11_eq', e24, e25, e22, h10] <;> with_reducible rfl); exact trivial)
      | rfl)
  rw [h] at e22
  have hd : duR r l = .tup [.list ((dues r l l).map eN), i64 0] := by simp [duR, h]
  rw [hd] at e19
  repeat (first
    | (apply axJ; (focus ((with_reducible constructor) <;> rfl)))
    | (apply awT mixedOK hΓ (by kernel_rfl); (simp (disch := omega) only [go_sem, ↓reduceIte, dk, Γ9, g11_eq', e24, e25, e22, h00, e16, e19] <;> with_reducible rfl))
    | ((first | apply awR hΓ | apply awG | apply awH mixedOK hΓ rfl (by kernel_rfl) | apply ovE rfl); (simp (disch := omega) only [go_sem, ↓reduceIte, dk, Γ9, g11_eq', e24, e25, e22, h00, e16, e19] <;> with_reducible rfl); exact trivial)
    | rfl)
  refine awp_loop_at (X := Nat) (fun i => (frame 73 [(5, .ptr 6 0), (7, .data (.list (l.map eN))), (8, .data (.list ((dues r l l).map eN))), (10, .row 38 (dues r l (l.take i)).length), (43, .data (.list (l.map eN))), (44, .data (i64 l.length)), (45, .data (i64 i))]))
    (fun i => [(6, .box [.data (.list (r.rvs.map eRw)), .data (.list (r.pks.map ePk)), .data (.list (r.dcs.map eDc)), .data (.list (r.dps.map eDp))]), (38, .row 39 3 ((dues r l (l.take i)).map eN))]) 39
    (fun i => i ≤ l.length) (fun i => l.length - i) 0 (Nat.zero_le _) ((Weak.nilrowF (i := 10) 39 (sz := 3) (by omega) (by omega) rfl).trans (Weak.v (by (simp [ConvF, lookV, Conv, ints, dues]; done)) (by (simp (disch := omega) only [TabSub, look, if_pos, if_neg, Obj.refsOK, refsOKs, AV.refsOK, decide_eq_true_eq, Bool.and_true, Bool.and_self, dues] ) <;> ((repeat' apply And.intro) <;> first | exact True.intro | omega | (simp; done) | rfl)))) ?_
  intro i hi
  have htl : (dues r l (l.take i)).length ≤ i := Nat.le_trans (dues_len _ _ _) (by rw [List.length_take]; omega)
  by_cases hi2 : i < l.length
  · have hnx := dues_succ (r := r) (l := l) hi2
    generalize hacc : dues r l (l.take i) = acc at hnx htl
    generalize hnn : dues r l (l.take (i + 1)) = nn at hnx
    generalize hy : l[i] = y at hnx
    have e32 := g32_eq (q := y.q) (s := y.s) hz
    have ha : anR r l y.q y.s = .tup [.list ((ansN r l y.q y.s r.dcs.length).map .str), i64 0] := by simp [anR, h]
    rw [ha] at e32
    unfold open1 at hnx
    generalize ansN r l y.q y.s r.dcs.length = ans at hnx e32
    cases ans with
    | cons a ans =>
      have h0 : (((ans.length + 1 : Nat) : Int) == 0) = false := by simp; omega
      have hn : nn = acc := by rw [hnx]; simp
      repeat (first
        | (apply axJ; (focus ((with_reducible constructor) <;> rfl)))
        | (apply awT mixedOK hΓ (by kernel_rfl); (simp (disch := omega) only [go_sem, ↓reduceIte, dk, eN, hy, Γ9, e16, e32, h00, h0, List.length_map] <;> with_reducible rfl))
        | ((first | apply awR hΓ | apply awG | apply awH mixedOK hΓ rfl (by kernel_rfl) | apply ovE rfl); (simp (disch := omega) only [go_sem, ↓reduceIte, dk, eN, hy, Γ9, e16, e32, h00, h0, List.length_map] <;> with_reducible rfl); exact trivial)
        | rfl)
      exact ⟨i + 1, by omega, by omega, Weak.v (by (simp [ConvF, lookV, Conv, ints, hnn, hn]; done)) (by (simp (disch := omega) only [TabSub, look, if_pos, if_neg, Obj.refsOK, refsOKs, AV.refsOK, decide_eq_true_eq, Bool.and_true, Bool.and_self, hnn, hn] ) <;> ((repeat' apply And.intro) <;> first | exact True.intro | omega | (simp; done) | rfl))⟩
    | nil =>
      have hn : nn = acc ++ [y] := by rw [hnx]; simp
      have hm : acc.map eN ++ [.agg [.str y.q, .str y.s, .str y.d]] = nn.map eN := by rw [hn]; simp [eN]
      have hl : nn.length = acc.length + 1 := by rw [hn]; simp
      have e32 : g32 [.agg [.list (r.rvs.map eRw), .list (r.pks.map ePk), .list (r.dcs.map eDc), .list (r.dps.map eDp)], .list (l.map eN), .str y.q, .str y.s] = some (.tup [.list [], i64 0]) := e32
      have h0 : (((0 : Nat) : Int) == 0) = true := rfl
      repeat (first
        | (apply axJ; (focus ((with_reducible constructor) <;> rfl)))
        | (apply awT mixedOK hΓ (by kernel_rfl); (simp (disch := omega) only [go_sem, ↓reduceIte, ↓lk, dk, eN, hy, Γ9, e16, e32, h00, h0] <;> with_reducible rfl))
        | ((first | apply awR hΓ | apply awG | apply awH mixedOK hΓ rfl (by kernel_rfl) | apply ovE rfl); (simp (disch := omega) only [go_sem, ↓reduceIte, ↓lk, dk, eN, hy, Γ9, e16, e32, h00, h0] <;> with_reducible rfl); exact trivial)
        | rfl)
      exact ⟨i + 1, by omega, by omega, Weak.v (by (simp [ConvF, lookV, Conv, ints, hnn, hl, hm]; done)) (by (simp (disch := omega) only [TabSub, look, if_pos, if_neg, Obj.refsOK, refsOKs, AV.refsOK, decide_eq_true_eq, Bool.and_true, Bool.and_self, hnn, hl, hm] ) <;> ((repeat' apply And.intro) <;> first | exact True.intro | omega | (simp; done) | rfl))⟩
  have hi3 : i = l.length := by omega
  subst hi3
  rw [List.take_length] at htl ⊢
  repeat (first
    | (apply axJ; (focus ((with_reducible constructor) <;> rfl)))
    | (apply awT mixedOK hΓ (by kernel_rfl); (simp (disch := omega) only [go_sem, ↓reduceIte, dk, Γ9, e21] <;> with_reducible rfl))
    | ((first | apply awR hΓ | apply awG | apply awH mixedOK hΓ rfl (by kernel_rfl) | apply ovE rfl); (simp (disch := omega) only [go_sem, ↓reduceIte, dk, Γ9, e21] <;> with_reducible rfl); exact trivial)
    | rfl)
end Go.Ab
