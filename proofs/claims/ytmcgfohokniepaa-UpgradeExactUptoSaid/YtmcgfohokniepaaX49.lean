/-
  One text of the proof (own work): contracts of functions of the program, by the abstract machine.
-/
import Derived.Test.YtmcgfohokniepaaX21
import Derived.Test.YtmcgfohokniepaaX48
import Derived.Test.YtmcgfohokniepaaX47
set_option linter.unusedVariables false
set_option linter.unusedSimpArgs false
namespace Go.Ab
open Go Go.RowKit Go.Proofs
set_option maxRecDepth 4000
set_option maxHeartbeats 40000000
theorem stat_first {r : Rev} (hd : r.dps = []) (l : List Now) (d : Dc) : stat r l d = first r l d := by
  have h0 : disp r (pres r l) d.id = false := by simp [disp, hd]
  unfold stat
  rw [h0]
  by_cases h : first r l d = 1
  · simp [h]
  · simp [h]
theorem first_one {r : Rev} {l : List Now} {d : Dc} (h : first r l d = 1) : has l (ask d) = true ∧ ∀ m, first r m d = if has m (ask d) then 1 else 6 := by
  unfold first at h
  split at h
  · exact absurd h (by decide)
  split at h
  · exact absurd h (by decide)
  split at h
  · exact absurd h (by decide)
  split at h
  · exact absurd h (by decide)
  rename_i h1 h2 h3 h4
  refine ⟨?_, fun m => ?_⟩
  · by_cases hh : has l (ask d) = true
    · exact hh
    · rw [if_neg hh] at h; exact absurd h (by decide)
  · unfold first
    rw [if_neg h1, if_neg h2, if_neg h3, if_neg h4]
theorem has_filter (l m : List Now) (x : Now) : has (chgs l m l.length) x = (has l x && !has m x) := by
  unfold chgs
  rw [List.take_length, List.map_id]
  rw [Bool.eq_iff_iff]
  simp only [has, List.any_eq_true, Bool.and_eq_true, List.mem_filter, decide_eq_true_eq]
  constructor
  · rintro ⟨y, ⟨h1, h2⟩, rfl⟩
    exact ⟨⟨y, h1, rfl⟩, h2⟩
  · rintro ⟨⟨y, h1, rfl⟩, h2⟩
    exact ⟨y, ⟨h1, h2⟩, rfl⟩
theorem exact_eq {r : Rev} (hd : r.dps = []) {l m : List Now} {d : Dc} (h : (stat r l d == 1) = true) : has (chgs l m l.length) (ask d) = (stat r m d != 1) := by
  rw [stat_first hd] at h ⊢
  obtain ⟨h1, h2⟩ := first_one (by simpa using h)
  rw [has_filter, h1, h2 m]
  cases has m (ask d) <;> rfl
noncomputable def Γ7 : FuncId → Option CSpec := fun f => if f = 11 then some (.pure false (g11')) else if f = 15 then some (.pure false (g15)) else if f = 16 then some (.pure false (g16)) else if f = 23 then some (.pure true (g22)) else if f = 24 then some (.pure false (g24)) else if f = 25 then some (.pure false (g25)) else if f = 26 then some (.pure false (g26)) else if f = 28 then some (.pure false (g28)) else if f = 30 then some (.pure true (g30)) else if f = 31 then some (.pure true (g31)) else none
theorem Γ7_ok : ∀ f s, Γ7 f = some s → SpecOK Try.prog f s := by
  intro f s h
  unfold Γ7 at h
  split at h
  · rename_i hf; cases h; subst hf; exact f11_ok'
  split at h
  · rename_i hf; cases h; subst hf; exact f15_ok
  split at h
  · rename_i hf; cases h; subst hf; exact f16_ok
  split at h
  · rename_i hf; cases h; subst hf; exact f23_ok
  split at h
  · rename_i hf; cases h; subst hf; exact f24_ok
  split at h
  · rename_i hf; cases h; subst hf; exact f25_ok
  split at h
  · rename_i hf; cases h; subst hf; exact f26_ok
  split at h
  · rename_i hf; cases h; subst hf; exact f28_ok
  split at h
  · rename_i hf; cases h; subst hf; exact f30_ok
  split at h
  · rename_i hf; cases h; subst hf; exact f31_ok
  · cases h
noncomputable def g7 : List D → Option D := encSpec (fun x : List Dd × List Int × List Int => [.list (x.1.map eDd), .list (x.2.1.map u8), .list (x.2.2.map u8)]) LaB (fun _ => .bool true)
theorem g7_eq {a : List Dd} {b c : List Int} (h : a.length ≤ 1099511627776 ∧ ∀ d ∈ a, DdOK d) (h2 : NsOK b) (h3 : NsOK c) : g7 [.list (a.map eDd), .list (b.map u8), .list (c.map u8)] = some (.bool true) := encSpec_eq (x := (a, b, c)) ⟨h.1, h.2, h2, h3⟩ fun y hy => rfl
theorem f7_ok : PureOK Try.prog 7 true g7 := by
  have hΓ := Γ7_ok
  refine pure_enc (n := 136) (rs := [.tmp 6]) Try.func7 (by kernel_rfl) rfl (by kernel_rfl) (by kernel_rfl) ?_
  rintro ⟨ds, n1, n2⟩ ⟨h1, h2, h3, h4⟩
  refine ⟨fun _ => .bool _, fun k hz0 => ?_⟩
  dsimp only at h1 h2 h3 h4 ⊢
  obtain ⟨r, ok, e24, hr⟩ := g24_eq h1 h2
  obtain ⟨l, e25, hl, -⟩ := g25_eq h3
  obtain ⟨m, e25m, hm, -⟩ := g25_eq h4
  have hz := hr.sz hl
  have hz2 := hr.sz hm
  have hdl := hz.v.r.dcs
  have hpl := hz.v.r.dps
  have hll := hz.v.l
  have e16 := g16_eq hz.v.l
  have e16m := g16_eq hz2.v.l
  have e15 := g15_eq hz
  have e22 := g22_eq hz.v.l
  have e22m := g22_eq hz2.v.l
  have e26 := g26_eq hz hz2
  have e28 := g28_eq hz.v.l hz2.v.l
  have h10 : ((1 : Int) != 0) = true := rfl
  have h00 : ((0 : Int) != 0) = false := rfl
  unfold eR at e24
  rw [start_frame (by simp)]; simp only [enumV, go_sem, emptyH]
  cases ok with
  | false =>
    repeat (first
      | (apply axJ; (focus ((with_reducible constructor) <;> rfl)))
      | (apply awT mixedOK hΓ (by kernel_rfl); (simp (disch := omega) only [go_sem, ↓reduceIte, dk, Γ7, g11_eq', e24, e25, e25m] <;> with_reducible rfl))
      | ((first | apply awR hΓ | apply awG | apply awH mixedOK hΓ rfl (by kernel_rfl) | apply ovE rfl); (simp (disch := omega) only [go_sem, ↓reduceIte, dk, Γ7, g11_eq', e24, e25, e25m] <;> with_reducible rfl); exact trivial)
      | rfl)
  | true =>
  by_cases hd : 0 < r.dps.length
  · repeat (first
    | (apply axJ; (focus ((with_reducible constructor) <;> rfl)))
    | (apply awT mixedOK hΓ (by kernel_rfl); (simp (disch := omega) only [go_sem, ↓reduceIte, dk, Γ7, g11_eq', e24, e25, e25m] <;> with_reducible rfl))
    | ((first | apply awR hΓ | apply awG | apply awH mixedOK hΓ rfl (by kernel_rfl) | apply ovE rfl); (simp (disch := omega) only [go_sem, ↓reduceIte, dk, Γ7, g11_eq', e24, e25, e25m] <;> with_reducible rfl); exact trivial)
    | rfl)
  have hd0 : r.dps = [] := List.eq_nil_of_length_eq_zero (by omega)
  rcases vld_01 l with h | h
  case inr =>
    rw [h] at e22
    repeat (first
      | (apply axJ; (focus ((with_reducible constructor) <;> rfl)))
      | (apply awT mixedOK hΓ (by kernel_rfl); (simp (disch := omega) only [go_sem, ↓reduceIte, dk, Γ7, g11_eq', e24, e25, e25m, e22, h10] <;> with_reducible rfl))
      | ((first | apply awR hΓ | apply awG | apply awH mixedOK hΓ rfl (by kernel_rfl) | apply ovE rfl); (simp (disch := omega) only [go_sem, ↓reduceIte, dk, Γ7, g11_eq', e24, e25, e25m, e22, h10] <;> with_reducible rfl); exact trivial)
      | rfl)
  rcases vld_01 m with h' | h'
  case inr =>
    rw [h] at e22
    rw [h'] at e22m
    repeat (first
      | (apply axJ; (focus ((with_reducible constructor) <;> rfl)))
      | (apply awT mixedOK hΓ (by kernel_rfl); (simp (disch := omega) only [go_sem, ↓reduceIte, dk, Γ7, g11_eq', e24, e25, e25m, e22, e22m, h10, h00] <;> with_reducible rfl))
      | ((first | apply awR hΓ | apply awG | apply awH mixedOK hΓ rfl (by kernel_rfl) | apply ovE rfl); (simp (disch := omega) only [go_sem, ↓reduceIte, dk, Γ7, g11_eq', e24, e25, e25m, e22, e22m, h10, h00] <;> with_reducible rfl); exact trivial)
      | rfl)
  rw [h] at e22
  rw [h'] at e22m
  have hsr : stR r l = .tup [.list ((stds r l).map eS), i64 0] := by simp [stR, h]
  have hfr : faR r l m = .tup [.list ((fals r l m r.dcs.length).map .str), i64 0] := by simp [faR, h, h']
  have hcr : chR l m = .tup [.list ((chgs l m l.length).map eN), i64 0] := by simp [chR, h, h']
  rw [hsr] at e15
  rw [hfr] at e26
  rw [hcr] at e28
  have hsl := stds_len r l
  have hne : ((r.dcs.length : Int) != (r.dcs.length : Int)) = false := by simp
  have hfl : (fals r l m r.dcs.length).length ≤ r.dcs.length := filt_len _ _ _ _
  have hcl : (chgs l m l.length).length ≤ l.length := filt_len _ _ _ _
  have e30 := g30_eq (l := fals r l m r.dcs.length) (by omega)
  generalize hfa : fals r l m r.dcs.length = fa at e26 e30
  repeat (first
    | (apply axJ; (focus ((with_reducible constructor) <;> rfl)))
    | (apply awT mixedOK hΓ (by kernel_rfl); (simp (disch := omega) only [go_sem, ↓reduceIte, dk, Γ7, g11_eq', e24, e25, e25m, e22, e22m, h00, e16, e16m, e15, e26, e28, hsl, hne] <;> with_reducible rfl))
    | ((first | apply awR hΓ | apply awG | apply awH mixedOK hΓ rfl (by kernel_rfl) | apply ovE rfl); (simp (disch := omega) only [go_sem, ↓reduceIte, dk, Γ7, g11_eq', e24, e25, e25m, e22, e22m, h00, e16, e16m, e15, e26, e28, hsl, hne] <;> with_reducible rfl); exact trivial)
    | rfl)
  refine awp_loop_at (X := Nat) (fun i => (frame 136 [(7, .ptr 6 0), (11, .data (.list ((stds r l).map eS))), (13, .data (.list ((chgs l m l.length).map eN))), (15, .data (.list (fa.map .str))), (17, .row 90 (fals r l m i).length), (95, .data (.list (r.dcs.map eDc))), (96, .data (i64 r.dcs.length)), (97, .data (i64 i))]))
    (fun i => [(6, .box [.data (.list (r.rvs.map eRw)), .data (.list (r.pks.map ePk)), .data (.list (r.dcs.map eDc)), .data (.list (r.dps.map eDp))]), (90, .row 9 1 ((fals r l m i).map .str))]) 91
    (fun i => i ≤ r.dcs.length) (fun i => r.dcs.length - i) 0 (Nat.zero_le _) ((Weak.nilrowF (i := 17) 9 (sz := 1) (by omega) (by omega) rfl).trans (Weak.v (by (simp [ConvF, lookV, Conv, ints, fals]; done)) (by (simp (disch := omega) only [TabSub, look, if_pos, if_neg, Obj.refsOK, refsOKs, AV.refsOK, decide_eq_true_eq, Bool.and_true, Bool.and_self, fals] ) <;> ((repeat' apply And.intro) <;> first | exact True.intro | omega | (simp; done) | rfl)))) ?_
  intro i hi
  have htl : (fals r l m i).length ≤ i := filt_len _ _ _ _
  by_cases hi2 : i < r.dcs.length
  · have hnx : fals r l m (i + 1) = _ := filt_succ (falP r l m) (·.id) hi2
    have h1 := stds_at (l := l) hi2
    change fals r l m (i + 1) = fals r l m i ++ _ at hnx
    generalize hacc : fals r l m i = acc at hnx htl
    generalize hnn : fals r l m (i + 1) = nn at hnx
    generalize hy : r.dcs[i] = y at hnx h1
    have e31 := g31_eq (l := chgs l m l.length) (x := ⟨y.q, y.s, y.dig⟩) (by omega)
    have hex : (stat r l y == 1) = true → has (chgs l m l.length) ⟨y.q, y.s, y.dig⟩ = (stat r m y != 1) := fun h => exact_eq hd0 h
    unfold falP at hnx
    generalize has (chgs l m l.length) ⟨y.q, y.s, y.dig⟩ = hh at e31 hex
    generalize stat r l y = s1 at hnx h1 hex
    generalize stat r m y = s2 at hnx hex
    generalize hc1 : (s1 == 1) = c1 at hnx hex
    generalize (s2 != 1) = c2 at hnx hex
    have hid : (y.id != y.id) = false := by simp
    cases c1 with
    | false =>
      have hn : nn = acc := by rw [hnx]; simp
      repeat (first
        | (apply axJ; (focus ((with_reducible constructor) <;> rfl)))
        | (apply awT mixedOK hΓ (by kernel_rfl); (simp (disch := omega) only [go_sem, ↓reduceIte, dk, eS, eDc, hy, h1, hsl, hid, hc1] <;> with_reducible rfl))
        | ((first | apply awR hΓ | apply awG | apply awH mixedOK hΓ rfl (by kernel_rfl) | apply ovE rfl); (simp (disch := omega) only [go_sem, ↓reduceIte, dk, eS, eDc, hy, h1, hsl, hid, hc1] <;> with_reducible rfl); exact trivial)
        | rfl)
      exact ⟨i + 1, by omega, by omega, Weak.v (by (simp [ConvF, lookV, Conv, ints, hnn, hn]; done)) (by (simp (disch := omega) only [TabSub, look, if_pos, if_neg, Obj.refsOK, refsOKs, AV.refsOK, decide_eq_true_eq, Bool.and_true, Bool.and_self, hnn, hn] ) <;> ((repeat' apply And.intro) <;> first | exact True.intro | omega | (simp; done) | rfl))⟩
    | true =>
      have hex := hex rfl
      subst hex
      cases hh with
      | false =>
        have hn : nn = acc := by rw [hnx]; simp
        repeat (first
          | (apply axJ; (focus ((with_reducible constructor) <;> rfl)))
          | (apply awT mixedOK hΓ (by kernel_rfl); (simp (disch := omega) only [go_sem, ↓reduceIte, ↓lk, ↓ty_build39, dk, eS, eDc, hy, h1, hsl, hid, hc1, Γ7, e31] <;> with_reducible rfl))
          | ((first | apply awR hΓ | apply awG | apply awH mixedOK hΓ rfl (by kernel_rfl) | apply ovE rfl); (simp (disch := omega) only [go_sem, ↓reduceIte, ↓lk, ↓ty_build39, dk, eS, eDc, hy, h1, hsl, hid, hc1, Γ7, e31] <;> with_reducible rfl); exact trivial)
          | rfl)
        exact ⟨i + 1, by omega, by omega, Weak.v (by (simp [ConvF, lookV, Conv, ints, hnn, hn]; done)) (by (simp (disch := omega) only [TabSub, look, if_pos, if_neg, Obj.refsOK, refsOKs, AV.refsOK, decide_eq_true_eq, Bool.and_true, Bool.and_self, hnn, hn] ) <;> ((repeat' apply And.intro) <;> first | exact True.intro | omega | (simp; done) | rfl))⟩
      | true =>
        have hn : nn = acc ++ [y.id] := by rw [hnx]; simp
        have hm : acc.map D.str ++ [.str y.id] = nn.map .str := by rw [hn]; simp
        have hl : nn.length = acc.length + 1 := by rw [hn]; simp
        repeat (first
          | (apply axJ; (focus ((with_reducible constructor) <;> rfl)))
          | (apply awT mixedOK hΓ (by kernel_rfl); (simp (disch := omega) only [go_sem, ↓reduceIte, ↓lk, ↓ty_build39, dk, eS, eDc, hy, h1, hsl, hid, hc1, Γ7, e31] <;> with_reducible rfl))
          | ((first | apply awR hΓ | apply awG | apply awH mixedOK hΓ rfl (by kernel_rfl) | apply ovE rfl); (simp (disch := omega) only [go_sem, ↓reduceIte, ↓lk, ↓ty_build39, dk, eS, eDc, hy, h1, hsl, hid, hc1, Γ7, e31] <;> with_reducible rfl); exact trivial)
          | rfl)
        exact ⟨i + 1, by omega, by omega, Weak.v (by (simp [ConvF, lookV, Conv, ints, hnn, hl, hm]; done)) (by (simp (disch := omega) only [TabSub, look, if_pos, if_neg, Obj.refsOK, refsOKs, AV.refsOK, decide_eq_true_eq, Bool.and_true, Bool.and_self, hnn, hl, hm] ) <;> ((repeat' apply And.intro) <;> first | exact True.intro | omega | (simp; done) | rfl))⟩
  have hi3 : i = r.dcs.length := by omega
  subst hi3
  rw [hfa]
  repeat (first
    | (apply axJ; (focus ((with_reducible constructor) <;> rfl)))
    | (apply awT mixedOK hΓ (by kernel_rfl); (simp (disch := omega) only [go_sem, ↓reduceIte, dk, Γ7, e30] <;> with_reducible rfl))
    | ((first | apply awR hΓ | apply awG | apply awH mixedOK hΓ rfl (by kernel_rfl) | apply ovE rfl); (simp (disch := omega) only [go_sem, ↓reduceIte, dk, Γ7, e30] <;> with_reducible rfl); exact trivial)
    | rfl)
end Go.Ab
