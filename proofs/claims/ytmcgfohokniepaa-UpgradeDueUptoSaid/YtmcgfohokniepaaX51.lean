/-
  One text of the proof (own work): contracts of functions of the program, by the abstract machine.
-/
import Derived.Test.YtmcgfohokniepaaX21
import Derived.Test.YtmcgfohokniepaaX47
set_option linter.unusedVariables false
set_option linter.unusedSimpArgs false
namespace Go.Ab
open Go Go.RowKit Go.Proofs
set_option maxRecDepth 4000
set_option maxHeartbeats 40000000
def strIn (l : List (List UInt8)) (x : List UInt8) : Bool := l.any (· == x)
noncomputable def g76 : List D → Option D := encSpec (fun x : List (List UInt8) × List UInt8 => [.list (x.1.map .str), .str x.2]) (fun x => x.1.length ≤ 1099511627776) (fun x => i64 (idx (· == x.2) x.1))
theorem g76_eq {l : List (List UInt8)} {x : List UInt8} (h : l.length ≤ 1099511627776) : g76 [.list (l.map .str), .str x] = some (.int .i64 (idx (· == x) l)) := encSpec_eq (x := (l, x)) h fun y hy => by
  obtain ⟨y1, y2⟩ := y
  simp only [List.cons.injEq, D.list.injEq, D.str.injEq, and_true] at hy
  rw [map_inj (fun a b h => by simpa using h) hy.1, hy.2]
theorem f76_ok : PureOK Try.prog 76 true g76 := by
  have hΓ := Γ0_ok
  refine pure_enc (n := 19) (rs := [.tmp 4]) Try.func76 (by kernel_rfl) rfl (by kernel_rfl) (by kernel_rfl) ?_
  rintro ⟨l, x⟩ hl
  dsimp only at hl ⊢
  refine ⟨fun _ => .int _ _, fun k hz0 => ?_⟩
  rw [start_frame (by simp)]; simp only [enumV, go_sem, emptyH]
  repeat (first
    | (apply axJ; (focus ((with_reducible constructor) <;> rfl)))
    | (apply awT mixedOK hΓ (by kernel_rfl); (simp (disch := omega) only [go_sem, ↓reduceIte, dk] <;> with_reducible rfl))
    | ((first | apply awR hΓ | apply awG | apply awH mixedOK hΓ rfl (by kernel_rfl) | apply ovE rfl); (simp (disch := omega) only [go_sem, ↓reduceIte, dk] <;> with_reducible rfl); exact trivial)
    | rfl)
  refine awp_loop_at (X := Nat) (fun i => (frame 19 [(0, .data (.list (l.map .str))), (1, .data (.str x)), (7, .data (i64 l.length)), (8, .data (i64 i))])) (fun _ => []) 1
    (fun i => i ≤ l.length ∧ (l.take i).any (· == x) = false) (fun i => l.length - i) 0 ⟨Nat.zero_le _, rfl⟩ (Weak.w) ?_
  rintro i ⟨hi, hpre⟩
  by_cases hi2 : i < l.length
  · have hcm : (x == l[i]) = (l[i] == x) := by rw [Bool.eq_iff_iff, beq_iff_eq, beq_iff_eq]; exact eq_comm
    cases hx : (l[i] == x) with
    | true =>
      have hid := idx_at (p := (· == x)) hi2 hx hpre
      rw [hx] at hcm
      generalize hy : l[i] = y at *
      repeat (first
        | (apply axJ; (focus ((with_reducible constructor) <;> rfl)))
        | (apply awT mixedOK hΓ (by kernel_rfl); (simp (disch := omega) only [go_sem, ↓reduceIte, dk, hy, hcm] <;> with_reducible rfl))
        | ((first | apply awR hΓ | apply awG | apply awH mixedOK hΓ rfl (by kernel_rfl) | apply ovE rfl); (simp (disch := omega) only [go_sem, ↓reduceIte, dk, hy, hcm] <;> with_reducible rfl); exact trivial)
        | rfl)
      rw [hid]
    | false =>
      have hn := any_next (p := (· == x)) hi2 hpre hx
      rw [hx] at hcm
      generalize hy : l[i] = y at *
      repeat (first
        | (apply axJ; (focus ((with_reducible constructor) <;> rfl)))
        | (apply awT mixedOK hΓ (by kernel_rfl); (simp (disch := omega) only [go_sem, ↓reduceIte, dk, hy, hcm] <;> with_reducible rfl))
        | ((first | apply awR hΓ | apply awG | apply awH mixedOK hΓ rfl (by kernel_rfl) | apply ovE rfl); (simp (disch := omega) only [go_sem, ↓reduceIte, dk, hy, hcm] <;> with_reducible rfl); exact trivial)
        | rfl)
      exact ⟨i + 1, ⟨by omega, hn⟩, by omega, Weak.w⟩
  · have hi' : i = l.length := by omega
    subst hi'
    rw [List.take_length] at hpre
    have hid := idx_none hpre
    repeat (first
      | (apply axJ; (focus ((with_reducible constructor) <;> rfl)))
      | (apply awT mixedOK hΓ (by kernel_rfl); (simp (disch := omega) only [go_sem, ↓reduceIte, dk] <;> with_reducible rfl))
      | ((first | apply awR hΓ | apply awG | apply awH mixedOK hΓ rfl (by kernel_rfl) | apply ovE rfl); (simp (disch := omega) only [go_sem, ↓reduceIte, dk] <;> with_reducible rfl); exact trivial)
      | rfl)
    rw [hid]
noncomputable def g50 : List D → Option D := encSpec (fun x : List (List UInt8) × List UInt8 => [.list (x.1.map .str), .str x.2]) (fun x => x.1.length ≤ 1099511627776) (fun x => .bool (strIn x.1 x.2))
theorem g50_eq {l : List (List UInt8)} {x : List UInt8} (h : l.length ≤ 1099511627776) : g50 [.list (l.map .str), .str x] = some (.bool (strIn l x)) := encSpec_eq (x := (l, x)) h fun y hy => by
  obtain ⟨y1, y2⟩ := y
  simp only [List.cons.injEq, D.list.injEq, D.str.injEq, and_true] at hy
  rw [map_inj (fun a b h => by simpa using h) hy.1, hy.2]
noncomputable def Γ50 : FuncId → Option CSpec := fun f => if f = 76 then some (.pure true (g76)) else none
theorem Γ50_ok : ∀ f s, Γ50 f = some s → SpecOK Try.prog f s := by
  intro f s h
  unfold Γ50 at h
  split at h
  · rename_i hf; cases h; subst hf; exact f76_ok
  · cases h
theorem f50_ok : PureOK Try.prog 50 true g50 := by
  have hΓ := Γ50_ok
  refine pure_enc (n := 9) (rs := [.tmp 4]) Try.func50 (by kernel_rfl) rfl (by kernel_rfl) (by kernel_rfl) ?_
  rintro ⟨l, x⟩ hl
  dsimp only at hl ⊢
  refine ⟨fun _ => .bool _, fun k hz0 => ?_⟩
  have e76 := g76_eq (x := x) hl
  rw [start_frame (by simp)]; simp only [enumV, go_sem, emptyH]
  repeat (first
    | (apply axJ; (focus ((with_reducible constructor) <;> rfl)))
    | (apply awT mixedOK hΓ (by kernel_rfl); (simp (disch := omega) only [go_sem, ↓reduceIte, dk, Γ50, e76] <;> with_reducible rfl))
    | ((first | apply awR hΓ | apply awG | apply awH mixedOK hΓ rfl (by kernel_rfl) | apply ovE rfl); (simp (disch := omega) only [go_sem, ↓reduceIte, dk, Γ50, e76] <;> with_reducible rfl); exact trivial)
    | rfl)
  rw [strIn, ← idx_nonneg]
def anR (r : Rev) (l : List Now) (q s : List UInt8) : D := if vld l = 0 then .tup [.list ((ansN r l q s r.dcs.length).map .str), i64 0] else .tup [.list [], i64 1]
noncomputable def g32 : List D → Option D := encSpec (fun x : Rev × List Now × List UInt8 × List UInt8 => [eR x.1, .list (x.2.1.map eN), .str x.2.2.1, .str x.2.2.2]) (fun x => SzA x.1 x.2.1) (fun x => anR x.1 x.2.1 x.2.2.1 x.2.2.2)
theorem g32_eq {r : Rev} {l : List Now} {q s : List UInt8} (h : SzA r l) : g32 [.agg [.list (r.rvs.map eRw), .list (r.pks.map ePk), .list (r.dcs.map eDc), .list (r.dps.map eDp)], .list (l.map eN), .str q, .str s] = some (anR r l q s) := encSpec_eq (x := (r, l, q, s)) h fun y hy => by
  obtain ⟨y1, y2, y3, y4⟩ := y
  simp only [List.cons.injEq, and_true, D.list.injEq, D.str.injEq] at hy
  rw [eR_inj _ _ hy.1, map_inj eN_inj hy.2.1, hy.2.2.1, hy.2.2.2]
noncomputable def Γ32 : FuncId → Option CSpec := fun f => if f = 22 then some (.pure true (g22)) else if f = 39 then some (.pure false (g39)) else if f = 50 then some (.pure true (g50)) else none
theorem Γ32_ok : ∀ f s, Γ32 f = some s → SpecOK Try.prog f s := by
  intro f s h
  unfold Γ32 at h
  split at h
  · rename_i hf; cases h; subst hf; exact f22_ok
  split at h
  · rename_i hf; cases h; subst hf; exact f39_ok
  split at h
  · rename_i hf; cases h; subst hf; exact f50_ok
  · cases h
theorem f32_ok : PureOK Try.prog 32 false g32 := by
  have hΓ := Γ32_ok
  refine pure_enc (n := 64) (rs := [.tmp 8, .tmp 9]) Try.func32 (by kernel_rfl) rfl (by kernel_rfl) (by kernel_rfl) ?_
  rintro ⟨r, l, q, s⟩ hz
  dsimp only at hz ⊢
  have hdl := hz.v.r.dcs
  refine ⟨fun h => (by cases h), fun k hz0 => ?_⟩
  have e22 := g22_eq hz.v.l
  have e39 := g39_eq hz
  have h10 : ((1 : Int) != 0) = true := rfl
  have h00 : ((0 : Int) != 0) = false := rfl
  rw [start_frame (by simp)]; simp only [enumV, go_sem, emptyH]
  rcases vld_01 l with h | h
  case inr =>
    have hs : anR r l q s = .tup [.list [], i64 1] := by simp [anR, h]
    rw [h] at e22
    repeat (first
      | (apply axJ; (focus ((with_reducible constructor) <;> rfl)))
      | (apply awT mixedOK hΓ (by kernel_rfl); (simp (disch := omega) only [go_sem, ↓reduceIte, dk, Γ32, e22, h10] <;> with_reducible rfl))
      | ((first | apply awR hΓ | apply awG | apply awH mixedOK hΓ rfl (by kernel_rfl) | apply ovE rfl); (simp (disch := omega) only [go_sem, ↓reduceIte, dk, Γ32, e22, h10] <;> with_reducible rfl); exact trivial)
      | rfl)
    rw [hs]
  have hs : anR r l q s = .tup [.list ((ansN r l q s r.dcs.length).map .str), i64 0] := by simp [anR, h]
  rw [h] at e22
  have hsl := stds_len r l
  repeat (first
    | (apply axJ; (focus ((with_reducible constructor) <;> rfl)))
    | (apply awT mixedOK hΓ (by kernel_rfl); (simp (disch := omega) only [go_sem, ↓reduceIte, ↓lk, ↓ty_build72, dk, Γ32, e22, h00, e39, hsl] <;> with_reducible rfl))
    | ((first | apply awR hΓ | apply awG | apply awH mixedOK hΓ rfl (by kernel_rfl) | apply ovE rfl); (simp (disch := omega) only [go_sem, ↓reduceIte, ↓lk, ↓ty_build72, dk, Γ32, e22, h00, e39, hsl] <;> with_reducible rfl); exact trivial)
    | rfl)
  refine awp_loop_at (X := Nat) (fun i => (frame 64 [(2, .data (.str q)), (3, .data (.str s)), (4, .ptr 0 0), (11, .row 15 (ansN r l q s i).length), (23, .data (.list ((stds r l).map eS))), (24, .data (i64 r.dcs.length)), (25, .data (i64 i))]))
    (fun i => [(0, .box [.data (.list (r.rvs.map eRw)), .data (.list (r.pks.map ePk)), .data (.list (r.dcs.map eDc)), .data (.list (r.dps.map eDp))]), (15, .row 9 1 ((ansN r l q s i).map .str))]) 16
    (fun i => i ≤ r.dcs.length) (fun i => r.dcs.length - i) 0 (Nat.zero_le _) ((Weak.nilrowF (i := 11) 9 (sz := 1) (by omega) (by omega) rfl).trans (Weak.v (by (simp [ConvF, lookV, Conv, ints, ansN]; done)) (by (simp (disch := omega) only [TabSub, look, if_pos, if_neg, Obj.refsOK, refsOKs, AV.refsOK, decide_eq_true_eq, Bool.and_true, Bool.and_self, ansN] ) <;> ((repeat' apply And.intro) <;> first | exact True.intro | omega | (simp; done) | rfl)))) ?_
  intro i hi
  have htl := ansN_len r l q s i hi
  by_cases hi2 : i < r.dcs.length
  · have hnx := ansN_succ (l := l) (q := q) (s := s) hi2
    have h1 := stds_at (l := l) hi2
    generalize hacc : ansN r l q s i = acc at hnx htl
    generalize hnn : ansN r l q s (i + 1) = nn at hnx
    generalize hy : r.dcs[i] = y at hnx h1
    unfold ansStep hit at hnx
    have e50 := g50_eq (l := acc) (x := y.ans) (by omega)
    unfold strIn at e50
    generalize stat r l y = s1 at hnx h1
    generalize hc1 : (s1 == 1) = c1 at hnx
    generalize hc2 : (y.q == q) = c2 at hnx
    generalize hc3 : (y.s == s) = c3 at hnx
    generalize acc.any (· == y.ans) = c4 at hnx e50
    cases c1 with
    | false =>
      have hn : nn = acc := by rw [hnx]; simp
      repeat (first
        | (apply axJ; (focus ((with_reducible constructor) <;> rfl)))
        | (apply awT mixedOK hΓ (by kernel_rfl); (simp (disch := omega) only [go_sem, ↓reduceIte, dk, eS, eDc, hy, h1, hsl, hc1] <;> with_reducible rfl))
        | ((first | apply awR hΓ | apply awG | apply awH mixedOK hΓ rfl (by kernel_rfl) | apply ovE rfl); (simp (disch := omega) only [go_sem, ↓reduceIte, dk, eS, eDc, hy, h1, hsl, hc1] <;> with_reducible rfl); exact trivial)
        | rfl)
      exact ⟨i + 1, by omega, by omega, Weak.v (by (simp [ConvF, lookV, Conv, ints, hnn, hn]; done)) (by (simp (disch := omega) only [TabSub, look, if_pos, if_neg, Obj.refsOK, refsOKs, AV.refsOK, decide_eq_true_eq, Bool.and_true, Bool.and_self, hnn, hn] ) <;> ((repeat' apply And.intro) <;> first | exact True.intro | omega | (simp; done) | rfl))⟩
    | true =>
    cases c2 with
    | false =>
      have hn : nn = acc := by rw [hnx]; simp
      repeat (first
        | (apply axJ; (focus ((with_reducible constructor) <;> rfl)))
        | (apply awT mixedOK hΓ (by kernel_rfl); (simp (disch := omega) only [go_sem, ↓reduceIte, dk, eS, eDc, hy, h1, hsl, hc1, hc2] <;> with_reducible rfl))
        | ((first | apply awR hΓ | apply awG | apply awH mixedOK hΓ rfl (by kernel_rfl) | apply ovE rfl); (simp (disch := omega) only [go_sem, ↓reduceIte, dk, eS, eDc, hy, h1, hsl, hc1, hc2] <;> with_reducible rfl); exact trivial)
        | rfl)
      exact ⟨i + 1, by omega, by omega, Weak.v (by (simp [ConvF, lookV, Conv, ints, hnn, hn]; done)) (by (simp (disch := omega) only [TabSub, look, if_pos, if_neg, Obj.refsOK, refsOKs, AV.refsOK, decide_eq_true_eq, Bool.and_true, Bool.and_self, hnn, hn] ) <;> ((repeat' apply And.intro) <;> first | exact True.intro | omega | (simp; done) | rfl))⟩
    | true =>
    cases c3 with
    | false =>
      have hn : nn = acc := by rw [hnx]; simp
      repeat (first
        | (apply axJ; (focus ((with_reducible constructor) <;> rfl)))
        | (apply awT mixedOK hΓ (by kernel_rfl); (simp (disch := omega) only [go_sem, ↓reduceIte, dk, eS, eDc, hy, h1, hsl, hc1, hc2, hc3] <;> with_reducible rfl))
        | ((first | apply awR hΓ | apply awG | apply awH mixedOK hΓ rfl (by kernel_rfl) | apply ovE rfl); (simp (disch := omega) only [go_sem, ↓reduceIte, dk, eS, eDc, hy, h1, hsl, hc1, hc2, hc3] <;> with_reducible rfl); exact trivial)
        | rfl)
      exact ⟨i + 1, by omega, by omega, Weak.v (by (simp [ConvF, lookV, Conv, ints, hnn, hn]; done)) (by (simp (disch := omega) only [TabSub, look, if_pos, if_neg, Obj.refsOK, refsOKs, AV.refsOK, decide_eq_true_eq, Bool.and_true, Bool.and_self, hnn, hn] ) <;> ((repeat' apply And.intro) <;> first | exact True.intro | omega | (simp; done) | rfl))⟩
    | true =>
    cases c4 with
    | true =>
      have hn : nn = acc := by rw [hnx]; simp
      repeat (first
        | (apply axJ; (focus ((with_reducible constructor) <;> rfl)))
        | (apply awT mixedOK hΓ (by kernel_rfl); (simp (disch := omega) only [go_sem, ↓reduceIte, dk, eS, eDc, hy, h1, hsl, hc1, hc2, hc3, Γ32, e50] <;> with_reducible rfl))
        | ((first | apply awR hΓ | apply awG | apply awH mixedOK hΓ rfl (by kernel_rfl) | apply ovE rfl); (simp (disch := omega) only [go_sem, ↓reduceIte, dk, eS, eDc, hy, h1, hsl, hc1, hc2, hc3, Γ32, e50] <;> with_reducible rfl); exact trivial)
        | rfl)
      exact ⟨i + 1, by omega, by omega, Weak.v (by (simp [ConvF, lookV, Conv, ints, hnn, hn]; done)) (by (simp (disch := omega) only [TabSub, look, if_pos, if_neg, Obj.refsOK, refsOKs, AV.refsOK, decide_eq_true_eq, Bool.and_true, Bool.and_self, hnn, hn] ) <;> ((repeat' apply And.intro) <;> first | exact True.intro | omega | (simp; done) | rfl))⟩
    | false =>
      have hn : nn = acc ++ [y.ans] := by rw [hnx]; simp
      have hm : acc.map D.str ++ [.str y.ans] = nn.map .str := by rw [hn]; simp
      have hl : nn.length = acc.length + 1 := by rw [hn]; simp
      repeat (first
        | (apply axJ; (focus ((with_reducible constructor) <;> rfl)))
        | (apply awT mixedOK hΓ (by kernel_rfl); (simp (disch := omega) only [go_sem, ↓reduceIte, ↓lk, dk, eS, eDc, hy, h1, hsl, hc1, hc2, hc3, Γ32, e50] <;> with_reducible rfl))
        | ((first | apply awR hΓ | apply awG | apply awH mixedOK hΓ rfl (by kernel_rfl) | apply ovE rfl); (simp (disch := omega) only [go_sem, ↓reduceIte, ↓lk, dk, eS, eDc, hy, h1, hsl, hc1, hc2, hc3, Γ32, e50] <;> with_reducible rfl); exact trivial)
        | rfl)
      exact ⟨i + 1, by omega, by omega, Weak.v (by (simp [ConvF, lookV, Conv, ints, hnn, hl, hm]; done)) (by (simp (disch := omega) only [TabSub, look, if_pos, if_neg, Obj.refsOK, refsOKs, AV.refsOK, decide_eq_true_eq, Bool.and_true, Bool.and_self, hnn, hl, hm] ) <;> ((repeat' apply And.intro) <;> first | exact True.intro | omega | (simp; done) | rfl))⟩
  have hi3 : i = r.dcs.length := by omega
  subst hi3
  repeat (first
    | (apply axJ; (focus ((with_reducible constructor) <;> rfl)))
    | (apply awT mixedOK hΓ (by kernel_rfl); (simp (disch := omega) only [go_sem, ↓reduceIte, dk] <;> with_reducible rfl))
    | ((first | apply awR hΓ | apply awG | apply awH mixedOK hΓ rfl (by kernel_rfl) | apply ovE rfl); (simp (disch := omega) only [go_sem, ↓reduceIte, dk] <;> with_reducible rfl); exact trivial)
    | rfl)
  rw [hs]
noncomputable def Γ33 : FuncId → Option CSpec := fun f => if f = 23 then some (.pure true (g22)) else if f = 41 then some (.pure false (g41)) else none
theorem Γ33_ok : ∀ f s, Γ33 f = some s → SpecOK Try.prog f s := by
  intro f s h
  unfold Γ33 at h
  split at h
  · rename_i hf; cases h; subst hf; exact f23_ok
  split at h
  · rename_i hf; cases h; subst hf; exact f41_ok
  · cases h
theorem f33_ok : PureOK Try.prog 33 false g32 := by
  have hΓ := Γ33_ok
  refine pure_enc (n := 18) (rs := [.tmp 8, .tmp 9]) Try.func33 (by kernel_rfl) rfl (by kernel_rfl) (by kernel_rfl) ?_
  rintro ⟨r, l, q, s⟩ hz
  dsimp only at hz ⊢
  refine ⟨fun h => (by cases h), fun k hz0 => ?_⟩
  have e22 := g22_eq hz.v.l
  have e41 := g41_eq (q := q) (s := s) hz
  have h10 : ((1 : Int) != 0) = true := rfl
  have h00 : ((0 : Int) != 0) = false := rfl
  rw [start_frame (by simp)]; simp only [enumV, go_sem, emptyH]
  rcases vld_01 l with h | h
  · have hs : anR r l q s = .tup [.list ((ansN r l q s r.dcs.length).map .str), i64 0] := by simp [anR, h]
    rw [h] at e22
    repeat (first
      | (apply axJ; (focus ((with_reducible constructor) <;> rfl)))
      | (apply awT mixedOK hΓ (by kernel_rfl); (simp (disch := omega) only [go_sem, ↓reduceIte, dk, Γ33, e22, h00, e41] <;> with_reducible rfl))
      | ((first | apply awR hΓ | apply awG | apply awH mixedOK hΓ rfl (by kernel_rfl) | apply ovE rfl); (simp (disch := omega) only [go_sem, ↓reduceIte, dk, Γ33, e22, h00, e41] <;> with_reducible rfl); exact trivial)
      | rfl)
    rw [hs]
  · have hs : anR r l q s = .tup [.list [], i64 1] := by simp [anR, h]
    rw [h] at e22
    repeat (first
      | (apply axJ; (focus ((with_reducible constructor) <;> rfl)))
      | (apply awT mixedOK hΓ (by kernel_rfl); (simp (disch := omega) only [go_sem, ↓reduceIte, dk, Γ33, e22, h10] <;> with_reducible rfl))
      | ((first | apply awR hΓ | apply awG | apply awH mixedOK hΓ rfl (by kernel_rfl) | apply ovE rfl); (simp (disch := omega) only [go_sem, ↓reduceIte, dk, Γ33, e22, h10] <;> with_reducible rfl); exact trivial)
      | rfl)
    rw [hs]
theorem stand_one {r : Rev} {l : List Now} (hone : ∀ a ∈ r.dcs, ∀ b ∈ r.dcs, a.id = b.id → a.ans = b.ans)
    (hlt : ∀ a b : List UInt8, a ≠ b → Op.bytesLess a b = true ∨ Op.bytesLess b a = true)
    (hdp : ∀ a ∈ r.dcs, ∀ b ∈ r.dcs, Op.bytesLess a.id b.id = true → a.w = false → a.o = false → a.rp = false → b.w = false → b.o = false → b.rp = false → a.q = b.q → a.s = b.s → a.ans ≠ b.ans → (⟨a.id, b.id⟩ : Dp) ∈ r.dps)
    {a b : Dc} (ha : a ∈ r.dcs) (hb : b ∈ r.dcs) (hsa : stat r l a = 1) (hsb : stat r l b = 1) (hq : a.q = b.q) (hs : a.s = b.s) : a.ans = b.ans := by
  have hf : ∀ d : Dc, stat r l d = 1 → first r l d = 1 ∧ disp r (pres r l) d.id = false := fun d h => by
    unfold stat at h
    split at h
    · rename_i h1
      rw [h] at h1
      exact absurd h1 (by decide)
    · rename_i h1
      split at h
      · exact absurd h (by decide)
      · rename_i h2
        exact ⟨by simpa using h1, by simpa using h2⟩
  have hopen : ∀ d : Dc, first r l d = 1 → d.w = false ∧ d.o = false ∧ d.rp = false := fun d h => by
    unfold first at h
    split at h
    · exact absurd h (by decide)
    split at h
    · exact absurd h (by decide)
    split at h
    · exact absurd h (by decide)
    rename_i h1 h2 h3
    exact ⟨by simpa using h1, by simpa using h2, by simpa using h3⟩
  have hp : ∀ d ∈ r.dcs, first r l d = 1 → pres r l d.id = true := fun d hd h => any_yes _ hd (by simp [h])
  obtain ⟨fa, da⟩ := hf a hsa
  obtain ⟨fb, db⟩ := hf b hsb
  obtain ⟨a1, a2, a3⟩ := hopen a fa
  obtain ⟨b1, b2, b3⟩ := hopen b fb
  have pa := hp a ha fa
  have pb := hp b hb fb
  by_cases hid : a.id = b.id
  · exact hone a ha b hb hid
  by_cases hne : a.ans = b.ans
  · exact hne
  rcases hlt _ _ hid with h | h
  · have hm := hdp a ha b hb h a1 a2 a3 b1 b2 b3 hq hs hne
    have : disp r (pres r l) a.id = true := any_yes _ hm (by simp [pb])
    rw [da] at this; cases this
  · have hm := hdp b hb a ha h b1 b2 b3 a1 a2 a3 hq.symm hs.symm (Ne.symm hne)
    have : disp r (pres r l) b.id = true := any_yes _ hm (by simp [pa])
    rw [db] at this; cases this
theorem ans_one {r : Rev} {l : List Now} {q s : List UInt8} (h : ∀ a ∈ r.dcs, ∀ b ∈ r.dcs, hit r l q s a = true → hit r l q s b = true → a.ans = b.ans) : (ansN r l q s r.dcs.length).length ≤ 1 := by
  have key : ∀ (ds : List Dc) (acc : List (List UInt8)), (∀ d ∈ ds, d ∈ r.dcs) → (acc = [] ∨ ∃ d ∈ r.dcs, hit r l q s d = true ∧ acc = [d.ans]) → (ds.foldl (ansStep r l q s) acc).length ≤ 1 := by
    intro ds
    induction ds with
    | nil =>
      intro acc _ ha
      rcases ha with rfl | ⟨d, _, _, rfl⟩ <;> simp
    | cons d ds ih =>
      intro acc hd ha
      refine ih _ (fun x hx => hd x (List.mem_cons_of_mem _ hx)) ?_
      have hdm := hd d List.mem_cons_self
      unfold ansStep
      by_cases hh : hit r l q s d = true
      · rw [if_pos hh]
        rcases ha with rfl | ⟨e, he, hhe, rfl⟩
        · exact .inr ⟨d, hdm, hh, by simp⟩
        · have := h e he d hdm hhe hh
          rw [if_pos (by simp [this])]
          exact .inr ⟨e, he, hhe, rfl⟩
      · rw [if_neg hh]
        exact ha
  unfold ansN
  rw [List.take_length]
  exact key _ _ (fun d hd => hd) (.inl rfl)
end Go.Ab
