/-
  One text of the proof (own work): contracts of functions of the program, by the abstract machine.
-/
import Derived.Test.YtmcgfohokniepaaX21
import Derived.Test.YtmcgfohokniepaaX47
set_option linter.unusedVariables false
set_option linter.unusedSimpArgs false
namespace Go.Ab
open Go Go.RowKit Go.Proofs
set_option maxRecDepth 4000
set_option maxHeartbeats 40000000
def falP (r : Rev) (l m : List Now) (d : Dc) : Bool := (stat r l d == 1) && (stat r m d != 1)
def fals (r : Rev) (l m : List Now) (i : Nat) : List (List UInt8) := ((r.dcs.take i).filter (falP r l m)).map (·.id)
def chgs (l m : List Now) (i : Nat) : List Now := ((l.take i).filter (fun x => !has m x)).map id
def faR (r : Rev) (l m : List Now) : D := if vld l = 0 ∧ vld m = 0 then .tup [.list ((fals r l m r.dcs.length).map .str), i64 0] else .tup [.list [], i64 1]
def chR (l m : List Now) : D := if vld l = 0 ∧ vld m = 0 then .tup [.list ((chgs l m l.length).map eN), i64 0] else .tup [.list [], i64 1]
noncomputable def g26 : List D → Option D := encSpec (fun x : Rev × List Now × List Now => [eR x.1, .list (x.2.1.map eN), .list (x.2.2.map eN)]) (fun x => SzA x.1 x.2.1 ∧ SzA x.1 x.2.2) (fun x => faR x.1 x.2.1 x.2.2)
theorem g26_eq {r : Rev} {l m : List Now} (h : SzA r l) (h2 : SzA r m) : g26 [.agg [.list (r.rvs.map eRw), .list (r.pks.map ePk), .list (r.dcs.map eDc), .list (r.dps.map eDp)], .list (l.map eN), .list (m.map eN)] = some (faR r l m) := encSpec_eq (x := (r, l, m)) ⟨h, h2⟩ fun y hy => by
  obtain ⟨y1, y2, y3⟩ := y
  simp only [List.cons.injEq, and_true, D.list.injEq] at hy
  rw [eR_inj _ _ hy.1, map_inj eN_inj hy.2.1, map_inj eN_inj hy.2.2]
noncomputable def g28 : List D → Option D := encSpec (fun x : List Now × List Now => [.list (x.1.map eN), .list (x.2.map eN)]) (fun x => x.1.length ≤ 1099511627776 ∧ x.2.length ≤ 1099511627776) (fun x => chR x.1 x.2)
theorem g28_eq {l m : List Now} (h : l.length ≤ 1099511627776) (h2 : m.length ≤ 1099511627776) : g28 [.list (l.map eN), .list (m.map eN)] = some (chR l m) := encSpec_eq (x := (l, m)) ⟨h, h2⟩ fun y hy => by
  obtain ⟨y2, y3⟩ := y
  simp only [List.cons.injEq, and_true, D.list.injEq] at hy
  rw [map_inj eN_inj hy.1, map_inj eN_inj hy.2]
noncomputable def Γ26 : FuncId → Option CSpec := fun f => if f = 22 then some (.pure true (g22)) else if f = 39 then some (.pure false (g39)) else none
theorem Γ26_ok : ∀ f s, Γ26 f = some s → SpecOK Try.prog f s := by
  intro f s h
  unfold Γ26 at h
  split at h
  · rename_i hf; cases h; subst hf; exact f22_ok
  split at h
  · rename_i hf; cases h; subst hf; exact f39_ok
  · cases h
theorem f26_ok : PureOK Try.prog 26 false g26 := by
  have hΓ := Γ26_ok
  refine pure_enc (n := 52) (rs := [.tmp 6, .tmp 7]) Try.func26 (by kernel_rfl) rfl (by kernel_rfl) (by kernel_rfl) ?_
  rintro ⟨r, l, m⟩ ⟨hz, hz2⟩
  dsimp only at hz hz2 ⊢
  have hdl := hz.v.r.dcs
  refine ⟨fun h => (by cases h), fun k hz0 => ?_⟩
  have e22 := g22_eq hz.v.l
  have e22m := g22_eq hz2.v.l
  have e39 := g39_eq hz
  have e39m := g39_eq hz2
  have h10 : ((1 : Int) != 0) = true := rfl
  have h00 : ((0 : Int) != 0) = false := rfl
  rw [start_frame (by simp)]; simp only [enumV, go_sem, emptyH]
  rcases vld_01 l with h | h
  case inr =>
    have hs : faR r l m = .tup [.list [], i64 1] := by simp [faR, h]
    rw [h] at e22
    repeat (first
      | (apply axJ; (focus ((with_reducible constructor) <;> rfl)))
      | (apply awT mixedOK hΓ (by kernel_rfl); (simp (disch := omega) only [go_sem, ↓reduceIte, dk, Γ26, e22, h10] <;> with_reducible rfl))
      | ((first | apply awR hΓ | apply awG | apply awH mixedOK hΓ rfl (by kernel_rfl) | apply ovE rfl); (simp (disch := omega) only [go_sem, ↓reduceIte, dk, Γ26, e22, h10] <;> with_reducible rfl); exact trivial)
      | rfl)
    rw [hs]
  rcases vld_01 m with h2 | h2
  case inr =>
    have hs : faR r l m = .tup [.list [], i64 1] := by simp [faR, h, h2]
    rw [h] at e22
    rw [h2] at e22m
    repeat (first
      | (apply axJ; (focus ((with_reducible constructor) <;> rfl)))
      | (apply awT mixedOK hΓ (by kernel_rfl); (simp (disch := omega) only [go_sem, ↓reduceIte, dk, Γ26, e22, e22m, h10, h00] <;> with_reducible rfl))
      | ((first | apply awR hΓ | apply awG | apply awH mixedOK hΓ rfl (by kernel_rfl) | apply ovE rfl); (simp (disch := omega) only [go_sem, ↓reduceIte, dk, Γ26, e22, e22m, h10, h00] <;> with_reducible rfl); exact trivial)
      | rfl)
    rw [hs]
  have hs : faR r l m = .tup [.list ((fals r l m r.dcs.length).map .str), i64 0] := by simp [faR, h, h2]
  rw [h] at e22
  rw [h2] at e22m
  have hsl := stds_len r l
  have hsm := stds_len r m
  repeat (first
    | (apply axJ; (focus ((with_reducible constructor) <;> rfl)))
    | (apply awT mixedOK hΓ (by kernel_rfl); (simp (disch := omega) only [go_sem, ↓reduceIte, ↓lk, ↓ty_build72, dk, Γ26, e22, e22m, h00, e39, e39m, hsl] <;> with_reducible rfl))
    | ((first | apply awR hΓ | apply awG | apply awH mixedOK hΓ rfl (by kernel_rfl) | apply ovE rfl); (simp (disch := omega) only [go_sem, ↓reduceIte, ↓lk, ↓ty_build72, dk, Γ26, e22, e22m, h00, e39, e39m, hsl] <;> with_reducible rfl); exact trivial)
    | rfl)
  refine awp_loop_at (X := Nat) (fun i => (frame 52 [(8, .row 23 (fals r l m i).length), (9, .data (.list ((stds r m).map eS))), (27, .data (.list ((stds r l).map eS))), (28, .data (i64 r.dcs.length)), (29, .data (i64 i))]))
    (fun i => [(23, .row 9 1 ((fals r l m i).map .str))]) 24
    (fun i => i ≤ r.dcs.length) (fun i => r.dcs.length - i) 0 (Nat.zero_le _) ((Weak.nilrowF (i := 8) 9 (sz := 1) (by omega) (by omega) rfl).trans (Weak.v (by (simp [ConvF, lookV, Conv, ints, fals]; done)) (by (simp (disch := omega) only [TabSub, look, if_pos, if_neg, Obj.refsOK, refsOKs, AV.refsOK, decide_eq_true_eq, Bool.and_true, Bool.and_self, fals] ) <;> ((repeat' apply And.intro) <;> first | exact True.intro | omega | (simp; done) | rfl)))) ?_
  intro i hi
  have htl : (fals r l m i).length ≤ i := filt_len _ _ _ _
  by_cases hi2 : i < r.dcs.length
  · have hnx : fals r l m (i + 1) = _ := filt_succ (falP r l m) (·.id) hi2
    have h1 := stds_at (l := l) hi2
    have h3 := stds_at (l := m) hi2
    change fals r l m (i + 1) = fals r l m i ++ _ at hnx
    generalize hacc : fals r l m i = acc at hnx htl
    generalize hnn : fals r l m (i + 1) = nn at hnx
    generalize hy : r.dcs[i] = y at hnx h1 h3
    unfold falP at hnx
    generalize stat r l y = s1 at hnx h1
    generalize stat r m y = s2 at hnx h3
    generalize hc1 : (s1 == 1) = c1 at hnx
    generalize hc2 : (s2 != 1) = c2 at hnx
    cases c1 with
    | false =>
      have hn : nn = acc := by rw [hnx]; simp
      repeat (first
        | (apply axJ; (focus ((with_reducible constructor) <;> rfl)))
        | (apply awT mixedOK hΓ (by kernel_rfl); (simp (disch := omega) only [go_sem, ↓reduceIte, dk, eS, h1, hsl, hsm, hc1] <;> with_reducible rfl))
        | ((first | apply awR hΓ | apply awG | apply awH mixedOK hΓ rfl (by kernel_rfl) | apply ovE rfl); (simp (disch := omega) only [go_sem, ↓reduceIte, dk, eS, h1, hsl, hsm, hc1] <;> with_reducible rfl); exact trivial)
        | rfl)
      exact ⟨i + 1, by omega, by omega, Weak.v (by (simp [ConvF, lookV, Conv, ints, hnn, hn]; done)) (by (simp (disch := omega) only [TabSub, look, if_pos, if_neg, Obj.refsOK, refsOKs, AV.refsOK, decide_eq_true_eq, Bool.and_true, Bool.and_self, hnn, hn] ) <;> ((repeat' apply And.intro) <;> first | exact True.intro | omega | (simp; done) | rfl))⟩
    | true =>
      cases c2 with
      | false =>
        have hn : nn = acc := by rw [hnx]; simp
        repeat (first
          | (apply axJ; (focus ((with_reducible constructor) <;> rfl)))
          | (apply awT mixedOK hΓ (by kernel_rfl); (simp (disch := omega) only [go_sem, ↓reduceIte, dk, eS, h1, h3, hsl, hsm, hc1, hc2] <;> with_reducible rfl))
          | ((first | apply awR hΓ | apply awG | apply awH mixedOK hΓ rfl (by kernel_rfl) | apply ovE rfl); (simp (disch := omega) only [go_sem, ↓reduceIte, dk, eS, h1, h3, hsl, hsm, hc1, hc2] <;> with_reducible rfl); exact trivial)
          | rfl)
        exact ⟨i + 1, by omega, by omega, Weak.v (by (simp [ConvF, lookV, Conv, ints, hnn, hn]; done)) (by (simp (disch := omega) only [TabSub, look, if_pos, if_neg, Obj.refsOK, refsOKs, AV.refsOK, decide_eq_true_eq, Bool.and_true, Bool.and_self, hnn, hn] ) <;> ((repeat' apply And.intro) <;> first | exact True.intro | omega | (simp; done) | rfl))⟩
      | true =>
        have hn : nn = acc ++ [y.id] := by rw [hnx]; simp
        have hm : acc.map D.str ++ [.str y.id] = nn.map .str := by rw [hn]; simp
        have hl : nn.length = acc.length + 1 := by rw [hn]; simp
        repeat (first
          | (apply axJ; (focus ((with_reducible constructor) <;> rfl)))
          | (apply awT mixedOK hΓ (by kernel_rfl); (simp (disch := omega) only [go_sem, ↓reduceIte, ↓lk, dk, eS, h1, h3, hsl, hsm, hc1, hc2] <;> with_reducible rfl))
          | ((first | apply awR hΓ | apply awG | apply awH mixedOK hΓ rfl (by kernel_rfl) | apply ovE rfl); (simp (disch := omega) only [go_sem, ↓reduceIte, ↓lk, dk, eS, h1, h3, hsl, hsm, hc1, hc2] <;> with_reducible rfl); exact trivial)
          | rfl)
        exact ⟨i + 1, by omega, by omega, Weak.v (by (simp [ConvF, lookV, Conv, ints, hnn, hl, hm]; done)) (by (simp (disch := omega) only [TabSub, look, if_pos, if_neg, Obj.refsOK, refsOKs, AV.refsOK, decide_eq_true_eq, Bool.and_true, Bool.and_self, hnn, hl, hm] ) <;> ((repeat' apply And.intro) <;> first | exact True.intro | omega | (simp; done) | rfl))⟩
  have hi3 : i = r.dcs.length := by omega
  subst hi3
  repeat (first
    | (apply axJ; (focus ((with_reducible constructor) <;> rfl)))
    | (apply awT mixedOK hΓ (by kernel_rfl); (simp (disch := omega) only [go_sem, ↓reduceIte, dk] <;> with_reducible rfl))
    | ((first | apply awR hΓ | apply awG | apply awH mixedOK hΓ rfl (by kernel_rfl) | apply ovE rfl); (simp (disch := omega) only [go_sem, ↓reduceIte, dk] <;> with_reducible rfl); exact trivial)
    | rfl)
  rw [hs]
noncomputable def Γ27 : FuncId → Option CSpec := fun f => if f = 23 then some (.pure true (g22)) else if f = 40 then some (.pure true (g40)) else none
theorem Γ27_ok : ∀ f s, Γ27 f = some s → SpecOK Try.prog f s := by
  intro f s h
  unfold Γ27 at h
  split at h
  · rename_i hf; cases h; subst hf; exact f23_ok
  split at h
  · rename_i hf; cases h; subst hf; exact f40_ok
  · cases h
theorem f27_ok : PureOK Try.prog 27 false g26 := by
  have hΓ := Γ27_ok
  refine pure_enc (n := 49) (rs := [.tmp 6, .tmp 7]) Try.func27 (by kernel_rfl) rfl (by kernel_rfl) (by kernel_rfl) ?_
  rintro ⟨r, l, m⟩ ⟨hz, hz2⟩
  dsimp only at hz hz2 ⊢
  have hdl := hz.v.r.dcs
  refine ⟨fun h => (by cases h), fun k hz0 => ?_⟩
  have e22 := g22_eq hz.v.l
  have e22m := g22_eq hz2.v.l
  have h10 : ((1 : Int) != 0) = true := rfl
  have h00 : ((0 : Int) != 0) = false := rfl
  rw [start_frame (by simp)]; simp only [enumV, go_sem, emptyH]
  rcases vld_01 l with h | h
  case inr =>
    have hs : faR r l m = .tup [.list [], i64 1] := by simp [faR, h]
    rw [h] at e22
    repeat (first
      | (apply axJ; (focus ((with_reducible constructor) <;> rfl)))
      | (apply awT mixedOK hΓ (by kernel_rfl); (simp (disch := omega) only [go_sem, ↓reduceIte, dk, Γ27, e22, h10] <;> with_reducible rfl))
      | ((first | apply awR hΓ | apply awG | apply awH mixedOK hΓ rfl (by kernel_rfl) | apply ovE rfl); (simp (disch := omega) only [go_sem, ↓reduceIte, dk, Γ27, e22, h10] <;> with_reducible rfl); exact trivial)
      | rfl)
    rw [hs]
  rcases vld_01 m with h2 | h2
  case inr =>
    have hs : faR r l m = .tup [.list [], i64 1] := by simp [faR, h, h2]
    rw [h] at e22
    rw [h2] at e22m
    repeat (first
      | (apply axJ; (focus ((with_reducible constructor) <;> rfl)))
      | (apply awT mixedOK hΓ (by kernel_rfl); (simp (disch := omega) only [go_sem, ↓reduceIte, dk, Γ27, e22, e22m, h10, h00] <;> with_reducible rfl))
      | ((first | apply awR hΓ | apply awG | apply awH mixedOK hΓ rfl (by kernel_rfl) | apply ovE rfl); (simp (disch := omega) only [go_sem, ↓reduceIte, dk, Γ27, e22, e22m, h10, h00] <;> with_reducible rfl); exact trivial)
      | rfl)
    rw [hs]
  have hs : faR r l m = .tup [.list ((fals r l m r.dcs.length).map .str), i64 0] := by simp [faR, h, h2]
  rw [h] at e22
  rw [h2] at e22m
  repeat (first
    | (apply axJ; (focus ((with_reducible constructor) <;> rfl)))
    | (apply awT mixedOK hΓ (by kernel_rfl); (simp (disch := omega) only [go_sem, ↓reduceIte, dk, Γ27, e22, e22m, h00] <;> with_reducible rfl))
    | ((first | apply awR hΓ | apply awG | apply awH mixedOK hΓ rfl (by kernel_rfl) | apply ovE rfl); (simp (disch := omega) only [go_sem, ↓reduceIte, dk, Γ27, e22, e22m, h00] <;> with_reducible rfl); exact trivial)
    | rfl)
  refine awp_loop_at (X := Nat) (fun i => (frame 49 [(1, .data (.list (l.map eN))), (2, .data (.list (m.map eN))), (3, .ptr 0 0), (8, .row 13 (fals r l m i).length), (9, .data (i64 i))]))
    (fun i => [(0, .box [.data (.list (r.rvs.map eRw)), .data (.list (r.pks.map ePk)), .data (.list (r.dcs.map eDc)), .data (.list (r.dps.map eDp))]), (13, .row 9 1 ((fals r l m i).map .str))]) 14
    (fun i => i ≤ r.dcs.length) (fun i => r.dcs.length - i) 0 (Nat.zero_le _) ((Weak.nilrowF (i := 8) 9 (sz := 1) (by omega) (by omega) rfl).trans (Weak.v (by (simp [ConvF, lookV, Conv, ints, fals]; done)) (by (simp (disch := omega) only [TabSub, look, if_pos, if_neg, Obj.refsOK, refsOKs, AV.refsOK, decide_eq_true_eq, Bool.and_true, Bool.and_self, fals] ) <;> ((repeat' apply And.intro) <;> first | exact True.intro | omega | (simp; done) | rfl)))) ?_
  intro i hi
  have htl : (fals r l m i).length ≤ i := filt_len _ _ _ _
  by_cases hi2 : i < r.dcs.length
  · have hq := hz.q _ (List.getElem_mem hi2)
    have hnx : fals r l m (i + 1) = _ := filt_succ (falP r l m) (·.id) hi2
    change fals r l m (i + 1) = fals r l m i ++ _ at hnx
    generalize hacc : fals r l m i = acc at hnx htl
    generalize hnn : fals r l m (i + 1) = nn at hnx
    generalize hy : r.dcs[i] = y at hnx hq
    have e40 := g40_eq hz hq
    have e40m := g40_eq hz2 hq
    unfold falP at hnx
    generalize stat r l y = s1 at hnx e40
    generalize stat r m y = s2 at hnx e40m
    generalize hc1 : (s1 == 1) = c1 at hnx
    generalize hc2 : (s2 != 1) = c2 at hnx
    cases c1 with
    | false =>
      have hn : nn = acc := by rw [hnx]; simp
      repeat (first
        | (apply axJ; (focus ((with_reducible constructor) <;> rfl)))
        | (apply awT mixedOK hΓ (by kernel_rfl); (simp (disch := omega) only [go_sem, ↓reduceIte, dk, eDc, hy, Γ27, e40, hc1] <;> with_reducible rfl))
        | ((first | apply awR hΓ | apply awG | apply awH mixedOK hΓ rfl (by kernel_rfl) | apply ovE rfl); (simp (disch := omega) only [go_sem, ↓reduceIte, dk, eDc, hy, Γ27, e40, hc1] <;> with_reducible rfl); exact trivial)
        | rfl)
      exact ⟨i + 1, by omega, by omega, Weak.v (by (simp [ConvF, lookV, Conv, ints, hnn, hn]; done)) (by (simp (disch := omega) only [TabSub, look, if_pos, if_neg, Obj.refsOK, refsOKs, AV.refsOK, decide_eq_true_eq, Bool.and_true, Bool.and_self, hnn, hn] ) <;> ((repeat' apply And.intro) <;> first | exact True.intro | omega | (simp; done) | rfl))⟩
    | true =>
      cases c2 with
      | false =>
        have hn : nn = acc := by rw [hnx]; simp
        repeat (first
          | (apply axJ; (focus ((with_reducible constructor) <;> rfl)))
          | (apply awT mixedOK hΓ (by kernel_rfl); (simp (disch := omega) only [go_sem, ↓reduceIte, dk, eDc, hy, Γ27, e40, e40m, hc1, hc2] <;> with_reducible rfl))
          | ((first | apply awR hΓ | apply awG | apply awH mixedOK hΓ rfl (by kernel_rfl) | apply ovE rfl); (simp (disch := omega) only [go_sem, ↓reduceIte, dk, eDc, hy, Γ27, e40, e40m, hc1, hc2] <;> with_reducible rfl); exact trivial)
          | rfl)
        exact ⟨i + 1, by omega, by omega, Weak.v (by (simp [ConvF, lookV, Conv, ints, hnn, hn]; done)) (by (simp (disch := omega) only [TabSub, look, if_pos, if_neg, Obj.refsOK, refsOKs, AV.refsOK, decide_eq_true_eq, Bool.and_true, Bool.and_self, hnn, hn] ) <;> ((repeat' apply And.intro) <;> first | exact True.intro | omega | (simp; done) | rfl))⟩
      | true =>
        have hn : nn = acc ++ [y.id] := by rw [hnx]; simp
        have hm : acc.map D.str ++ [.str y.id] = nn.map .str := by rw [hn]; simp
        have hl : nn.length = acc.length + 1 := by rw [hn]; simp
        repeat (first
          | (apply axJ; (focus ((with_reducible constructor) <;> rfl)))
          | (apply awT mixedOK hΓ (by kernel_rfl); (simp (disch := omega) only [go_sem, ↓reduceIte, ↓lk, dk, eDc, hy, Γ27, e40, e40m, hc1, hc2] <;> with_reducible rfl))
          | ((first | apply awR hΓ | apply awG | apply awH mixedOK hΓ rfl (by kernel_rfl) | apply ovE rfl); (simp (disch := omega) only [go_sem, ↓reduceIte, ↓lk, dk, eDc, hy, Γ27, e40, e40m, hc1, hc2] <;> with_reducible rfl); exact trivial)
          | rfl)
        exact ⟨i + 1, by omega, by omega, Weak.v (by (simp [ConvF, lookV, Conv, ints, hnn, hl, hm]; done)) (by (simp (disch := omega) only [TabSub, look, if_pos, if_neg, Obj.refsOK, refsOKs, AV.refsOK, decide_eq_true_eq, Bool.and_true, Bool.and_self, hnn, hl, hm] ) <;> ((repeat' apply And.intro) <;> first | exact True.intro | omega | (simp; done) | rfl))⟩
  have hi3 : i = r.dcs.length := by omega
  subst hi3
  repeat (first
    | (apply axJ; (focus ((with_reducible constructor) <;> rfl)))
    | (apply awT mixedOK hΓ (by kernel_rfl); (simp (disch := omega) only [go_sem, ↓reduceIte, dk] <;> with_reducible rfl))
    | ((first | apply awR hΓ | apply awG | apply awH mixedOK hΓ rfl (by kernel_rfl) | apply ovE rfl); (simp (disch := omega) only [go_sem, ↓reduceIte, dk] <;> with_reducible rfl); exact trivial)
    | rfl)
  rw [hs]
noncomputable def Γ28 : FuncId → Option CSpec := fun f => if f = 22 then some (.pure true (g22)) else if f = 31 then some (.pure true (g31)) else none
theorem Γ28_ok : ∀ f s, Γ28 f = some s → SpecOK Try.prog f s := by
  intro f s h
  unfold Γ28 at h
  split at h
  · rename_i hf; cases h; subst hf; exact f22_ok
  split at h
  · rename_i hf; cases h; subst hf; exact f31_ok
  · cases h
theorem f28_ok : PureOK Try.prog 28 false g28 := by
  have hΓ := Γ28_ok
  refine pure_enc (n := 33) (rs := [.tmp 4, .tmp 5]) Try.func28 (by kernel_rfl) rfl (by kernel_rfl) (by kernel_rfl) ?_
  rintro ⟨l, m⟩ ⟨hz, hz2⟩
  dsimp only at hz hz2 ⊢
  refine ⟨fun h => (by cases h), fun k hz0 => ?_⟩
  have e22 := g22_eq hz
  have e22m := g22_eq hz2
  have h10 : ((1 : Int) != 0) = true := rfl
  have h00 : ((0 : Int) != 0) = false := rfl
  rw [start_frame (by simp)]; simp only [enumV, go_sem, emptyH]
  rcases vld_01 l with h | h
  case inr =>
    have hs : chR l m = .tup [.list [], i64 1] := by simp [chR, h]
    rw [h] at e22
    repeat (first
      | (apply axJ; (focus ((with_reducible constructor) <;> rfl)))
      | (apply awT mixedOK hΓ (by kernel_rfl); (simp (disch := omega) only [go_sem, ↓reduceIte, dk, Γ28, e22, h10] <;> with_reducible rfl))
      | ((first | apply awR hΓ | apply awG | apply awH mixedOK hΓ rfl (by kernel_rfl) | apply ovE rfl); (simp (disch := omega) only [go_sem, ↓reduceIte, dk, Γ28, e22, h10] <;> with_reducible rfl); exact trivial)
      | rfl)
    rw [hs]
  rcases vld_01 m with h2 | h2
  case inr =>
    have hs : chR l m = .tup [.list [], i64 1] := by simp [chR, h, h2]
    rw [h] at e22
    rw [h2] at e22m
    repeat (first
      | (apply axJ; (focus ((with_reducible constructor) <;> rfl)))
      | (apply awT mixedOK hΓ (by kernel_rfl); (simp (disch := omega) only [go_sem, ↓reduceIte, dk, Γ28, e22, e22m, h10, h00] <;> with_reducible rfl))
      | ((first | apply awR hΓ | apply awG | apply awH mixedOK hΓ rfl (by kernel_rfl) | apply ovE rfl); (simp (disch := omega) only [go_sem, ↓reduceIte, dk, Γ28, e22, e22m, h10, h00] <;> with_reducible rfl); exact trivial)
      | rfl)
    rw [hs]
  have hs : chR l m = .tup [.list ((chgs l m l.length).map eN), i64 0] := by simp [chR, h, h2]
  rw [h] at e22
  rw [h2] at e22m
  repeat (first
    | (apply axJ; (focus ((with_reducible constructor) <;> rfl)))
    | (apply awT mixedOK hΓ (by kernel_rfl); (simp (disch := omega) only [go_sem, ↓reduceIte, dk, Γ28, e22, e22m, h00] <;> with_reducible rfl))
    | ((first | apply awR hΓ | apply awG | apply awH mixedOK hΓ rfl (by kernel_rfl) | apply ovE rfl); (simp (disch := omega) only [go_sem, ↓reduceIte, dk, Γ28, e22, e22m, h00] <;> with_reducible rfl); exact trivial)
    | rfl)
  refine awp_loop_at (X := Nat) (fun i => (frame 33 [(1, .data (.list (m.map eN))), (6, .row 14 (chgs l m i).length), (17, .data (.list (l.map eN))), (18, .data (i64 l.length)), (19, .data (i64 i))]))
    (fun i => [(14, .row 39 3 ((chgs l m i).map eN))]) 15
    (fun i => i ≤ l.length) (fun i => l.length - i) 0 (Nat.zero_le _) ((Weak.nilrowF (i := 6) 39 (sz := 3) (by omega) (by omega) rfl).trans (Weak.v (by (simp [ConvF, lookV, Conv, ints, chgs]; done)) (by (simp (disch := omega) only [TabSub, look, if_pos, if_neg, Obj.refsOK, refsOKs, AV.refsOK, decide_eq_true_eq, Bool.and_true, Bool.and_self, chgs] ) <;> ((repeat' apply And.intro) <;> first | exact True.intro | omega | (simp; done) | rfl)))) ?_
  intro i hi
  have htl : (chgs l m i).length ≤ i := filt_len _ _ _ _
  by_cases hi2 : i < l.length
  · have hnx : chgs l m (i + 1) = _ := filt_succ (fun x => !has m x) id hi2
    change chgs l m (i + 1) = chgs l m i ++ _ at hnx
    generalize hacc : chgs l m i = acc at hnx htl
    generalize hnn : chgs l m (i + 1) = nn at hnx
    generalize hy : l[i] = y at hnx
    have e31 := g31_eq (x := y) hz2
    generalize has m y = c at hnx e31
    cases c with
    | true =>
      have hn : nn = acc := by rw [hnx]; simp
      repeat (first
        | (apply axJ; (focus ((with_reducible constructor) <;> rfl)))
        | (apply awT mixedOK hΓ (by kernel_rfl); (simp (disch := omega) only [go_sem, ↓reduceIte, dk, eN, hy, Γ28, e31] <;> with_reducible rfl))
        | ((first | apply awR hΓ | apply awG | apply awH mixedOK hΓ rfl (by kernel_rfl) | apply ovE rfl); (simp (disch := omega) only [go_sem, ↓reduceIte, dk, eN, hy, Γ28, e31] <;> with_reducible rfl); exact trivial)
        | rfl)
      exact ⟨i + 1, by omega, by omega, Weak.v (by (simp [ConvF, lookV, Conv, ints, hnn, hn]; done)) (by (simp (disch := omega) only [TabSub, look, if_pos, if_neg, Obj.refsOK, refsOKs, AV.refsOK, decide_eq_true_eq, Bool.and_true, Bool.and_self, hnn, hn] ) <;> ((repeat' apply And.intro) <;> first | exact True.intro | omega | (simp; done) | rfl))⟩
    | false =>
      have hn : nn = acc ++ [y] := by rw [hnx]; simp
      have hm : acc.map eN ++ [.agg [.str y.q, .str y.s, .str y.d]] = nn.map eN := by rw [hn]; simp [eN]
      have hl : nn.length = acc.length + 1 := by rw [hn]; simp
      repeat (first
        | (apply axJ; (focus ((with_reducible constructor) <;> rfl)))
        | (apply awT mixedOK hΓ (by kernel_rfl); (simp (disch := omega) only [go_sem, ↓reduceIte, ↓lk, dk, eN, hy, Γ28, e31] <;> with_reducible rfl))
        | ((first | apply awR hΓ | apply awG | apply awH mixedOK hΓ rfl (by kernel_rfl) | apply ovE rfl); (simp (disch := omega) only [go_sem, ↓reduceIte, ↓lk, dk, eN, hy, Γ28, e31] <;> with_reducible rfl); exact trivial)
        | rfl)
      exact ⟨i + 1, by omega, by omega, Weak.v (by (simp [ConvF, lookV, Conv, ints, hnn, hl, hm]; done)) (by (simp (disch := omega) only [TabSub, look, if_pos, if_neg, Obj.refsOK, refsOKs, AV.refsOK, decide_eq_true_eq, Bool.and_true, Bool.and_self, hnn, hl, hm] ) <;> ((repeat' apply And.intro) <;> first | exact True.intro | omega | (simp; done) | rfl))⟩
  have hi3 : i = l.length := by omega
  subst hi3
  repeat (first
    | (apply axJ; (focus ((with_reducible constructor) <;> rfl)))
    | (apply awT mixedOK hΓ (by kernel_rfl); (simp (disch := omega) only [go_sem, ↓reduceIte, dk] <;> with_reducible rfl))
    | ((first | apply awR hΓ | apply awG | apply awH mixedOK hΓ rfl (by kernel_rfl) | apply ovE rfl); (simp (disch := omega) only [go_sem, ↓reduceIte, dk] <;> with_reducible rfl); exact trivial)
    | rfl)
  rw [hs]
noncomputable def Γ29 : FuncId → Option CSpec := fun f => if f = 23 then some (.pure true (g22)) else if f = 48 then some (.pure true (g31)) else none
theorem Γ29_ok : ∀ f s, Γ29 f = some s → SpecOK Try.prog f s := by
  intro f s h
  unfold Γ29 at h
  split at h
  · rename_i hf; cases h; subst hf; exact f23_ok
  split at h
  · rename_i hf; cases h; subst hf; exact f48_ok
  · cases h
theorem f29_ok : PureOK Try.prog 29 false g28 := by
  have hΓ := Γ29_ok
  refine pure_enc (n := 37) (rs := [.tmp 4, .tmp 5]) Try.func29 (by kernel_rfl) rfl (by kernel_rfl) (by kernel_rfl) ?_
  rintro ⟨l, m⟩ ⟨hz, hz2⟩
  dsimp only at hz hz2 ⊢
  refine ⟨fun h => (by cases h), fun k hz0 => ?_⟩
  have e22 := g22_eq hz
  have e22m := g22_eq hz2
  have h10 : ((1 : Int) != 0) = true := rfl
  have h00 : ((0 : Int) != 0) = false := rfl
  rw [start_frame (by simp)]; simp only [enumV, go_sem, emptyH]
  rcases vld_01 l with h | h
  case inr =>
    have hs : chR l m = .tup [.list [], i64 1] := by simp [chR, h]
    rw [h] at e22
    repeat (first
      | (apply axJ; (focus ((with_reducible constructor) <;> rfl)))
      | (apply awT mixedOK hΓ (by kernel_rfl); (simp (disch := omega) only [go_sem, ↓reduceIte, dk, Γ29, e22, h10] <;> with_reducible rfl))
      | ((first | apply awR hΓ | apply awG | apply awH mixedOK hΓ rfl (by kernel_rfl) | apply ovE rfl); (simp (disch := omega) only [go_sem, ↓reduceIte, dk, Γ29, e22, h10] <;> with_reducible rfl); exact trivial)
      | rfl)
    rw [hs]
  rcases vld_01 m with h2 | h2
  case inr =>
    have hs : chR l m = .tup [.list [], i64 1] := by simp [chR, h, h2]
    rw [h] at e22
    rw [h2] at e22m
    repeat (first
      | (apply axJ; (focus ((with_reducible constructor) <;> rfl)))
      | (apply awT mixedOK hΓ (by kernel_rfl); (simp (disch := omega) only [go_sem, ↓reduceIte, dk, Γ29, e22, e22m, h10, h00] <;> with_reducible rfl))
      | ((first | apply awR hΓ | apply awG | apply awH mixedOK hΓ rfl (by kernel_rfl) | apply ovE rfl); (simp (disch := omega) only [go_sem, ↓reduceIte, dk, Γ29, e22, e22m, h10, h00] <;> with_reducible rfl); exact trivial)
      | rfl)
    rw [hs]
  have hs : chR l m = .tup [.list ((chgs l m l.length).map eN), i64 0] := by simp [chR, h, h2]
  rw [h] at e22
  rw [h2] at e22m
  repeat (first
    | (apply axJ; (focus ((with_reducible constructor) <;> rfl)))
    | (apply awT mixedOK hΓ (by kernel_rfl); (simp (disch := omega) only [go_sem, ↓reduceIte, dk, Γ29, e22, e22m, h00] <;> with_reducible rfl))
    | ((first | apply awR hΓ | apply awG | apply awH mixedOK hΓ rfl (by kernel_rfl) | apply ovE rfl); (simp (disch := omega) only [go_sem, ↓reduceIte, dk, Γ29, e22, e22m, h00] <;> with_reducible rfl); exact trivial)
    | rfl)
  refine awp_loop_at (X := Nat) (fun i => (frame 37 [(0, .data (.list (l.map eN))), (1, .data (.list (m.map eN))), (6, .row 12 (chgs l m i).length), (7, .data (i64 i))]))
    (fun i => [(12, .row 39 3 ((chgs l m i).map eN))]) 13
    (fun i => i ≤ l.length) (fun i => l.length - i) 0 (Nat.zero_le _) ((Weak.nilrowF (i := 6) 39 (sz := 3) (by omega) (by omega) rfl).trans (Weak.v (by (simp [ConvF, lookV, Conv, ints, chgs]; done)) (by (simp (disch := omega) only [TabSub, look, if_pos, if_neg, Obj.refsOK, refsOKs, AV.refsOK, decide_eq_true_eq, Bool.and_true, Bool.and_self, chgs] ) <;> ((repeat' apply And.intro) <;> first | exact True.intro | omega | (simp; done) | rfl)))) ?_
  intro i hi
  have htl : (chgs l m i).length ≤ i := filt_len _ _ _ _
  by_cases hi2 : i < l.length
  · have hnx : chgs l m (i + 1) = _ := filt_succ (fun x => !has m x) id hi2
    change chgs l m (i + 1) = chgs l m i ++ _ at hnx
    generalize hacc : chgs l m i = acc at hnx htl
    generalize hnn : chgs l m (i + 1) = nn at hnx
    generalize hy : l[i] = y at hnx
    have e31 := g31_eq (x := y) hz2
    generalize has m y = c at hnx e31
    cases c with
    | true =>
      have hn : nn = acc := by rw [hnx]; simp
      repeat (first
        | (apply axJ; (focus ((with_reducible constructor) <;> rfl)))
        | (apply awT mixedOK hΓ (by kernel_rfl); (simp (disch := omega) only [go_sem, ↓reduceIte, dk, eN, hy, Γ29, e31] <;> with_reducible rfl))
        | ((first | apply awR hΓ | apply awG | apply awH mixedOK hΓ rfl (by kernel_rfl) | apply ovE rfl); (simp (disch := omega) only [go_sem, ↓reduceIte, dk, eN, hy, Γ29, e31] <;> with_reducible rfl); exact trivial)
        | rfl)
      exact ⟨i + 1, by omega, by omega, Weak.v (by (simp [ConvF, lookV, Conv, ints, hnn, hn]; done)) (by (simp (disch := omega) only [TabSub, look, if_pos, if_neg, Obj.refsOK, refsOKs, AV.refsOK, decide_eq_true_eq, Bool.and_true, Bool.and_self, hnn, hn] ) <;> ((repeat' apply And.intro) <;> first | exact True.intro | omega | (simp; done) | rfl))⟩
    | false =>
      have hn : nn = acc ++ [y] := by rw [hnx]; simp
      have hm : acc.map eN ++ [.agg [.str y.q, .str y.s, .str y.d]] = nn.map eN := by rw [hn]; simp [eN]
      have hl : nn.length = acc.length + 1 := by rw [hn]; simp
      repeat (first
        | (apply axJ; (focus ((with_reducible constructor) <;> rfl)))
        | (apply awT mixedOK hΓ (by kernel_rfl); (simp (disch := omega) only [go_sem, ↓reduceIte, ↓lk, dk, eN, hy, Γ29, e31] <;> with_reducible rfl))
        | ((first | apply awR hΓ | apply awG | apply awH mixedOK hΓ rfl (by kernel_rfl) | apply ovE rfl); (simp (disch := omega) only [go_sem, ↓reduceIte, ↓lk, dk, eN, hy, Γ29, e31] <;> with_reducible rfl); exact trivial)
        | rfl)
      exact ⟨i + 1, by omega, by omega, Weak.v (by (simp [ConvF, lookV, Conv, ints, hnn, hl, hm]; done)) (by (simp (disch := omega) only [TabSub, look, if_pos, if_neg, Obj.refsOK, refsOKs, AV.refsOK, decide_eq_true_eq, Bool.and_true, Bool.and_self, hnn, hl, hm] ) <;> ((repeat' apply And.intro) <;> first | exact True.intro | omega | (simp; done) | rfl))⟩
  have hi3 : i = l.length := by omega
  subst hi3
  repeat (first
    | (apply axJ; (focus ((with_reducible constructor) <;> rfl)))
    | (apply awT mixedOK hΓ (by kernel_rfl); (simp (disch := omega) only [go_sem, ↓reduceIte, dk] <;> with_reducible rfl))
    | ((first | apply awR hΓ | apply awG | apply awH mixedOK hΓ rfl (by kernel_rfl) | apply ovE rfl); (simp (disch := omega) only [go_sem, ↓reduceIte, dk] <;> with_reducible rfl); exact trivial)
    | rfl)
  rw [hs]
end Go.Ab
