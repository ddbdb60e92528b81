/-
  One text of the proof (own work): contracts of functions of the program, by the abstract machine.
-/
import Derived.Test.YtmcgfohokniepaaX21
import Derived.Test.YtmcgfohokniepaaX44
set_option linter.unusedVariables false
set_option linter.unusedSimpArgs false
namespace Go.Ab
open Go Go.RowKit Go.Proofs
set_option maxRecDepth 4000
set_option maxHeartbeats 4000000
structure Sd where
  id : List UInt8
  st : Int
@[go_sem] def eS (x : Sd) : D := .agg [.str x.id, i64 x.st]
def prStep (r : Rev) (l : List Now) (ks : List (List UInt8)) (d : Dc) : List (List UInt8) := if first r l d == 1 then kadd ks d.id else ks
def prK (r : Rev) (l : List Now) (i : Nat) : List (List UInt8) := (r.dcs.take i).foldl (prStep r l) []
theorem prK_succ {r : Rev} {l : List Now} {i : Nat} (h : i < r.dcs.length) : prK r l (i + 1) = prStep r l (prK r l i) r.dcs[i] := by
  unfold prK
  rw [List.take_add_one, List.getElem?_eq_getElem h, List.foldl_append]
  rfl
theorem kadd_has (ks : List (List UInt8)) (a id : List UInt8) : (kadd ks a).contains id = ((a == id) || ks.contains id) := by
  unfold kadd
  by_cases h : ks.contains a = true
  · rw [if_pos h]
    by_cases he : a = id
    · subst he; simp only [h, beq_self_eq_true, Bool.true_or]
    · simp [he]
  · rw [if_neg h]
    rw [Bool.eq_iff_iff]
    simp only [List.contains_iff_mem, List.mem_append, List.mem_singleton, Bool.or_eq_true, beq_iff_eq]
    constructor
    · rintro (h | h)
      · exact .inr h
      · exact .inl h.symm
    · rintro (h | h)
      · exact .inr h.symm
      · exact .inl h
theorem foldl_has (r : Rev) (l : List Now) (id : List UInt8) : ∀ (ds : List Dc) (ks : List (List UInt8)), (ds.foldl (prStep r l) ks).contains id = ((ds.any fun d => (d.id == id) && (first r l d == 1)) || ks.contains id)
  | [], ks => by simp
  | d :: ds, ks => by
    rw [List.foldl_cons, foldl_has r l id ds, List.any_cons]
    unfold prStep
    cases h : (first r l d == 1) with
    | true =>
      simp only [if_true, kadd_has]
      cases (d.id == id) <;> simp
    | false => simp
theorem prK_has (r : Rev) (l : List Now) (id : List UInt8) : (prK r l r.dcs.length).contains id = pres r l id := by
  unfold prK
  rw [List.take_length, foldl_has]
  simp [pres]
theorem statK_eq (r : Rev) (l : List Now) (d : Dc) : statK r l d (prK r l r.dcs.length) = stat r l d := by
  have : (fun id => (prK r l r.dcs.length).contains id) = pres r l := funext fun id => prK_has r l id
  unfold statK stat
  rw [this]
def stds (r : Rev) (l : List Now) : List Sd := r.dcs.map fun d => ⟨d.id, stat r l d⟩
theorem stds_succ {r : Rev} {l : List Now} {i : Nat} (h : i < r.dcs.length) : ((stds r l).take i).map eS ++ [.agg [.str r.dcs[i].id, .int .i64 (stat r l r.dcs[i])]] = ((stds r l).take (i + 1)).map eS := by
  rw [List.take_add_one, List.getElem?_eq_getElem (by simpa [stds] using h), List.map_append]
  simp [stds, eS]
theorem stds_len (r : Rev) (l : List Now) : (stds r l).length = r.dcs.length := by simp [stds]
noncomputable def g39 : List D → Option D := encSpec (fun x : Rev × List Now => [eV x.1 x.2]) (fun x => SzA x.1 x.2) (fun x => .list ((stds x.1 x.2).map eS))
theorem g39_eq {r : Rev} {l : List Now} (h : SzA r l) : g39 [.agg [.list (r.rvs.map eRw), .list (r.pks.map ePk), .list (r.dcs.map eDc), .list (r.dps.map eDp), .list (l.map eN)]] = some (.list ((stds r l).map eS)) := encSpec_eq (x := (r, l)) h fun y hy => by
  obtain ⟨y1, y2⟩ := y
  simp only [List.cons.injEq, and_true] at hy
  obtain ⟨e1, e2⟩ := eV_inj hy
  rw [e1, e2]
noncomputable def Γ39 : FuncId → Option CSpec := fun f => if f = 59 then some (.pure true (g59)) else if f = 60 then some (.pure true (g60)) else none
theorem Γ39_ok : ∀ f s, Γ39 f = some s → SpecOK Try.prog f s := by
  intro f s h
  unfold Γ39 at h
  split at h
  · rename_i hf; cases h; subst hf; exact f59_ok
  split at h
  · rename_i hf; cases h; subst hf; exact f60_ok
  · cases h
theorem f39_ok : PureOK Try.prog 39 false g39 := by
  have hΓ := Γ39_ok
  refine pure_enc (n := 45) (rs := [.tmp 2]) Try.func39 (by kernel_rfl) rfl (by kernel_rfl) (by kernel_rfl) ?_
  rintro ⟨r, l⟩ hz
  dsimp only at hz ⊢
  have hdl := hz.v.r.dcs
  refine ⟨fun h => (by cases h), fun k hz0 => ?_⟩
  rw [start_frame (by simp)]; simp only [enumV, go_sem, emptyH]
  repeat (first
    | (apply axJ; (focus ((with_reducible constructor) <;> rfl)))
    | (apply awT mixedOK hΓ (by kernel_rfl); (simp (disch := omega) only [go_sem, ↓reduceIte, dk] <;> with_reducible rfl))
    | ((first | apply awR hΓ | apply awG | apply awH mixedOK hΓ rfl (by kernel_rfl) | apply ovE rfl); (simp (disch := omega) only [go_sem, ↓reduceIte, dk] <;> with_reducible rfl); exact trivial)
    | rfl)
  refine awp_loop_at (X := Nat) (fun i => (frame 45 [(1, .ptr 0 0), (3, .mref 2), (12, .data (.list (r.dcs.map eDc))), (13, .data (i64 r.dcs.length)), (14, .data (i64 i))]))
    (fun i => [(0, .box [.data (.list (r.rvs.map eRw)), .data (.list (r.pks.map ePk)), .data (.list (r.dcs.map eDc)), .data (.list (r.dps.map eDp)), .data (.list (l.map eN))]), (2, .map (mK (prK r l i)) (mV (prK r l i)))]) 3
    (fun i => i ≤ r.dcs.length) (fun i => r.dcs.length - i) 0 (Nat.zero_le _) (Weak.v (by (simp [ConvF, lookV, Conv, ints, prK, mK, mV]; done)) (by (simp (disch := omega) only [TabSub, look, if_pos, if_neg, Obj.refsOK, refsOKs, AV.refsOK, decide_eq_true_eq, Bool.and_true, Bool.and_self, prK, mK, mV] ) <;> ((repeat' apply And.intro) <;> first | exact True.intro | omega | (simp; done) | rfl))) ?_
  intro i hi
  by_cases hi2 : i < r.dcs.length
  · have hq := hz.q _ (List.getElem_mem hi2)
    have hnx := prK_succ (l := l) hi2
    generalize hy : r.dcs[i] = y at hq hnx
    have e59 := g59_eq hz.v hq
    have hput := mput_str y.id (prK r l i)
    cases hf : (first r l y == 1) with
    | true =>
      rw [hf] at e59
      simp only [prStep, hf, if_true] at hnx
      repeat (first
        | (apply axJ; (focus ((with_reducible constructor) <;> rfl)))
        | (apply awT mixedOK hΓ (by kernel_rfl); (simp (disch := omega) only [go_sem, ↓reduceIte, dk, eDc, hy, Γ39, e59, ↓hput] <;> with_reducible rfl))
        | ((first | apply awR hΓ | apply awG | apply awH mixedOK hΓ rfl (by kernel_rfl) | apply ovE rfl); (simp (disch := omega) only [go_sem, ↓reduceIte, dk, eDc, hy, Γ39, e59, ↓hput] <;> with_reducible rfl); exact trivial)
        | rfl)
      exact ⟨i + 1, by omega, by omega, Weak.v (by (simp [ConvF, lookV, Conv, ints, hnx]; done)) (by (simp (disch := omega) only [TabSub, look, if_pos, if_neg, Obj.refsOK, refsOKs, AV.refsOK, decide_eq_true_eq, Bool.and_true, Bool.and_self, hnx] ) <;> ((repeat' apply And.intro) <;> first | exact True.intro | omega | (simp; done) | rfl))⟩
    | false =>
      rw [hf] at e59
      simp only [prStep, hf, Bool.false_eq_true, if_false] at hnx
      repeat (first
        | (apply axJ; (focus ((with_reducible constructor) <;> rfl)))
        | (apply awT mixedOK hΓ (by kernel_rfl); (simp (disch := omega) only [go_sem, ↓reduceIte, dk, eDc, hy, Γ39, e59] <;> with_reducible rfl))
        | ((first | apply awR hΓ | apply awG | apply awH mixedOK hΓ rfl (by kernel_rfl) | apply ovE rfl); (simp (disch := omega) only [go_sem, ↓reduceIte, dk, eDc, hy, Γ39, e59] <;> with_reducible rfl); exact trivial)
        | rfl)
      exact ⟨i + 1, by omega, by omega, Weak.v (by (simp [ConvF, lookV, Conv, ints, hnx]; done)) (by (simp (disch := omega) only [TabSub, look, if_pos, if_neg, Obj.refsOK, refsOKs, AV.refsOK, decide_eq_true_eq, Bool.and_true, Bool.and_self, hnx] ) <;> ((repeat' apply And.intro) <;> first | exact True.intro | omega | (simp; done) | rfl))⟩
  have hi3 : i = r.dcs.length := by omega
  subst hi3
  have hstK := statK_eq r l
  generalize hks : prK r l r.dcs.length = ks at hstK
  have hsl := stds_len r l
  repeat (first
    | (apply axJ; (focus ((with_reducible constructor) <;> rfl)))
    | (apply awT mixedOK hΓ (by kernel_rfl); (simp (disch := omega) only [go_sem, ↓reduceIte, dk] <;> with_reducible rfl))
    | ((first | apply awR hΓ | apply awG | apply awH mixedOK hΓ rfl (by kernel_rfl) | apply ovE rfl); (simp (disch := omega) only [go_sem, ↓reduceIte, dk] <;> with_reducible rfl); exact trivial)
    | rfl)
  refine awp_loop_at (X := Nat) (fun i => (frame 45 [(1, .ptr 0 0), (3, .mref 2), (6, .row 10 i), (27, .data (.list (r.dcs.map eDc))), (28, .data (i64 r.dcs.length)), (29, .data (i64 i))]))
    (fun i => [(0, .box [.data (.list (r.rvs.map eRw)), .data (.list (r.pks.map ePk)), .data (.list (r.dcs.map eDc)), .data (.list (r.dps.map eDp)), .data (.list (l.map eN))]), (2, .map (mK ks) (mV ks)), (10, .row 44 2 (((stds r l).take i).map eS))]) 11
    (fun i => i ≤ r.dcs.length) (fun i => r.dcs.length - i) 0 (Nat.zero_le _) ((Weak.nilrowF (i := 6) 44 (sz := 2) (by omega) (by omega) rfl).trans (Weak.w)) ?_
  clear hi hi2
  intro i hi
  have htl : ((stds r l).take i).length = i := by rw [List.length_take, hsl]; omega
  by_cases hi2 : i < r.dcs.length
  · have hq := hz.q _ (List.getElem_mem hi2)
    have hnx := stds_succ (l := l) hi2
    generalize hy : r.dcs[i] = y at hq hnx
    have e60 := g60_eq (ks := ks) hz.v hq
    rw [hstK] at e60
    repeat (first
      | (apply axJ; (focus ((with_reducible constructor) <;> rfl)))
      | (apply awT mixedOK hΓ (by kernel_rfl); (simp (disch := omega) only [go_sem, ↓reduceIte, ↓lk, dk, eDc, hy] <;> with_reducible rfl))
      | ((first | apply awR hΓ | apply awG | apply awH mixedOK hΓ rfl (by kernel_rfl) | apply ovE rfl); (simp (disch := omega) only [go_sem, ↓reduceIte, ↓lk, dk, eDc, hy] <;> with_reducible rfl); exact trivial)
      | rfl)
    (apply awp_regm (nst := false) (nst' := false) 9 mixedOK hΓ (by kernel_rfl); (simp (disch := omega) only [go_sem, ↓reduceIte, ↓lk, ↓ty_build44, dk, eDc, hy, Γ39, e60, htl, hnx, look_upd] <;> with_reducible rfl); (simp (disch := omega) only [go_sem, ↓reduceIte] <;> with_reducible rfl); (focus rfl); (focus rfl); (simp (disch := omega) only [go_sem, ↓reduceIte, ↓lk, ↓ty_build44, dk, eDc, hy, Γ39, e60, htl, hnx, look_upd] <;> with_reducible rfl); (focus (first | (simp (disch := omega) only [go_sem, ↓reduceIte, ↓lk, ↓ty_build44, dk, eDc, hy, Γ39, e60, htl, hnx, look_upd]; done) | (simp (disch := omega) only [go_sem, ↓reduceIte, ↓lk, ↓ty_build44, dk, eDc, hy, Γ39, e60, htl, hnx, look_upd]; omega))); (focus (dsimp only [List.take_succ_cons, List.take_zero]; (repeat (apply same2_cons; (focus (first | (left; decide) | (right; simp (disch := omega) only [go_sem, ↓reduceIte, ↓lk, ↓ty_build44, dk, eDc, hy, Γ39, e60, htl, hnx, look_upd]; done))); (simp (disch := omega) only [go_sem, ↓reduceIte, ↓lk, ↓ty_build44, dk, eDc, hy, Γ39, e60, htl, hnx, look_upd] <;> with_reducible rfl))); exact same2_nil)); (simp (disch := omega) only [go_sem, ↓reduceIte, ↓lk, ↓ty_build44, dk, eDc, hy, Γ39, e60, htl, hnx, look_upd] <;> with_reducible rfl))
    repeat (first
      | (apply axJ; (focus ((with_reducible constructor) <;> rfl)))
      | (apply awT mixedOK hΓ (by kernel_rfl); (simp (disch := omega) only [go_sem, ↓reduceIte, ↓lk, dk] <;> with_reducible rfl))
      | ((first | apply awR hΓ | apply awG | apply awH mixedOK hΓ rfl (by kernel_rfl) | apply ovE rfl); (simp (disch := omega) only [go_sem, ↓reduceIte, ↓lk, dk] <;> with_reducible rfl); exact trivial)
      | rfl)
    exact ⟨i + 1, by omega, by omega, Weak.w⟩
  have hi3 : i = r.dcs.length := by omega
  subst hi3
  have hall : (stds r l).take r.dcs.length = stds r l := List.take_of_length_le (by omega)
  repeat (first
    | (apply axJ; (focus ((with_reducible constructor) <;> rfl)))
    | (apply awT mixedOK hΓ (by kernel_rfl); (simp (disch := omega) only [go_sem, ↓reduceIte, dk, htl, hall] <;> with_reducible rfl))
    | ((first | apply awR hΓ | apply awG | apply awH mixedOK hΓ rfl (by kernel_rfl) | apply ovE rfl); (simp (disch := omega) only [go_sem, ↓reduceIte, dk, htl, hall] <;> with_reducible rfl); exact trivial)
    | rfl)
end Go.Ab
namespace Go.Ab
open Go Go.RowKit Go.Proofs
set_option maxRecDepth 4000
set_option maxHeartbeats 4000000
theorem vld_01 (l : List Now) : vld l = 0 ∨ vld l = 1 := by
  unfold vld
  split
  · exact .inr rfl
  · split
    · exact .inl rfl
    · exact .inr rfl
def stR (r : Rev) (l : List Now) : D := if vld l = 0 then .tup [.list ((stds r l).map eS), i64 0] else .tup [.list [], i64 1]
noncomputable def g15 : List D → Option D := encSpec (fun x : Rev × List Now => [eR x.1, .list (x.2.map eN)]) (fun x => SzA x.1 x.2) (fun x => stR x.1 x.2)
theorem g15_eq {r : Rev} {l : List Now} (h : SzA r l) : g15 [.agg [.list (r.rvs.map eRw), .list (r.pks.map ePk), .list (r.dcs.map eDc), .list (r.dps.map eDp)], .list (l.map eN)] = some (stR r l) := encSpec_eq (x := (r, l)) h fun y hy => by
  obtain ⟨y1, y2⟩ := y
  simp only [List.cons.injEq, and_true, D.list.injEq] at hy
  rw [eR_inj _ _ hy.1, map_inj eN_inj hy.2]
noncomputable def Γ15 : FuncId → Option CSpec := fun f => if f = 22 then some (.pure true (g22)) else if f = 39 then some (.pure false (g39)) else none
theorem Γ15_ok : ∀ f s, Γ15 f = some s → SpecOK Try.prog f s := by
  intro f s h
  unfold Γ15 at h
  split at h
  · rename_i hf; cases h; subst hf; exact f22_ok
  split at h
  · rename_i hf; cases h; subst hf; exact f39_ok
  · cases h
theorem f15_ok : PureOK Try.prog 15 false g15 := by
  have hΓ := Γ15_ok
  refine pure_enc (n := 16) (rs := [.tmp 4, .tmp 5]) Try.func15 (by kernel_rfl) rfl (by kernel_rfl) (by kernel_rfl) ?_
  rintro ⟨r, l⟩ hz
  dsimp only at hz ⊢
  refine ⟨fun h => (by cases h), fun k hz0 => ?_⟩
  have e22 := g22_eq hz.v.l
  have e39 := g39_eq hz
  have h10 : ((1 : Int) != 0) = true := rfl
  have h00 : ((0 : Int) != 0) = false := rfl
  rw [start_frame (by simp)]; simp only [enumV, go_sem, emptyH]
  rcases vld_01 l with h | h
  · have hs : stR r l = .tup [.list ((stds r l).map eS), i64 0] := by simp [stR, h]
    rw [h] at e22
    repeat (first
      | (apply axJ; (focus ((with_reducible constructor) <;> rfl)))
      | (apply awT mixedOK hΓ (by kernel_rfl); (simp (disch := omega) only [go_sem, ↓reduceIte, ↓lk, ↓ty_build72, dk, Γ15, e22, e39, h00] <;> with_reducible rfl))
      | ((first | apply awR hΓ | apply awG | apply awH mixedOK hΓ rfl (by kernel_rfl) | apply ovE rfl); (simp (disch := omega) only [go_sem, ↓reduceIte, ↓lk, ↓ty_build72, dk, Γ15, e22, e39, h00] <;> with_reducible rfl); exact trivial)
      | rfl)
    rw [hs]
  · have hs : stR r l = .tup [.list [], i64 1] := by simp [stR, h]
    rw [h] at e22
    repeat (first
      | (apply axJ; (focus ((with_reducible constructor) <;> rfl)))
      | (apply awT mixedOK hΓ (by kernel_rfl); (simp (disch := omega) only [go_sem, ↓reduceIte, dk, Γ15, e22, h10] <;> with_reducible rfl))
      | ((first | apply awR hΓ | apply awG | apply awH mixedOK hΓ rfl (by kernel_rfl) | apply ovE rfl); (simp (disch := omega) only [go_sem, ↓reduceIte, dk, Γ15, e22, h10] <;> with_reducible rfl); exact trivial)
      | rfl)
    rw [hs]
noncomputable def Γ17 : FuncId → Option CSpec := fun f => if f = 23 then some (.pure true (g22)) else if f = 40 then some (.pure true (g40)) else none
theorem Γ17_ok : ∀ f s, Γ17 f = some s → SpecOK Try.prog f s := by
  intro f s h
  unfold Γ17 at h
  split at h
  · rename_i hf; cases h; subst hf; exact f23_ok
  split at h
  · rename_i hf; cases h; subst hf; exact f40_ok
  · cases h
theorem f17_ok : PureOK Try.prog 17 false g15 := by
  have hΓ := Γ17_ok
  refine pure_enc (n := 37) (rs := [.tmp 4, .tmp 5]) Try.func17 (by kernel_rfl) rfl (by kernel_rfl) (by kernel_rfl) ?_
  rintro ⟨r, l⟩ hz
  dsimp only at hz ⊢
  have hdl := hz.v.r.dcs
  refine ⟨fun h => (by cases h), fun k hz0 => ?_⟩
  have e22 := g22_eq hz.v.l
  have h10 : ((1 : Int) != 0) = true := rfl
  have h00 : ((0 : Int) != 0) = false := rfl
  rw [start_frame (by simp)]; simp only [enumV, go_sem, emptyH]
  rcases vld_01 l with h | h
  case inr =>
    have hs : stR r l = .tup [.list [], i64 1] := by simp [stR, h]
    rw [h] at e22
    repeat (first
      | (apply axJ; (focus ((with_reducible constructor) <;> rfl)))
      | (apply awT mixedOK hΓ (by kernel_rfl); (simp (disch := omega) only [go_sem, ↓reduceIte, dk, Γ17, e22, h10] <;> with_reducible rfl))
      | ((first | apply awR hΓ | apply awG | apply awH mixedOK hΓ rfl (by kernel_rfl) | apply ovE rfl); (simp (disch := omega) only [go_sem, ↓reduceIte, dk, Γ17, e22, h10] <;> with_reducible rfl); exact trivial)
      | rfl)
    rw [hs]
  have hs : stR r l = .tup [.list ((stds r l).map eS), i64 0] := by simp [stR, h]
  rw [h] at e22
  have hsl := stds_len r l
  repeat (first
    | (apply axJ; (focus ((with_reducible constructor) <;> rfl)))
    | (apply awT mixedOK hΓ (by kernel_rfl); (simp (disch := omega) only [go_sem, ↓reduceIte, dk, Γ17, e22, h00] <;> with_reducible rfl))
    | ((first | apply awR hΓ | apply awG | apply awH mixedOK hΓ rfl (by kernel_rfl) | apply ovE rfl); (simp (disch := omega) only [go_sem, ↓reduceIte, dk, Γ17, e22, h00] <;> with_reducible rfl); exact trivial)
    | rfl)
  refine awp_loop_at (X := Nat) (fun i => (frame 37 [(1, .data (.list (l.map eN))), (2, .ptr 0 0), (6, .row 8 i), (7, .data (i64 i))]))
    (fun i => [(0, .box [.data (.list (r.rvs.map eRw)), .data (.list (r.pks.map ePk)), .data (.list (r.dcs.map eDc)), .data (.list (r.dps.map eDp))]), (8, .row 44 2 (((stds r l).take i).map eS))]) 9
    (fun i => i ≤ r.dcs.length) (fun i => r.dcs.length - i) 0 (Nat.zero_le _) ((Weak.nilrowF (i := 6) 44 (sz := 2) (by omega) (by omega) rfl).trans (Weak.w)) ?_
  intro i hi
  have htl : ((stds r l).take i).length = i := by rw [List.length_take, hsl]; omega
  by_cases hi2 : i < r.dcs.length
  · have hq := hz.q _ (List.getElem_mem hi2)
    have hnx := stds_succ (l := l) hi2
    generalize hy : r.dcs[i] = y at hq hnx
    have e40 := g40_eq hz hq
    repeat (first
      | (apply axJ; (focus ((with_reducible constructor) <;> rfl)))
      | (apply awT mixedOK hΓ (by kernel_rfl); (simp (disch := omega) only [go_sem, ↓reduceIte, ↓lk, dk, eDc, hy] <;> with_reducible rfl))
      | ((first | apply awR hΓ | apply awG | apply awH mixedOK hΓ rfl (by kernel_rfl) | apply ovE rfl); (simp (disch := omega) only [go_sem, ↓reduceIte, ↓lk, dk, eDc, hy] <;> with_reducible rfl); exact trivial)
      | rfl)
    (apply awp_regm (nst := false) (nst' := false) 17 mixedOK hΓ (by kernel_rfl); (simp (disch := omega) only [go_sem, ↓reduceIte, ↓lk, ↓ty_build44, dk, eDc, hy, Γ17, e40, htl, hnx, look_upd] <;> with_reducible rfl); (simp (disch := omega) only [go_sem, ↓reduceIte] <;> with_reducible rfl); (focus rfl); (focus rfl); (simp (disch := omega) only [go_sem, ↓reduceIte, ↓lk, ↓ty_build44, dk, eDc, hy, Γ17, e40, htl, hnx, look_upd] <;> with_reducible rfl); (focus (first | (simp (disch := omega) only [go_sem, ↓reduceIte, ↓lk, ↓ty_build44, dk, eDc, hy, Γ17, e40, htl, hnx, look_upd]; done) | (simp (disch := omega) only [go_sem, ↓reduceIte, ↓lk, ↓ty_build44, dk, eDc, hy, Γ17, e40, htl, hnx, look_upd]; omega))); (focus (dsimp only [List.take_succ_cons, List.take_zero]; (repeat (apply same2_cons; (focus (first | (left; decide) | (right; simp (disch := omega) only [go_sem, ↓reduceIte, ↓lk, ↓ty_build44, dk, eDc, hy, Γ17, e40, htl, hnx, look_upd]; done))); (simp (disch := omega) only [go_sem, ↓reduceIte, ↓lk, ↓ty_build44, dk, eDc, hy, Γ17, e40, htl, hnx, look_upd] <;> with_reducible rfl))); exact same2_nil)); (simp (disch := omega) only [go_sem, ↓reduceIte, ↓lk, ↓ty_build44, dk, eDc, hy, Γ17, e40, htl, hnx, look_upd] <;> with_reducible rfl))
    repeat (first
      | (apply axJ; (focus ((with_reducible constructor) <;> rfl)))
      | (apply awT mixedOK hΓ (by kernel_rfl); (simp (disch := omega) only [go_sem, ↓reduceIte, ↓lk, dk] <;> with_reducible rfl))
      | ((first | apply awR hΓ | apply awG | apply awH mixedOK hΓ rfl (by kernel_rfl) | apply ovE rfl); (simp (disch := omega) only [go_sem, ↓reduceIte, ↓lk, dk] <;> with_reducible rfl); exact trivial)
      | rfl)
    exact ⟨i + 1, by omega, by omega, Weak.w⟩
  have hi3 : i = r.dcs.length := by omega
  subst hi3
  have hall : (stds r l).take r.dcs.length = stds r l := List.take_of_length_le (by omega)
  repeat (first
    | (apply axJ; (focus ((with_reducible constructor) <;> rfl)))
    | (apply awT mixedOK hΓ (by kernel_rfl); (simp (disch := omega) only [go_sem, ↓reduceIte, dk, htl, hall] <;> with_reducible rfl))
    | ((first | apply awR hΓ | apply awG | apply awH mixedOK hΓ rfl (by kernel_rfl) | apply ovE rfl); (simp (disch := omega) only [go_sem, ↓reduceIte, dk, htl, hall] <;> with_reducible rfl); exact trivial)
    | rfl)
  rw [hs]
theorem eq44 (a : Sd) : eqAgg Try.prog 44 [.str a.id, .int .i64 a.st] [.str a.id, .int .i64 a.st] = some true := by
  have hu : Program.underlying Try.prog 44 = some (.struct #[⟨"ID", 9, 0, false, "", "", 0⟩, ⟨"Status", 3, 1, false, "", "", 16⟩]) := by kernel_rfl
  have hg : (Try.prog.stoodInHeld 44 || Try.prog.eqGuardType Try.prog.depth 44) = false := by kernel_rfl
  unfold eqAgg
  rw [hu]
  simp only [hg, Bool.false_eq_true, if_false]
  simp [eqFlds, keyKind, keyEq, ty_und9, ty_agg9, ty_und3, ty_agg3]
noncomputable def g20 : List D → Option D := encSpec (fun l : List Sd => [.list (l.map eS), .list (l.map eS)]) (fun l => l.length ≤ 1099511627776) (fun _ => .bool true)
theorem g20_eq {l : List Sd} (h : l.length ≤ 1099511627776) : g20 [.list (l.map eS), .list (l.map eS)] = some (.bool true) := encSpec_eq (x := l) h fun y hy => rfl
theorem f20_ok : PureOK Try.prog 20 true g20 := by
  have hΓ := Γ0_ok
  refine pure_enc (n := 26) (rs := [.tmp 4]) Try.func20 (by kernel_rfl) rfl (by kernel_rfl) (by kernel_rfl) ?_
  intro l hl
  refine ⟨fun _ => .bool _, fun k hz0 => ?_⟩
  have hne : ((l.length : Int) != (l.length : Int)) = false := by simp
  rw [start_frame (by simp)]; simp only [enumV, go_sem, emptyH]
  repeat (first
    | (apply axJ; (focus ((with_reducible constructor) <;> rfl)))
    | (apply awT mixedOK hΓ (by kernel_rfl); (simp (disch := omega) only [go_sem, ↓reduceIte, dk, hne] <;> with_reducible rfl))
    | ((first | apply awR hΓ | apply awG | apply awH mixedOK hΓ rfl (by kernel_rfl) | apply ovE rfl); (simp (disch := omega) only [go_sem, ↓reduceIte, dk, hne] <;> with_reducible rfl); exact trivial)
    | rfl)
  refine awp_loop_at (X := Nat) (fun i => (frame 26 [(0, .data (.list (l.map eS))), (1, .data (.list (l.map eS))), (12, .data (i64 l.length)), (13, .data (i64 i))])) (fun _ => []) 0
    (fun i => i ≤ l.length) (fun i => l.length - i) 0 (Nat.zero_le _) (Weak.w) ?_
  intro i hi
  by_cases hi2 : i < l.length
  · have he := eq44 l[i]
    generalize hy : l[i] = y at he
    repeat (first
      | (apply axJ; (focus ((with_reducible constructor) <;> rfl)))
      | (apply awT mixedOK hΓ (by kernel_rfl); (simp (disch := omega) only [go_sem, ↓reduceIte, dk, eS, hy, ↓he] <;> with_reducible rfl))
      | ((first | apply awR hΓ | apply awG | apply awH mixedOK hΓ rfl (by kernel_rfl) | apply ovE rfl); (simp (disch := omega) only [go_sem, ↓reduceIte, dk, eS, hy, ↓he] <;> with_reducible rfl); exact trivial)
      | rfl)
    exact ⟨i + 1, by omega, by omega, Weak.w⟩
  · repeat (first
    | (apply axJ; (focus ((with_reducible constructor) <;> rfl)))
    | (apply awT mixedOK hΓ (by kernel_rfl); (simp (disch := omega) only [go_sem, ↓reduceIte, dk] <;> with_reducible rfl))
    | ((first | apply awR hΓ | apply awG | apply awH mixedOK hΓ rfl (by kernel_rfl) | apply ovE rfl); (simp (disch := omega) only [go_sem, ↓reduceIte, dk] <;> with_reducible rfl); exact trivial)
    | rfl)
noncomputable def g21 : List D → Option D := encSpec (fun l : List Now => [.list (l.map eN), .list (l.map eN)]) (fun l => l.length ≤ 1099511627776) (fun _ => .bool true)
theorem g21_eq {l : List Now} (h : l.length ≤ 1099511627776) : g21 [.list (l.map eN), .list (l.map eN)] = some (.bool true) := encSpec_eq (x := l) h fun y hy => rfl
theorem f21_ok : PureOK Try.prog 21 true g21 := by
  have hΓ := Γ0_ok
  refine pure_enc (n := 26) (rs := [.tmp 4]) Try.func21 (by kernel_rfl) rfl (by kernel_rfl) (by kernel_rfl) ?_
  intro l hl
  refine ⟨fun _ => .bool _, fun k hz0 => ?_⟩
  have hne : ((l.length : Int) != (l.length : Int)) = false := by simp
  rw [start_frame (by simp)]; simp only [enumV, go_sem, emptyH]
  repeat (first
    | (apply axJ; (focus ((with_reducible constructor) <;> rfl)))
    | (apply awT mixedOK hΓ (by kernel_rfl); (simp (disch := omega) only [go_sem, ↓reduceIte, dk, hne] <;> with_reducible rfl))
    | ((first | apply awR hΓ | apply awG | apply awH mixedOK hΓ rfl (by kernel_rfl) | apply ovE rfl); (simp (disch := omega) only [go_sem, ↓reduceIte, dk, hne] <;> with_reducible rfl); exact trivial)
    | rfl)
  refine awp_loop_at (X := Nat) (fun i => (frame 26 [(0, .data (.list (l.map eN))), (1, .data (.list (l.map eN))), (5, .data (i64 i))])) (fun _ => []) 0
    (fun i => i ≤ l.length) (fun i => l.length - i) 0 (Nat.zero_le _) (Weak.w) ?_
  intro i hi
  by_cases hi2 : i < l.length
  · have he := eq39 l[i] l[i]
    rw [decide_eq_true rfl] at he
    generalize hy : l[i] = y at he
    repeat (first
      | (apply axJ; (focus ((with_reducible constructor) <;> rfl)))
      | (apply awT mixedOK hΓ (by kernel_rfl); (simp (disch := omega) only [go_sem, ↓reduceIte, dk, eN, hy, ↓he] <;> with_reducible rfl))
      | ((first | apply awR hΓ | apply awG | apply awH mixedOK hΓ rfl (by kernel_rfl) | apply ovE rfl); (simp (disch := omega) only [go_sem, ↓reduceIte, dk, eN, hy, ↓he] <;> with_reducible rfl); exact trivial)
      | rfl)
    exact ⟨i + 1, by omega, by omega, Weak.w⟩
  · repeat (first
    | (apply axJ; (focus ((with_reducible constructor) <;> rfl)))
    | (apply awT mixedOK hΓ (by kernel_rfl); (simp (disch := omega) only [go_sem, ↓reduceIte, dk] <;> with_reducible rfl))
    | ((first | apply awR hΓ | apply awG | apply awH mixedOK hΓ rfl (by kernel_rfl) | apply ovE rfl); (simp (disch := omega) only [go_sem, ↓reduceIte, dk] <;> with_reducible rfl); exact trivial)
    | rfl)
end Go.Ab
