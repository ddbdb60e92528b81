/-
  One text of the proof (own work): contracts of functions of the program, by the abstract machine.
-/
import Derived.Test.YtpecnbkfahekdaaAbLoc
import Derived.Test.YtpecnbkfahekdaaAbCallee
import Derived.Test.YtpecnbkfahekdaaI1
set_option linter.unusedVariables false
set_option linter.unusedSimpArgs false
namespace Go.Ab
open Go Go.RowKit Go.Proofs
def isInts (l : List D) : Bool := l.all fun d => match d with
  | .int .i64 _ => true
  | _ => false
theorem isInts_map (l : List Int) : isInts (l.map (.int .i64)) = true := by simp [isInts]
theorem isInts_flat : ∀ {l : List D}, isInts l = true → flat l = l
  | [], _ => rfl
  | d :: r, h => by
    simp only [isInts, List.all_cons, Bool.and_eq_true] at h
    rw [flat_cons, isInts_flat (l := r) h.2]
    split at h
    · rfl
    · cases h.1
theorem isInts_mem {l : List D} (h : isInts l = true) {d : D} (hd : d ∈ l) : d.cells = [d] ∧ d.one = true := by
  have := List.all_eq_true.1 h d hd
  split at this
  · exact ⟨rfl, rfl⟩
  · cases this
/-- slices.Insert of one element, into a row of the caller's own. -/
def g53 : List AV → List Obj → Option (AV × List Obj)
  | [.row 0 n, .data (.int .i64 k), .row 1 1], [.row 3 1 l, .row 3 1 [.int .i64 x]] =>
    if l.length = n ∧ 0 ≤ k ∧ k ≤ n ∧ (n + 1) * 8 ≤ 140737488355328 ∧ isInts l = true then some (.row 0 (n + 1), [.row 3 1 (l.take k.toNat ++ .int .i64 x :: l.drop k.toNat), .row 3 1 [.int .i64 x]]) else none
  | _, _ => none
theorem f53_ok : LocOK Try.prog 53 g53 := by
  intro xs os r os' hg hle c θ w vs hbase hsim hz hvs
  unfold g53 at hg
  split at hg
  · rename_i n k l x
    split at hg
    · rename_i hc
      obtain ⟨hl, hk0, hkn, hbig, hint⟩ := hc
      simp only [Option.some.injEq, Prod.mk.injEq] at hg
      obtain ⟨rfl, rfl⟩ := hg
      simp only [List.length_cons, List.length_nil] at hz hbase hle
      obtain ⟨v0, v1, v2, rfl⟩ : ∃ v0 v1 v2, vs = #[v0, v1, v2] := by
        obtain ⟨l⟩ := vs
        match l, hz with
        | [a, b, c], _ => exact ⟨a, b, c, rfl⟩
      have h0 := hvs 0 (by simp) v0 rfl
      have h1 := hvs 1 (by simp) v1 rfl
      have h2 := hvs 2 (by simp) v2 rfl
      simp only [List.getElem_cons_zero, List.getElem_cons_succ, List.length_cons, List.length_nil] at h0 h1 h2
      have g0 : (⟨enumO 0 [Obj.row 3 1 l, Obj.row 3 1 [.int .i64 x]], 2⟩ : Heap).get 0 = some (.row 3 1 l) := rfl
      have g1 : (⟨enumO 0 [Obj.row 3 1 l, Obj.row 3 1 [.int .i64 x]], 2⟩ : Heap).get 1 = some (.row 3 1 [.int .i64 x]) := rfl
      obtain ⟨rfl, _⟩ := row_val hsim h0 g0 hl
      obtain ⟨rfl, _⟩ := row_val hsim h2 g1 rfl
      have e1 : v1 = .int .i64 k := by
        cases h1 with
        | data _ _ h => cases h; rfl
      subst e1
      obtain ⟨_, hcl, hone, us, hown, hbl, hd⟩ := row_cells hsim g0
      obtain ⟨_, _, _, us1, hown1, _, hd1⟩ := row_cells hsim g1
      obtain ⟨x', rfl⟩ : ∃ x', us1 = [x'] := by
        have := hown1.1
        match us1, this with
        | [a], _ => exact ⟨a, rfl⟩
      have ex : x' = .int .i64 x := by
        have := hd1 0 (by simp [flat, D.cells]) x' rfl
        simp [flat, D.cells] at this
        cases this
        rfl
      subst ex
      have hfl := isInts_flat hint
      have hul : us.length = n := by rw [← hl]; simpa using hown.1
      rw [hl] at hown
      obtain ⟨vb, vc, hvb⟩ : ∃ vb vc, θ 1 = .slice (some ⟨vb, 0, none⟩) 1 vc := by
        rcases hown1.2 with ⟨_, h⟩ | ⟨g, cp, cur, h, _⟩
        · cases h
        · exact ⟨g, cp, h⟩
      have hne : (θ 0).ownBlock ≠ some vb := fun h => hsim.inj 0 1 _ _ g0 g1 rfl rfl (by decide) vb (by rw [blk_ownBlock hown]; exact h) (by rw [hvb]; rfl)
      obtain ⟨i, rfl⟩ : ∃ i : Nat, k = i := ⟨k.toNat, by omega⟩
      have hin : i ≤ n := by omega
      simp only [Int.toNat_natCast]
      rw [hvb] at hown1 ⊢
      have hone' : ∀ v ∈ us, v.oneCell' = true := fun v hv => by
        obtain ⟨j, hj⟩ := List.mem_iff_getElem?.1 hv
        have hjl := (List.getElem?_eq_some_iff.1 hj).1
        have hjf : j < (flat l).length := by rw [hfl]; omega
        exact (hd j hjf v hj).oneCell (hone _ (List.getElem_mem hjf))
      have hb0 : blk (θ 0) = (θ 0).ownBlock := blk_ownBlock hown
      refine ⟨⟨Try.f53, Try.func53, by kernel_rfl, by kernel_rfl⟩, (insert_own hown hown1 hin hbig hne hone' rfl).mono ?_⟩
      rintro e w' ⟨v', rfl, hown', hg, hblk⟩
      have hb' : blk v' = v'.ownBlock := blk_ownBlock hown'
      have hll : ((l.take i ++ D.int .i64 x :: l.drop i)).length = n + 1 := by
        simp
        omega
      have hint' : isInts (l.take i ++ D.int .i64 x :: l.drop i) = true := by
        simp only [isInts, List.all_append, List.all_cons, Bool.and_eq_true]
        refine ⟨List.all_eq_true.2 fun d hd => List.all_eq_true.1 hint d (List.mem_of_mem_take hd), trivial, List.all_eq_true.2 fun d hd => List.all_eq_true.1 hint d (List.mem_of_mem_drop hd)⟩
      have hT := hsim.turn (w' := w') (k := 0) (x0 := .row 3 1 l) (x := .row 3 1 (l.take i ++ D.int .i64 x :: l.drop i)) (val := v') g0 rfl rfl
        (fun b hb hne => hg.block b hb (fun he => hne (by rw [hb0]; exact he.symm))) hg.size
        (fun b hb => by
          rw [hb'] at hb
          rcases hblk with h5 | h5
          · exact .inl (by rw [hb0, ← h5]; exact hb)
          · rw [h5] at hb
            simp only [Option.some.injEq] at hb
            exact .inr (by omega))
        ⟨rfl, rfl, by omega⟩
        (fun hh => by
          simp only [Obj.rlen, Option.some.injEq] at hh
          omega)
        (fun hvr => by
          refine ⟨by decide, fun d hd => by rw [(isInts_mem hint' hd).1]; rfl, fun d hd => ?_, us.take i ++ Value.int .i64 x :: us.drop i, by rw [hll]; exact hown', fun b hb => ?_, fun j hj u hu => ?_⟩
          · rw [isInts_flat hint'] at hd
            exact (isInts_mem hint' hd).2
          · rw [hb'] at hb
            rcases hblk with h5 | h5
            · exact hbl b (by rw [hb0, ← h5]; exact hb)
            · rw [h5] at hb
              simp only [Option.some.injEq] at hb
              exact .inl (by have := hsim.size; omega)
          · have hdm : ∀ (m : Nat) (y : D) (u : Value), us[m]? = some u → l[m]? = some y → DR w' (vis c _ (updθ θ 0 v') w') y u := fun m y u h1 h2 => by
              obtain ⟨h3, h4⟩ := List.getElem?_eq_some_iff.1 h2
              have h5 := hd m (by rw [hfl]; exact h3) u h1
              simp only [hfl, h4] at h5
              exact (hvr (.data y) u (.data _ _ h5)).data_inv
            have hjd : (l.take i ++ D.int .i64 x :: l.drop i)[j]? = some ((flat (l.take i ++ D.int .i64 x :: l.drop i))[j]) := by
              rw [List.getElem?_eq_getElem (by rw [isInts_flat hint'] at hj; exact hj)]
              simp only [isInts_flat hint']
            generalize (flat (l.take i ++ D.int .i64 x :: l.drop i))[j] = y at hjd
            rcases ins_get (by omega) hu with ⟨c1, h1⟩ | ⟨c1, rfl⟩ | ⟨c1, h1⟩ <;> rcases ins_get (by omega) hjd with ⟨c2, h2⟩ | ⟨c2, rfl⟩ | ⟨c2, h2⟩ <;> first | omega | skip
            · exact hdm j y u h1 h2
            · exact .int _ _
            · exact hdm (j - 1) y u h1 h2)
      refine ⟨v', rfl, updθ θ 0 v', hT.1, ?_, ⟨hg.os, hg.tape, hg.output, hg.size, fun b hb hbi => hg.block b (Nat.lt_of_lt_of_le hb hsim.size) (fun he => ?_)⟩, hT.2.2.evo (by simp)⟩
      · refine .row 0 _ v' (ownsRow_one hown') (.inl (by simp)) (fun x2 m2 hx2 hm2 => ?_)
        cases hx2
        cases hm2
        exact ⟨by omega, fun _ => by simp [updθ]⟩
      · rcases hbl b (by rw [hb0]; exact he.symm) with h5 | h5
        · omega
        · exact hbi h5
    · cases hg
  · cases hg
end Go.Ab
