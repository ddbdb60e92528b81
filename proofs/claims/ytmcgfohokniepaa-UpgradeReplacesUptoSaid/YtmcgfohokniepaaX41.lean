/-
  One text of the proof (own work): contracts of functions of the program, by the abstract machine.
-/
import Derived.Test.YtmcgfohokniepaaX25
import Derived.Test.YtmcgfohokniepaaX40
import Derived.Test.YtmcgfohokniepaaX35
import Derived.Test.YtmcgfohokniepaaX34
set_option linter.unusedVariables false
set_option linter.unusedSimpArgs false
namespace Go.Ab
open Go Go.RowKit Go.Proofs
set_option maxRecDepth 100000
set_option maxHeartbeats 40000000
theorem rp_tup {x : RpX} (h : RpOK x) : ∃ (a : List Now) (e : Int), rpR x = .tup [.list (a.map eN), i64 e] ∧ a.length ≤ 28 := by
  unfold rpR
  split
  · split
    · exact ⟨[], 9, rfl, by simp⟩
    · refine ⟨_, 0, rfl, ?_⟩
      unfold rpl
      rw [(fold_perm _ _).length_eq, List.length_append]
      have h1 := List.length_filter_le (fun y => !pkq x.nm y) x.l
      have h2 := h.l
      have h3 := h.own
      omega
  · exact ⟨[], 1, rfl, by simp⟩
theorem vld_of {l : List Now} (hl : l.length ≤ 1024) (hd : ∀ x ∈ l, x.d.length = 32) (hs : Srt l) : vld l = 0 := by
  refine vld_all (by omega) fun i hi => ?_
  unfold okAt
  rw [List.getElem?_eq_getElem hi]
  simp only [Bool.and_eq_true, decide_eq_true_eq]
  refine ⟨hd _ (List.getElem_mem hi), ?_⟩
  cases i with
  | zero => rfl
  | succ j =>
    have h := List.pairwise_iff_getElem.1 hs j (j + 1) (by omega) hi (by omega)
    have h2 : l[j]? = some l[j] := List.getElem?_eq_getElem (show j < l.length by omega)
    simp only [okPair, h2]
    exact h
theorem vld_d {l : List Now} (h : vld l = 0) : ∀ x ∈ l, x.d.length = 32 := by
  intro x hx
  obtain ⟨i, hi, rfl⟩ := List.mem_iff_getElem.1 hx
  by_cases hl : l.length > 1024
  · simp [vld, hl] at h
  · cases ho : okAt l i with
    | false => rw [vld_pre hi hl ho] at h; cases h
    | true =>
      unfold okAt at ho
      rw [List.getElem?_eq_getElem hi] at ho
      simp only [Bool.and_eq_true, decide_eq_true_eq] at ho
      exact ho.1
theorem rp_own {l : List Now} {nm : List UInt8} (hl : l.length ≤ 14) (h : vld l = 0) : rpR ⟨l, nm, l.filter fun x => pkq nm x⟩ = .tup [.list (l.map eN), i64 0] := by
  have hs := vld_srt h
  have h2 : vld (l.filter fun x => pkq nm x) = 0 := vld_of (by have := List.length_filter_le (fun x => pkq nm x) l; omega) (fun x hx => vld_d h x (List.mem_filter.1 hx).1) (List.Pairwise.sublist List.filter_sublist hs)
  have hany : ((l.filter fun x => pkq nm x).any fun y => !pkq nm y) = false := List.any_eq_false.2 fun y hy => by simp [(List.mem_filter.1 hy).2]
  unfold rpR
  dsimp only
  rw [if_pos ⟨h, h2⟩, hany, if_neg (by simp), rpl_own hs]
noncomputable def Γ10 : FuncId → Option CSpec := fun f => if f = 11 then some (.pure false (g11')) else if f = 13 then some (.pure true (g12)) else if f = 16 then some (.pure false (g16)) else if f = 21 then some (.pure true (g21)) else if f = 23 then some (.pure true (g22)) else if f = 25 then some (.pure false (g25)) else if f = 34 then some (.pure false (g34)) else if f = 35 then some (.pure false (g34)) else none
theorem Γ10_ok : ∀ f s, Γ10 f = some s → SpecOK Try.prog f s := by
  intro f s h
  unfold Γ10 at h
  split at h
  · rename_i hf; cases h; subst hf; exact f11_ok'
  split at h
  · rename_i hf; cases h; subst hf; exact f13_ok
  split at h
  · rename_i hf; cases h; subst hf; exact f16_ok
  split at h
  · rename_i hf; cases h; subst hf; exact f21_ok
  split at h
  · rename_i hf; cases h; subst hf; exact f23_ok
  split at h
  · rename_i hf; cases h; subst hf; exact f25_ok
  split at h
  · rename_i hf; cases h; subst hf; exact f34_ok
  split at h
  · rename_i hf; cases h; subst hf; exact f35_ok
  · cases h
structure LaR (x : List Int × List Int × List UInt8) : Prop where
  a : NsOK x.1
  b : NsOK x.2.1
  s : x.2.2.length ≤ 1099511627776
noncomputable def g10 : List D → Option D := encSpec (fun x : List Int × List Int × List UInt8 => [.list (x.1.map u8), .list (x.2.1.map u8), .str x.2.2]) LaR (fun _ => .bool true)
theorem g10_eq {a b : List Int} {s : List UInt8} (h1 : NsOK a) (h2 : NsOK b) (h3 : s.length ≤ 1099511627776) : g10 [.list (a.map u8), .list (b.map u8), .str s] = some (.bool true) := encSpec_eq (x := (a, b, s)) ⟨h1, h2, h3⟩ fun y hy => rfl
theorem f10_ok : PureOK Try.prog 10 true g10 := by
  have hΓ := Γ10_ok
  refine pure_enc (n := 99) (rs := [.tmp 6]) Try.func10 (by kernel_rfl) rfl (by kernel_rfl) (by kernel_rfl) ?_
  rintro ⟨n1, n2, s⟩ ⟨h1, h2, h3⟩
  refine ⟨fun _ => .bool _, fun k hz0 => ?_⟩
  dsimp only at h1 h2 h3 ⊢
  obtain ⟨l, e25, hl, kl⟩ := g25_eq h1
  obtain ⟨m, e25m, hm, km⟩ := g25_eq h2
  have hz : RpOK ⟨l, s, m⟩ := ⟨hl, hm, h3, kl, km⟩
  have e34 := g34_eq hz
  obtain ⟨a, e, ea, hal⟩ := rp_tup hz
  rw [ea] at e34
  unfold rpA at e34
  dsimp only at e34
  have e16 := g16_eq (l := l) (by omega)
  have e16m := g16_eq (l := m) (by omega)
  have e21 := g21_eq (l := a) (by omega)
  have e21l := g21_eq (l := l) (by omega)
  have e22 := g22_eq (l := l) (by omega)
  have b1 : (e == e) = true := by simp
  have b2 : (e != e) = false := by simp
  rw [start_frame (by simp)]; simp only [enumV, go_sem, emptyH]
  by_cases hs : s.length ≤ 100
  · by_cases hv : vld l = 0
    · rw [hv] at e22
      repeat (first
        | (apply axJ; (focus ((with_reducible constructor) <;> rfl)))
        | (apply awT mixedOK hΓ (by kernel_rfl); (simp (disch := omega) only [go_sem, ↓reduceIte, dk, Int.reduceBEq, Int.reduceBNe, Bool.true_bne, Bool.false_bne, Bool.not_true, Bool.not_false, Γ10, g11_eq', e25, e25m, e16, e16m, e34, e21, e22, b1, b2] <;> with_reducible rfl))
        | ((first | apply awR hΓ | apply awG | apply awH mixedOK hΓ rfl (by kernel_rfl) | apply ovE rfl); (simp (disch := omega) only [go_sem, ↓reduceIte, dk, Int.reduceBEq, Int.reduceBNe, Bool.true_bne, Bool.false_bne, Bool.not_true, Bool.not_false, Γ10, g11_eq', e25, e25m, e16, e16m, e34, e21, e22, b1, b2] <;> with_reducible rfl); exact trivial)
        | rfl)
      refine awp_weak (sl' := (frame 99 [(7, .data (.list (l.map eN)))])) (H' := ⟨[], 0⟩) (Weak.w) ?_
      repeat (first
        | (apply axJ; (focus ((with_reducible constructor) <;> rfl)))
        | (apply awT mixedOK hΓ (by kernel_rfl); (simp (disch := omega) only [go_sem, ↓reduceIte, ↓lk, dk, Int.reduceBEq, Int.reduceBNe, Bool.true_bne, Bool.false_bne, Bool.not_true, Bool.not_false] <;> with_reducible rfl))
        | ((first | apply awR hΓ | apply awG | apply awH mixedOK hΓ rfl (by kernel_rfl) | apply ovE rfl); (simp (disch := omega) only [go_sem, ↓reduceIte, ↓lk, dk, Int.reduceBEq, Int.reduceBNe, Bool.true_bne, Bool.false_bne, Bool.not_true, Bool.not_false] <;> with_reducible rfl); exact trivial)
        | rfl)
      refine awp_weak (Weak.freeze (o := 0) rfl) ?_
      refine awp_weak (sl' := (frame 99 [(7, .data (.list (l.map eN))), (60, .data (.list [.str [97, 112, 112], .str [108, 105, 98]])), (61, .data (i64 2)), (62, .data (i64 0))])) (H' := ⟨[], 0⟩) (Weak.v (by (repeat' (first | exact True.intro | apply And.intro | exact rfl | exact Or.inl rfl | exact Or.inr (Or.inl ⟨rfl, rfl⟩) | exact Or.inr (Or.inr ⟨_, _, rfl, rfl, by (first | (simp; done) | (simp; omega))⟩))); done) (by (simp (disch := omega) only [TabSub, look, if_pos, if_neg, Obj.refsOK, refsOKs, AV.refsOK, decide_eq_true_eq, Bool.and_true, Bool.and_self] ) <;> ((repeat' apply And.intro) <;> first | exact True.intro | omega | (simp; done) | rfl))) ?_
      have hw : ([.str [97, 112, 112], .str [108, 105, 98]] : List D).length = 2 := rfl
      have hwn : ∀ i, i < 2 → ∃ nm : List UInt8, nm.length ≤ 3 ∧ ∀ h, ([.str [97, 112, 112], .str [108, 105, 98]] : List D)[i]'h = .str nm := fun i hi => by
        rcases (show i = 0 ∨ i = 1 by omega) with rfl | rfl
        · exact ⟨_, by decide, fun _ => rfl⟩
        · exact ⟨_, by decide, fun _ => rfl⟩
      generalize ([.str [97, 112, 112], .str [108, 105, 98]] : List D) = ws at hw hwn ⊢
      refine awp_loop_at (X := Nat) (fun i => (frame 99 [(7, .data (.list (l.map eN))), (60, .data (.list ws)), (61, .data (i64 2)), (62, .data (i64 i))])) (fun _ => []) 0
        (fun i => i ≤ 2) (fun i => 2 - i) 0 (Nat.zero_le _) (Weak.w) ?_
      intro i hi
      by_cases hi2 : i < 2
      · obtain ⟨nm, hnm, hwi⟩ := hwn i hi2
        repeat (first
          | (apply axJ; (focus ((with_reducible constructor) <;> rfl)))
          | (apply awT mixedOK hΓ (by kernel_rfl); (simp (disch := omega) only [go_sem, ↓reduceIte, dk, hw, hwi] <;> with_reducible rfl))
          | ((first | apply awR hΓ | apply awG | apply awH mixedOK hΓ rfl (by kernel_rfl) | apply ovE rfl); (simp (disch := omega) only [go_sem, ↓reduceIte, dk, hw, hwi] <;> with_reducible rfl); exact trivial)
          | rfl)
        refine awp_loop_at (X := Nat) (fun j => (frame 99 [(7, .data (.list (l.map eN))), (14, .data (.str nm)), (15, .row 0 ((l.take j).filter fun x => pkq nm x).length), (60, .data (.list ws)), (61, .data (i64 2)), (62, .data (i64 i)), (66, .data (.list (l.map eN))), (67, .data (i64 l.length)), (68, .data (i64 j))])) (fun j => [(0, .row 39 3 (((l.take j).filter fun x => pkq nm x).map eN))]) 1
          (fun j => j ≤ l.length) (fun j => l.length - j) 0 (Nat.zero_le _) (Weak.trans (s2 := (frame 99 [(7, .data (.list (l.map eN))), (14, .data (.str nm)), (15, .nils), (60, .data (.list ws)), (61, .data (i64 2)), (62, .data (i64 i)), (66, .data (.list (l.map eN))), (67, .data (i64 l.length)), (68, .data (i64 0))])) (H2 := ⟨[], 0⟩) (Weak.w) ((Weak.nilrowF (i := 15) 39 (sz := 3) (by omega) (by omega) rfl).trans (Weak.v (by (simp [ConvF, lookV, Conv, ints, upd]; done)) (by (simp (disch := omega) only [TabSub, look, if_pos, if_neg, Obj.refsOK, refsOKs, AV.refsOK, decide_eq_true_eq, Bool.and_true, Bool.and_self, upd] ) <;> ((repeat' apply And.intro) <;> first | exact True.intro | omega | (simp; done) | rfl))))) ?_
        intro j hj
        by_cases hj2 : j < l.length
        · have e12 := g12_eq (s := l[j].q) (kl _ (List.getElem_mem hj2)).qsz
          have htk : (l.take (j + 1)).filter (fun x => pkq nm x) = (l.take j).filter (fun x => pkq nm x) ++ [l[j]].filter (fun x => pkq nm x) := by
            rw [List.take_add_one, List.filter_append, List.getElem?_eq_getElem hj2]; rfl
          have hsl : ((l.take j).filter fun x => pkq nm x).length ≤ 14 := by
            have h1 := List.length_filter_le (fun x => pkq nm x) (l.take j)
            have h2 : (l.take j).length ≤ l.length := by rw [List.length_take]; omega
            omega
          generalize hy : l[j] = y at *
          generalize (l.take j).filter (fun x => pkq nm x) = sub at *
          cases hb : pkq nm y with
          | true =>
            have hb2 : (pkg y.q == nm) = true := hb
            have hb3 : (nm == pkg y.q) = true := by rw [BEq.comm]; exact hb2
            have htk2 : (l.take (j + 1)).filter (fun x => pkq nm x) = sub ++ [y] := by rw [htk]; simp [hb]
            repeat (first
              | (apply axJ; (focus ((with_reducible constructor) <;> rfl)))
              | (apply awT mixedOK hΓ (by kernel_rfl); (simp (disch := omega) only [go_sem, ↓reduceIte, ↓lk, dk, Int.reduceBEq, Int.reduceBNe, Bool.true_bne, Bool.false_bne, Bool.not_true, Bool.not_false, Γ10, hy, eN, e12, hb2, hb3] <;> with_reducible rfl))
              | ((first | apply awR hΓ | apply awG | apply awH mixedOK hΓ rfl (by kernel_rfl) | apply ovE rfl); (simp (disch := omega) only [go_sem, ↓reduceIte, ↓lk, dk, Int.reduceBEq, Int.reduceBNe, Bool.true_bne, Bool.false_bne, Bool.not_true, Bool.not_false, Γ10, hy, eN, e12, hb2, hb3] <;> with_reducible rfl); exact trivial)
              | rfl)
            exact ⟨j + 1, hj2, by omega, by rw [htk2, List.map_append, List.length_append]; exact Weak.w⟩
          | false =>
            have hb2 : (pkg y.q == nm) = false := hb
            have hb3 : (nm == pkg y.q) = false := by rw [BEq.comm]; exact hb2
            have htk2 : (l.take (j + 1)).filter (fun x => pkq nm x) = sub := by rw [htk]; simp [hb]
            repeat (first
              | (apply axJ; (focus ((with_reducible constructor) <;> rfl)))
              | (apply awT mixedOK hΓ (by kernel_rfl); (simp (disch := omega) only [go_sem, ↓reduceIte, ↓lk, dk, Int.reduceBEq, Int.reduceBNe, Bool.true_bne, Bool.false_bne, Bool.not_true, Bool.not_false, Γ10, hy, eN, e12, hb2, hb3] <;> with_reducible rfl))
              | ((first | apply awR hΓ | apply awG | apply awH mixedOK hΓ rfl (by kernel_rfl) | apply ovE rfl); (simp (disch := omega) only [go_sem, ↓reduceIte, ↓lk, dk, Int.reduceBEq, Int.reduceBNe, Bool.true_bne, Bool.false_bne, Bool.not_true, Bool.not_false, Γ10, hy, eN, e12, hb2, hb3] <;> with_reducible rfl); exact trivial)
              | rfl)
            exact ⟨j + 1, hj2, by omega, by rw [htk2]; exact Weak.w⟩
        · obtain rfl : j = l.length := by omega
          rw [List.take_length]
          have e34o := g34_eq (x := ⟨l, nm, l.filter fun x => pkq nm x⟩) ⟨hl, by have := List.length_filter_le (fun x => pkq nm x) l; dsimp only; omega, by dsimp only; omega, kl, fun y hy => kl y (List.mem_filter.1 hy).1⟩
          rw [rp_own hl hv] at e34o
          unfold rpA at e34o
          dsimp only at e34o
          generalize (l.filter fun x => pkq nm x) = sub at *
          have h00 : ((0 : Int) != 0) = false := rfl
          repeat (first
            | (apply axJ; (focus ((with_reducible constructor) <;> rfl)))
            | (apply awT mixedOK hΓ (by kernel_rfl); (simp (disch := omega) only [go_sem, ↓reduceIte, dk, Int.reduceBEq, Int.reduceBNe, Bool.true_bne, Bool.false_bne, Bool.not_true, Bool.not_false, Γ10, e16, e34o, e21l, h00, List.length_map] <;> with_reducible rfl))
            | ((first | apply awR hΓ | apply awG | apply awH mixedOK hΓ rfl (by kernel_rfl) | apply ovE rfl); (simp (disch := omega) only [go_sem, ↓reduceIte, dk, Int.reduceBEq, Int.reduceBNe, Bool.true_bne, Bool.false_bne, Bool.not_true, Bool.not_false, Γ10, e16, e34o, e21l, h00, List.length_map] <;> with_reducible rfl); exact trivial)
            | rfl)
          exact ⟨i + 1, hi2, by omega, Weak.w⟩
      · repeat (first
        | (apply axJ; (focus ((with_reducible constructor) <;> rfl)))
        | (apply awT mixedOK hΓ (by kernel_rfl); (simp (disch := omega) only [go_sem, ↓reduceIte, dk, Int.reduceBEq, Int.reduceBNe, Bool.true_bne, Bool.false_bne, Bool.not_true, Bool.not_false] <;> with_reducible rfl))
        | ((first | apply awR hΓ | apply awG | apply awH mixedOK hΓ rfl (by kernel_rfl) | apply ovE rfl); (simp (disch := omega) only [go_sem, ↓reduceIte, dk, Int.reduceBEq, Int.reduceBNe, Bool.true_bne, Bool.false_bne, Bool.not_true, Bool.not_false] <;> with_reducible rfl); exact trivial)
        | rfl)
    · rw [vld_ne hv] at e22
      repeat (first
        | (apply axJ; (focus ((with_reducible constructor) <;> rfl)))
        | (apply awT mixedOK hΓ (by kernel_rfl); (simp (disch := omega) only [go_sem, ↓reduceIte, dk, Int.reduceBEq, Int.reduceBNe, Bool.true_bne, Bool.false_bne, Bool.not_true, Bool.not_false, Γ10, g11_eq', e25, e25m, e16, e16m, e34, e21, e22, b1, b2] <;> with_reducible rfl))
        | ((first | apply awR hΓ | apply awG | apply awH mixedOK hΓ rfl (by kernel_rfl) | apply ovE rfl); (simp (disch := omega) only [go_sem, ↓reduceIte, dk, Int.reduceBEq, Int.reduceBNe, Bool.true_bne, Bool.false_bne, Bool.not_true, Bool.not_false, Γ10, g11_eq', e25, e25m, e16, e16m, e34, e21, e22, b1, b2] <;> with_reducible rfl); exact trivial)
        | rfl)
  · repeat (first
    | (apply axJ; (focus ((with_reducible constructor) <;> rfl)))
    | (apply awT mixedOK hΓ (by kernel_rfl); (simp (disch := omega) only [go_sem, ↓reduceIte, dk, Int.reduceBEq, Int.reduceBNe, Bool.true_bne, Bool.false_bne, Bool.not_true, Bool.not_false, Γ10, g11_eq'] <;> with_reducible rfl))
    | ((first | apply awR hΓ | apply awG | apply awH mixedOK hΓ rfl (by kernel_rfl) | apply ovE rfl); (simp (disch := omega) only [go_sem, ↓reduceIte, dk, Int.reduceBEq, Int.reduceBNe, Bool.true_bne, Bool.false_bne, Bool.not_true, Bool.not_false, Γ10, g11_eq'] <;> with_reducible rfl); exact trivial)
    | rfl)
end Go.Ab
