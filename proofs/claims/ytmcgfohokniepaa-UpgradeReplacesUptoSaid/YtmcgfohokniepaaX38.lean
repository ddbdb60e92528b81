/-
  One text of the proof (own work): contracts of functions of the program, by the abstract machine.
-/
import Derived.Test.YtmcgfohokniepaaX25
import Derived.Test.YtmcgfohokniepaaX37
import Derived.Test.YtmcgfohokniepaaX24
import Derived.Test.YtmcgfohokniepaaX33
import Derived.Test.YtmcgfohokniepaaX32
import Derived.Test.YtmcgfohokniepaaX23
set_option linter.unusedVariables false
set_option linter.unusedSimpArgs false
namespace Go.Ab
open Go Go.RowKit Go.Proofs
set_option maxRecDepth 100000
set_option maxHeartbeats 40000000
structure SoOK (l : List Now) : Prop where
  n : l.length ≤ 12
  d : Dfs l
def soO (l : List Now) : List Obj := [.row 39 3 (l.map eN)]
def SoG (l : List Now) (r : AV) (os : List Obj) : Prop := r = .tup [] ∧ ∃ m : List Now, os = soO m ∧ m.Perm l ∧ Srt m
theorem so_inj (x y : List Now) (h : soO x = soO y) : x = y := by
  simp only [soO, List.cons.injEq, Obj.row.injEq, true_and, and_true] at h
  exact map_inj eN_inj h
noncomputable def Γ97 : FuncId → Option CSpec := fun f => if f = 42 then some (.pure true (g42)) else none
theorem Γ97_ok : ∀ f s, Γ97 f = some s → SpecOK Try.prog f s := by
  intro f s h
  unfold Γ97 at h
  split at h
  · rename_i hf; cases h; subst hf; exact f42_ok
  · cases h
theorem nOrd_lt (a b : Now) : decide (nOrd a b < 0) = nLt a b := by
  have := nOrd_ge a b
  rw [show decide (nOrd a b < 0) = !decide (nOrd a b ≥ 0) by rw [Bool.eq_iff_iff]; simp, this, Bool.not_not]
def mid (A : List Now) (x : Now) (B C : List Now) : List Now := A ++ x :: B ++ C
theorem mid_at (A B C : List Now) (x : Now) : (mid A x B C).map eN = A.map eN ++ eN x :: ((B ++ C).map eN) := by simp [mid]
theorem mid_swap (A B C : List Now) (x y : Now) : ((((mid (A ++ [y]) x B C).map eN).set (A.length + 1) (eN y)).set A.length (eN x)) = (mid A x (y :: B) C).map eN := by
  simp [mid, List.set_append]
theorem g0_at' (A B C : List Now) (x y : Now) (h) : ((mid (A ++ [y]) x B C).map eN)[A.length + 1]'h = eN x := by
  have e : (mid (A ++ [y]) x B C).map eN = (A ++ [y]).map eN ++ eN x :: ((B ++ C).map eN) := mid_at _ _ _ _
  simp only [e]
  rw [List.getElem_append_right (by simp)]
  simp
theorem g1_at (A B C : List Now) (x y : Now) (h) : ((mid (A ++ [y]) x B C).map eN)[A.length]'h = eN y := by simp [mid]
theorem f97_ex : ∃ g, LocOK Try.prog 97 g ∧ ∀ l, SoOK l → ∃ r os, SoG l r os ∧ g [.row 0 l.length, .data (i64 0), .data (i64 l.length), .data (.clo 42 [])] (soO l) = some (r, os) := by
  have hΓ := Γ97_ok
  refine loc_ex (enc := fun l : List Now => [.row 0 l.length, .data (i64 0), .data (i64 l.length), .data (.clo 42 [])]) (eno := soO) (dom := SoOK) (good := SoG) (n := 53) (rs := []) Try.func97 (by kernel_rfl) rfl (by kernel_rfl) (by kernel_rfl) (fun x y _ h => so_inj x y h) ?_
  rintro l ⟨hn, hd⟩
  unfold soO
  rw [start_frameA (by simp)]; simp only [enumA, enumO, List.length_cons, List.length_nil, Nat.reduceAdd, go_sem]
  (repeat (first | (refine axA ?_; first | (apply axR hΓ; (simp (disch := omega) only [go_sem, ↓reduceIte, ↓lk, dk] <;> with_reducible rfl); exact trivial) | refine axA ?_ | refine axB ?_) | refine axB ?_ | (apply axK; (focus ((with_reducible constructor) <;> rfl))) | ((first | apply axR hΓ | apply axG | apply ovX rfl | apply ovE rfl); (simp (disch := omega) only [go_sem, ↓reduceIte, ↓lk, dk] <;> with_reducible rfl); exact trivial) | rfl))
  refine axp_loop_at (X := Nat × List Now) (fun x => (frame 53 [(0, .row 0 l.length), (1, .data (i64 0)), (2, .data (i64 l.length)), (3, .data (.clo 42 [])), (8, .data (i64 x.1))])) (fun x => [(0, .row 39 3 (x.2.map eN))]) 1
    (fun x => 1 ≤ x.1 ∧ x.1 ≤ l.length + 1 ∧ x.2.Perm l ∧ Srt (x.2.take x.1)) (fun x => l.length - x.1) (1, l) ⟨Nat.le_refl _, by omega, .refl _, by
      cases l <;> simp⟩ (Weak.w) ?_
  rintro ⟨i, m⟩ ⟨hi1, hi2, hp, hs⟩
  dsimp only at hi1 hi2 hp hs ⊢
  have hml := hp.length_eq
  by_cases hil : i < l.length
  · obtain ⟨x, hx⟩ : ∃ x, m[i]? = some x := ⟨m[i], List.getElem?_eq_getElem (by omega)⟩
    have hmm : m = mid (m.take i) x [] (m.drop (i + 1)) := by
      obtain ⟨hlt, hxx⟩ := List.getElem?_eq_some_iff.1 hx
      simp only [mid, ← hxx]
      simp
    generalize hC : m.drop (i + 1) = C at hmm
    have hCl : C.length = l.length - (i + 1) := by rw [← hC, List.length_drop, hml]
    (repeat (first | (refine axA ?_; first | (apply axR hΓ; (simp (disch := omega) only [go_sem, ↓reduceIte, ↓lk, dk] <;> with_reducible rfl); exact trivial) | refine axA ?_ | refine axB ?_) | refine axB ?_ | (apply axK; (focus ((with_reducible constructor) <;> rfl))) | ((first | apply axR hΓ | apply axG | apply ovX rfl | apply ovE rfl); (simp (disch := omega) only [go_sem, ↓reduceIte, ↓lk, dk] <;> with_reducible rfl); exact trivial) | rfl))
    refine axp_loop_at (X := List Now × List Now) (fun y => (frame 53 [(0, .row 0 l.length), (1, .data (i64 0)), (2, .data (i64 l.length)), (3, .data (.clo 42 [])), (8, .data (i64 i)), (9, .data (i64 y.1.length))])) (fun y => [(0, .row 39 3 ((mid y.1 x y.2 C).map eN))]) 1
      (fun y => y.1.length + y.2.length = i ∧ (mid y.1 x y.2 C).Perm l ∧ Srt (y.1 ++ y.2) ∧ ∀ z ∈ y.2, nLt x z = true) (fun y => y.1.length) (m.take i, []) ⟨by simp; omega, hmm ▸ hp, by simpa using hs, by simp⟩ ?_ ?_
    · have htl : (m.take i).length = i := by rw [List.length_take]; omega
      dsimp only
      rw [htl, ← hmm]
      exact Weak.w
    rintro ⟨A, B⟩ ⟨hAB, hp, hs, hB⟩
    dsimp only at hAB hp hs hB ⊢
    have hRl : ((mid A x B C).map eN).length = l.length := by rw [List.length_map, hp.length_eq]
    have hnext : (∀ A' z, A = A' ++ [z] → nLt z x = true) → Srt ((mid A x B C).take (i + 1)) := fun hz => by
      have : (mid A x B C).take (i + 1) = A ++ x :: B := by
        rw [mid, List.take_left' (by simp; omega)]
      rw [this]
      exact srt_ins hs hB hz
    rcases List.eq_nil_or_concat A with rfl | ⟨A', y, rfl⟩
    · have hsr := hnext fun A' z e => by simp at e
      generalize hR : (mid [] x B C).map eN = R at *
      refine axA ?_
      refine axA ?_
      (apply axp_regf mixedOK hΓ (by kernel_rfl); (simp (disch := omega) only [go_sem, ↓reduceIte, dk] <;> with_reducible rfl); (simp only [go_sem] <;> with_reducible rfl))
      (repeat (first | refine axB ?_ | (apply axK; (focus ((with_reducible constructor) <;> rfl))) | ((first | apply axR hΓ | apply axG | apply ovX rfl | apply ovE rfl); (simp (disch := omega) only [go_sem, ↓reduceIte, dk] <;> with_reducible rfl); exact trivial) | rfl))
      exact ⟨(i + 1, mid [] x B C), ⟨by dsimp only; omega, by dsimp only; omega, hp, hsr⟩, by dsimp only; omega, by dsimp only; rw [hR]; exact Weak.w⟩
    · rw [List.concat_eq_append] at *
      have hl1 : (A' ++ [y]).length = A'.length + 1 := by simp
      rw [hl1] at hAB ⊢
      have r1 := g0_at' A' B C x y
      have r0 := g1_at A' B C x y
      have hset := mid_swap A' B C x y
      have hpm : (mid A' x (y :: B) C).Perm (mid (A' ++ [y]) x B C) := by
        simp only [mid, List.append_assoc, List.singleton_append, List.cons_append]
        exact List.Perm.append_left _ (.swap _ _ _)
      have e42 := g42_eq x y
      have hc := nOrd_lt x y
      have hjn : ((A'.length + 1 : Nat) : Int) - 1 = A'.length := by omega
      generalize nOrd x y = o at *
      generalize hR : (mid (A' ++ [y]) x B C).map eN = R at *
      generalize hR2 : (mid A' x (y :: B) C).map eN = R2 at *
      generalize hnn : A'.length = n at *
      unfold eN at r1 r0 hset
      cases hb : nLt x y with
      | true =>
        rw [hb] at hc
        refine axA ?_
        refine axA ?_
        (apply axp_regf mixedOK hΓ (by kernel_rfl); (simp (disch := omega) only [go_sem, ↓reduceIte, dk, Γ97, r1, r0, hjn, e42, hc] <;> with_reducible rfl); (simp only [go_sem] <;> with_reducible rfl))
        (repeat (first | (apply axJ; (focus ((with_reducible constructor) <;> rfl))) | ((first | apply axR hΓ | apply axG | apply ovX rfl | apply ovE rfl); (simp (disch := omega) only [go_sem, ↓reduceIte, dk] <;> with_reducible rfl); exact trivial) | rfl))
        have r0' : ∀ v, (R.set (n + 1) v)[n]? = some (.agg [.str y.q, .str y.s, .str y.d]) := fun v => by
          rw [List.getElem?_set_ne (by omega), List.getElem?_eq_getElem (by omega), r0]
        (apply axp_lane3 (nst := false) (nst' := false) [false, false, false, false, false, false, false, false, false, false, false, false, false, false, false, true] mixedOK hΓ (n1 := 16) (by kernel_rfl) (by kernel_rfl); (focus (dsimp only [List.take_succ_cons, List.take_zero, Array.toList]; (repeat (first | (apply lane3_loud; (focus rfl); (focus rfl); (simp (disch := omega) only [go_sem, ↓reduceIte, dk, r1, r0, r0', hjn, List.length_set, hRl, hset, look_upd] <;> with_reducible rfl); (focus (first | (simp (disch := omega) only [go_sem, ↓reduceIte, dk, r1, r0, r0', hjn, List.length_set, hRl, hset, look_upd]; done) | (simp (disch := omega) only [go_sem, ↓reduceIte, dk, r1, r0, r0', hjn, List.length_set, hRl, hset, look_upd]; omega)))) | (apply lane3_quiet; (simp (disch := omega) only [go_sem, ↓reduceIte, dk, r1, r0, r0', hjn, List.length_set, hRl, hset, look_upd] <;> with_reducible rfl)))); exact lane3_nil)); (focus ((repeat' (first | exact True.intro | refine And.intro ?_ ?_)); all_goals (first | (left; decide) | (left; rfl) | (right; simp (disch := omega) only [go_sem, ↓reduceIte, dk, r1, r0, r0', hjn, List.length_set, hRl, hset, look_upd]; try with_reducible rfl)))); (simp (disch := omega) only [go_sem, ↓reduceIte, dk, r1, r0, r0', hjn, List.length_set, hRl, hset, look_upd] <;> with_reducible rfl))
        (repeat (first | (apply axJ; (focus ((with_reducible constructor) <;> rfl))) | ((first | apply axR hΓ | apply axG | apply ovX rfl | apply ovE rfl); (simp (disch := omega) only [go_sem, ↓reduceIte, dk, hjn] <;> with_reducible rfl); exact trivial) | rfl))
        exact ⟨(A', y :: B), ⟨by dsimp only; rw [hnn, List.length_cons]; omega, hpm.trans hp, by simpa using hs, fun z hz => (List.mem_cons.1 hz).elim (fun e => e ▸ hb) (hB z)⟩, by dsimp only; omega, by dsimp only; rw [hR2, hnn]; exact Weak.w⟩
      | false =>
        rw [hb] at hc
        have hxy : nLt y x = true := (nLt_tot ((List.pairwise_append.1 (List.pairwise_append.1 (hd.perm hp.symm)).1).2.2 y (by simp) x (by simp))).resolve_right (by rw [hb]; simp)
        have hsr := hnext fun A2 z2 e2 => by
          obtain ⟨-, e3⟩ := List.append_inj' e2 rfl
          cases e3
          exact hxy
        refine axA ?_
        refine axA ?_
        (apply axp_regf mixedOK hΓ (by kernel_rfl); (simp (disch := omega) only [go_sem, ↓reduceIte, dk, Γ97, r1, r0, hjn, e42, hc] <;> with_reducible rfl); (simp only [go_sem] <;> with_reducible rfl))
        (repeat (first | refine axB ?_ | (apply axK; (focus ((with_reducible constructor) <;> rfl))) | ((first | apply axR hΓ | apply axG | apply ovX rfl | apply ovE rfl); (simp (disch := omega) only [go_sem, ↓reduceIte, dk] <;> with_reducible rfl); exact trivial) | rfl))
        exact ⟨(i + 1, mid (A' ++ [y]) x B C), ⟨by dsimp only; omega, by dsimp only; omega, hp, hsr⟩, by dsimp only; omega, by dsimp only; rw [hR]; exact Weak.w⟩
  · have hsm : Srt m := by rwa [List.take_of_length_le (by omega)] at hs
    (repeat (first | (apply axJ; (focus ((with_reducible constructor) <;> rfl))) | ((first | apply axR hΓ | apply axG | apply ovX rfl | apply ovE rfl); (simp (disch := omega) only [go_sem, ↓reduceIte, dk] <;> with_reducible rfl); exact trivial) | rfl))
    exact retl_x (r := .tup []) (os := soO m) rfl rfl (Weak.of (by simp [soO]) ⟨rfl, trivial⟩ (by simp [TabSub, soO, enumO, look, Obj.refsOK, refsOKs, AV.refsOK]) rfl) ⟨rfl, m, rfl, hp, hsm⟩
noncomputable def g97 := f97_ex.choose
theorem f97_ok : LocOK Try.prog 97 g97 := f97_ex.choose_spec.1
end Go.Ab
namespace Go.Ab
open Go Go.RowKit Go.Proofs
set_option maxRecDepth 100000
set_option maxHeartbeats 40000000
def b8 (n : Nat) : Int := [0, 1, 2, 2, 3, 3, 3, 3, 4, 4, 4, 4, 4].getD n 0
noncomputable def g106 : List D → Option D := encSpec (fun n : Nat => [.int .u64 n]) (fun n => n ≤ 12) (fun n => i64 (b8 n))
theorem g106_eq {n : Nat} (h : n ≤ 12) : g106 [.int .u64 n] = some (.int .i64 (b8 n)) := encSpec_eq (x := n) h fun y hy => by
  simp only [List.cons.injEq, D.int.injEq, and_true, true_and] at hy
  have : y = n := by exact_mod_cast hy
  rw [this]
theorem f106_ok : PureOK Try.prog 106 true g106 := by
  have hΓ := Γ0_ok
  refine pure_enc (n := 25) (rs := [.tmp 2]) Try.func106 (by kernel_rfl) rfl (by kernel_rfl) (by kernel_rfl) ?_
  intro n hn
  refine ⟨fun _ => .int _ _, fun k hz0 => ?_⟩
  have hw : IntKind.wrap .u8 (n : Int) = n := by show (n : Int) % 256 = n; omega
  rw [start_frame (by simp)]; simp only [enumV, go_sem, emptyH]
  repeat (first
    | (apply axJ; (focus ((with_reducible constructor) <;> rfl)))
    | (apply awT mixedOK hΓ (by kernel_rfl); (simp (disch := omega) only [go_sem, ↓reduceIte, dk, hw] <;> with_reducible rfl))
    | ((first | apply awR hΓ | apply awG | apply awH mixedOK hΓ rfl (by kernel_rfl) | apply ovE rfl); (simp (disch := omega) only [go_sem, ↓reduceIte, dk, hw] <;> with_reducible rfl); exact trivial)
    | rfl)
  (rcases (show n = 0 ∨ n = 1 ∨ n = 2 ∨ n = 3 ∨ n = 4 ∨ n = 5 ∨ n = 6 ∨ n = 7 ∨ n = 8 ∨ n = 9 ∨ n = 10 ∨ n = 11 ∨ n = 12 by omega) with rfl | rfl | rfl | rfl | rfl | rfl | rfl | rfl | rfl | rfl | rfl | rfl | rfl) <;> repeat (first
             | (apply axJ; (focus ((with_reducible constructor) <;> rfl)))
             | (apply awT mixedOK hΓ (by kernel_rfl); (simp (disch := omega) only [go_sem, ↓reduceIte, dk, hw, List.append_eq, List.getElem?_append, List.length_append, List.length_cons, List.length_nil, List.getElem?_cons_succ, List.getElem?_cons_zero] <;> with_reducible rfl))
             | ((first | apply awR hΓ | apply awG | apply awH mixedOK hΓ rfl (by kernel_rfl) | apply ovE rfl); (simp (disch := omega) only [go_sem, ↓reduceIte, dk, hw, List.append_eq, List.getElem?_append, List.length_append, List.length_cons, List.length_nil, List.getElem?_cons_succ, List.getElem?_cons_zero] <;> with_reducible rfl); exact trivial)
             | rfl)
noncomputable def Γ79 : FuncId → Option CSpec := fun f => if f = 106 then some (.pure true (g106)) else none
theorem Γ79_ok : ∀ f s, Γ79 f = some s → SpecOK Try.prog f s := by
  intro f s h
  unfold Γ79 at h
  split at h
  · rename_i hf; cases h; subst hf; exact f106_ok
  · cases h
theorem f79_ok : PureOK Try.prog 79 true g106 := by
  have hΓ := Γ79_ok
  refine pure_enc (n := 8) (rs := [.tmp 2]) Try.func79 (by kernel_rfl) rfl (by kernel_rfl) (by kernel_rfl) ?_
  intro n hn
  refine ⟨fun _ => .int _ _, fun k hz0 => ?_⟩
  have e := g106_eq hn
  generalize b8 n = m at *
  rw [start_frame (by simp)]; simp only [enumV, go_sem, emptyH]
  repeat (first
    | (apply axJ; (focus ((with_reducible constructor) <;> rfl)))
    | (apply awT mixedOK hΓ (by kernel_rfl); (simp (disch := omega) only [go_sem, ↓reduceIte, dk, Γ79, e] <;> with_reducible rfl))
    | ((first | apply awR hΓ | apply awG | apply awH mixedOK hΓ rfl (by kernel_rfl) | apply ovE rfl); (simp (disch := omega) only [go_sem, ↓reduceIte, dk, Γ79, e] <;> with_reducible rfl); exact trivial)
    | rfl)
end Go.Ab
namespace Go.Ab
open Go Go.RowKit Go.Proofs
set_option maxRecDepth 100000
set_option maxHeartbeats 40000000
theorem g97_eq {l : List Now} (h : SoOK l) : ∃ m : List Now, g97 [.row 0 l.length, .data (.int .i64 0), .data (.int .i64 l.length), .data (.clo 42 [])] [.row 39 3 (l.map eN)] = some (.tup [], [.row 39 3 (m.map eN)]) ∧ m.Perm l ∧ Srt m := by
  obtain ⟨r, os, ⟨rfl, m, rfl, h2⟩, h3⟩ := f97_ex.choose_spec.2 l h
  exact ⟨m, h3, h2⟩
noncomputable def Γ78 : FuncId → Option CSpec := fun f => if f = 97 then some (.loc g97) else none
theorem Γ78_ok : ∀ f s, Γ78 f = some s → SpecOK Try.prog f s := by
  intro f s h
  unfold Γ78 at h
  split at h
  · rename_i hf; cases h; subst hf; exact f97_ok
  · cases h
theorem f78_ex : ∃ g, LocOK Try.prog 78 g ∧ ∀ x : List Now × Int, SoOK x.1 → ∃ r os, SoG x.1 r os ∧ g [.row 0 x.1.length, .data (i64 0), .data (i64 x.1.length), .data (i64 x.2), .data (.clo 42 [])] (soO x.1) = some (r, os) := by
  have hΓ := Γ78_ok
  refine loc_ex (enc := fun x : List Now × Int => [.row 0 x.1.length, .data (i64 0), .data (i64 x.1.length), .data (i64 x.2), .data (.clo 42 [])]) (eno := fun x => soO x.1) (dom := fun x => SoOK x.1) (good := fun x => SoG x.1) (n := 148) (rs := []) Try.func78 (by kernel_rfl) rfl (by kernel_rfl) (by kernel_rfl) (fun x y h h2 => by
    simp only [List.cons.injEq, AV.data.injEq, D.int.injEq, true_and, and_true] at h
    exact Prod.ext (so_inj _ _ h2) h.2.2) ?_
  rintro ⟨l, lim⟩ hz
  dsimp only at hz ⊢
  obtain ⟨m, e97, hp, hs⟩ := g97_eq hz
  have hn := hz.n
  have hcall : ∀ k n, callLoc k ⟨[(0, .row 39 3 (l.map eN))], n⟩ g97 [.row 0 l.length, .data (.int .i64 0), .data (.int .i64 l.length), .data (.clo 42 [])] = some (.tup [], ⟨[(0, .row 39 3 (m.map eN))], k⟩) := fun k n => (callLoc_of (fp := [0]) rfl rfl rfl e97 (Nat.le_refl _)).trans rfl
  have hfin : ∀ sl n e, e = .ret ∨ e = .normal → RetLX Try.prog [] 1 (SoG l) e sl ⟨[(0, .row 39 3 (m.map eN))], n⟩ := fun sl n e he => retl_x (r := .tup []) (os := soO m) (by rcases he with rfl | rfl <;> rfl) rfl (Weak.of (by simp [soO]) ⟨rfl, trivial⟩ (by simp [TabSub, soO, enumO, look, Obj.refsOK, refsOKs, AV.refsOK]) rfl) ⟨rfl, m, rfl, hp, hs⟩
  unfold soO
  rw [start_frameA (by simp)]; simp only [enumA, enumO, List.length_cons, List.length_nil, Nat.reduceAdd, go_sem]
  (repeat (first | (refine axA ?_; first | (apply axR hΓ; (simp (disch := omega) only [go_sem, ↓reduceIte, dk] <;> with_reducible rfl); exact trivial) | refine axA ?_ | refine axB ?_) | refine axB ?_ | (apply axK; (focus ((with_reducible constructor) <;> rfl))) | ((first | apply axR hΓ | apply axG | apply ovX rfl | apply ovE rfl); (simp (disch := omega) only [go_sem, ↓reduceIte, dk] <;> with_reducible rfl); exact trivial) | rfl))
  refine axp_loop_at (X := Unit) (fun _ => (frame 148 [(0, .row 0 l.length), (1, .data (i64 0)), (2, .data (i64 l.length)), (3, .data (i64 lim)), (4, .data (.clo 42 []))])) (fun _ => [(0, .row 39 3 (l.map eN))]) 1
    (fun _ => True) (fun _ => 0) () trivial (Weak.w) ?_
  rintro _ -
  have hsub : (l.length : Int) - 0 = l.length := by omega
  (repeat (first | (apply axJ; (focus ((with_reducible constructor) <;> rfl))) | ((first | apply axR hΓ | apply axG | apply ovX rfl | apply ovE rfl); (simp (disch := omega) only [go_sem, ↓reduceIte, dk, hsub, Γ78, hcall] <;> with_reducible rfl); exact trivial) | rfl))
  exact hfin _ _ _ (.inl rfl)
noncomputable def g78 := f78_ex.choose
theorem f78_ok : LocOK Try.prog 78 g78 := f78_ex.choose_spec.1
theorem g78_eq {l : List Now} (lim : Int) (h : SoOK l) : ∃ m : List Now, g78 [.row 0 l.length, .data (.int .i64 0), .data (.int .i64 l.length), .data (.int .i64 lim), .data (.clo 42 [])] [.row 39 3 (l.map eN)] = some (.tup [], [.row 39 3 (m.map eN)]) ∧ m.Perm l ∧ Srt m := by
  obtain ⟨r, os, ⟨rfl, m, rfl, h2⟩, h3⟩ := f78_ex.choose_spec.2 (l, lim) h
  exact ⟨m, h3, h2⟩
noncomputable def Γ55 : FuncId → Option CSpec := fun f => if f = 78 then some (.loc g78) else if f = 79 then some (.pure true g106) else none
theorem Γ55_ok : ∀ f s, Γ55 f = some s → SpecOK Try.prog f s := by
  intro f s h
  unfold Γ55 at h
  split at h
  · rename_i hf; cases h; subst hf; exact f78_ok
  split at h
  · rename_i hf; cases h; subst hf; exact f79_ok
  · cases h
theorem f55_ex : ∃ g, LocOK Try.prog 55 g ∧ ∀ l : List Now, SoOK l → ∃ r os, SoG l r os ∧ g [.row 0 l.length, .data (.clo 42 [])] (soO l) = some (r, os) := by
  have hΓ := Γ55_ok
  refine loc_ex (enc := fun l : List Now => [.row 0 l.length, .data (.clo 42 [])]) (eno := soO) (dom := SoOK) (good := SoG) (n := 14) (rs := []) Try.func55 (by kernel_rfl) rfl (by kernel_rfl) (by kernel_rfl) (fun x y _ h => so_inj x y h) ?_
  intro l hz
  have hn := hz.n
  have e106 := g106_eq hn
  generalize b8 l.length = lim at e106
  obtain ⟨m, e78, hp, hs⟩ := g78_eq lim hz
  have hw : IntKind.wrap .u64 (l.length : Int) = l.length := by show (l.length : Int) % 18446744073709551616 = _; omega
  have hcall : ∀ k n, callLoc k ⟨[(0, .row 39 3 (l.map eN))], n⟩ g78 [.row 0 l.length, .data (.int .i64 0), .data (.int .i64 l.length), .data (.int .i64 lim), .data (.clo 42 [])] = some (.tup [], ⟨[(0, .row 39 3 (m.map eN))], k⟩) := fun k n => (callLoc_of (fp := [0]) rfl rfl rfl e78 (Nat.le_refl _)).trans rfl
  have hfin : ∀ sl n e, e = .ret ∨ e = .normal → RetLX Try.prog [] 1 (SoG l) e sl ⟨[(0, .row 39 3 (m.map eN))], n⟩ := fun sl n e he => retl_x (r := .tup []) (os := soO m) (by rcases he with rfl | rfl <;> rfl) rfl (Weak.of (by simp [soO]) ⟨rfl, trivial⟩ (by simp [TabSub, soO, enumO, look, Obj.refsOK, refsOKs, AV.refsOK]) rfl) ⟨rfl, m, rfl, hp, hs⟩
  unfold soO
  rw [start_frameA (by simp)]; simp only [enumA, enumO, List.length_cons, List.length_nil, Nat.reduceAdd, go_sem]
  (repeat (first | (apply axJ; (focus ((with_reducible constructor) <;> rfl))) | ((first | apply axR hΓ | apply axG | apply ovX rfl | apply ovE rfl); (simp (disch := omega) only [go_sem, ↓reduceIte, dk, hw, Γ55, e106, hcall] <;> with_reducible rfl); exact trivial) | rfl))
  exact hfin _ _ _ (.inr rfl)
noncomputable def g55 := f55_ex.choose
theorem f55_ok : LocOK Try.prog 55 g55 := f55_ex.choose_spec.1
theorem g55_eq {l : List Now} (h : SoOK l) : ∃ m : List Now, g55 [.row 0 l.length, .data (.clo 42 [])] [.row 39 3 (l.map eN)] = some (.tup [], [.row 39 3 (m.map eN)]) ∧ m.Perm l ∧ Srt m := by
  obtain ⟨r, os, ⟨rfl, m, rfl, h2⟩, h3⟩ := f55_ex.choose_spec.2 l h
  exact ⟨m, h3, h2⟩
end Go.Ab
namespace Go.Ab
open Go Go.RowKit
section
variable {P : Program} {c : Ctx} {H : Heap} {θ : Nat → Value} {w : World} {sl : List AV} {a : Act} {o : Oper} {Γ : FuncId → Option CSpec}
theorem y_allocF (hs : St c H θ w sl a) {k : Nat} (hk : ¬ H.ref k) {e : TypeId} (ho : o.op = .alloc e) (hz : tzero P e = some .nilFunc) : Yields P c o a w sl H θ (.ptr k 0) (H.set k (.box [.junk])) := by
  have h := hs.add (w' := w.alloc (.cells #[.nilFunc] e)) (k := k) (x := .box [.junk]) (val := .pointer (some ⟨w.heap.size, 0, none⟩)) hk
    (fun b hb => Below.heap_alloc w _ b hb) (by simp) (fun b hb => by simp [blk] at hb; omega)
    (fun hvr => ⟨w.heap.size, e, #[.nilFunc], rfl, heap_alloc_new w _, rfl, .inl hs.sim.size, fun i hi u hu => by
      obtain rfl : i = 0 := by simpa using hi
      simp only [List.getElem?_toArray, List.getElem?_cons_zero, Option.some.injEq] at hu
      subst hu
      exact ⟨.junk _, rfl⟩⟩)
  refine .value ?_ (.ptr k 0 _ rfl (.inr (by rw [Heap.get_set, if_pos rfl]; rfl)) fun cs' hcs' => ⟨w.heap.size, by simp [updθ], rfl⟩) h.1 ⟨rfl, rfl, rfl, by simp, fun b hb _ => Below.heap_alloc w _ b (Nat.lt_of_lt_of_le hb hs.sim.size)⟩ h.2.2
  simp only [tzero, Option.bind_eq_some_iff] at hz
  obtain ⟨i, hi, hzz⟩ := hz
  simp [execOp, ho, Instr.alloc, zeroValue, typeInfo, hi, hzz, newVar, newRow, Value.cells]
theorem awp_regF {ops : Array Oper} {id n k1 m1 : Nat} {nst : Bool} (i : Nat) {e : TypeId} (hz : tzero P e = some .nilFunc) {sl sl1 : List AV} {tab tab1 : List (Nat × Obj)} {Q : Exit → List AV → Heap → Prop}
    (hΓ : ∀ f s, Γ f = some s → SpecOK P f s) (ho : ops.toList = ops.toList.take i ++ o :: ops.toList.drop (i + 1)) (hop : o.op = .alloc e) (hg : o.guard = none)
    (h1 : runTill P Γ nst ops n (ops.toList.take i) sl ⟨tab, n⟩ = some (k1, sl1, ⟨tab1, m1⟩))
    (hrest : ∃ sl' H', runOps P Γ nst ops (nextK k1 ⟨upd tab1 k1 (.box [.junk]), m1⟩) (ops.toList.drop (i + 1)) (putA sl1 o.dst (.ptr k1 0)) ⟨upd tab1 k1 (.box [.junk]), m1⟩ = some (sl', H') ∧ Q .normal sl' H') : awp P c (.region id ops false) Q sl ⟨tab, n⟩ := by
  intro θ w a hs
  refine wp_region_list ?_
  rw [ho]
  refine runTill_sound hΓ (ops.toList.take i) n k1 sl ⟨tab, n⟩ θ w a sl1 ⟨tab1, m1⟩ h1 hs.st hs.wf (Nat.le_refl _) fun a1 w1 θ1 hs1 hb1 hn1 hkk hk1 hl1 => ?_
  refine wpList_step fun K hK => ?_
  rw [if_pos (wanted_sound hs1 (b := true) (by unfold wantedA; rw [hg]))]
  have hfree : ¬ (⟨tab1, m1⟩ : Heap).ref k1 := fun h => by
    rcases h with h | h
    · exact absurd h (Nat.not_lt.2 hn1)
    · exact absurd (hb1 k1 h) (Nat.lt_irrefl _)
  refine y_allocF hs1 hfree hop hz K _ fun v w2 θ2 hv hs2 hk2 hl2 => hK _ _ ?_
  obtain ⟨sl', H', hrun, hQ⟩ := hrest
  have hkey := (KeyLe.set ⟨tab1, m1⟩ k1 (.box [.junk])).ok hb1
  refine runOps_sound hΓ _ _ _ _ θ2 w2 _ sl' H' hrun (hs2.putA hv _) hkey.2 (nextK_ge _ _) fun a' w' θ' hs' hb hn hk hl => ?_
  exact ⟨sl', _, θ', hQ, ⟨hs', hb, Nat.le_trans hs.base (by have := nextK_gt k1 ⟨upd tab1 k1 (.box [.junk]), m1⟩; show n ≤ _; omega)⟩, (hk1.trans hk2).trans hk, ((hl1.trans hl2).trans hl).evo hs.base⟩
end
end Go.Ab
