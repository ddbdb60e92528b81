/-
  One text of the proof (own work): contracts of functions of the program, by the abstract machine.
-/
import Derived.WalkKit
import Derived.RangeFuncBox
import Derived.Test.YtlfmbcjjojedgaaGreatDoorX19
import Derived.Test.YtlfmbcjjojedgaaGreatDoorX22
import Derived.Test.YtlfmbcjjojedgaaGreatDoorX23
set_option linter.unusedVariables false
set_option linter.unusedSimpArgs false
namespace Go.Ab
open Go Go.RowKit Go.Proofs Go.Shelf
set_option maxRecDepth 10000
set_option maxHeartbeats 8000000
theorem cut_split (c : UInt8) : ∀ s : Bs, (Lib.indexByte s c = -1 ∧ splitB c s = [s]) ∨ ∃ k : Nat, Lib.indexByte s c = (k : Int) ∧ k < s.length ∧ splitB c s = s.take k :: splitB c (s.drop (k + 1))
  | [] => .inl ⟨rfl, rfl⟩
  | b :: l => by
    rw [Lib.indexByte, splitB]
    by_cases hb : (b == c) = true
    · rw [if_pos hb, if_pos hb]
      exact .inr ⟨0, rfl, by simp, rfl⟩
    · rw [if_neg hb, if_neg hb]
      rcases cut_split c l with ⟨h1, h2⟩ | ⟨k, h1, h2, h3⟩
      · rw [h1, h2]
        exact .inl ⟨rfl, rfl⟩
      · rw [h1, h3]
        have hk : ((k : Int) == -1) = false := by rw [beq_eq_false_iff_ne]; omega
        rw [hk]
        exact .inr ⟨k + 1, rfl, by simp; omega, rfl⟩
noncomputable def g_idxS : List D → Option D := encSpec (fun x : List UInt8 × UInt8 => [.str x.1, .str [x.2]]) (fun x => x.1.length ≤ 1099511627776) (fun x => i64 (Lib.indexByte x.1 x.2))
theorem f_idxS_ok : PureOK Tryz.prog 104 true g_idxS := pure_calls Tryz.func104 (by kernel_rfl) (by kernel_rfl) (fun _ => ⟨rfl, rfl⟩) fun x hs w =>
  (Any.stringslite_Index_one lay219 ⟨x.1.toArray⟩ x.2 w).mono fun e w' h => ⟨by rw [h.1]; simp [D.val], h.2 ▸ Below.refl _ _⟩
theorem g_idxS_eq {s : List UInt8} {b : UInt8} (h : s.length ≤ 1099511627776) : g_idxS [.str s, .str [b]] = some (.int .i64 (Lib.indexByte s b)) := encSpec_eq (x := (s, b)) h fun y hy => by
  obtain ⟨y0, y1⟩ := y
  simp only [List.cons.injEq, and_true, D.str.injEq] at hy
  obtain ⟨rfl, rfl⟩ := hy
  rfl
def cutB (c : UInt8) (s : Bs) : Bs × Bs × Bool := if 0 ≤ Lib.indexByte s c then (s.take (Lib.indexByte s c).toNat, s.drop ((Lib.indexByte s c).toNat + 1), true) else (s, [], false)
theorem cutB_split (c : UInt8) (s : Bs) : splitB c s = (cutB c s).1 :: (if (cutB c s).2.2 then splitB c (cutB c s).2.1 else []) ∧ (cutB c s).2.1.length ≤ s.length ∧ (cutB c s).1.length ≤ s.length := by
  unfold cutB
  rcases cut_split c s with ⟨h1, h2⟩ | ⟨k, h1, h2, h3⟩
  · rw [h1, h2, if_neg (by decide)]
    exact ⟨rfl, Nat.zero_le _, Nat.le_refl _⟩
  · rw [h1, h3, if_pos (by omega)]
    exact ⟨rfl, by simp, by simp; omega⟩
noncomputable def g_cutL : List D → Option D := encSpec (fun x : Bs × UInt8 => [.str x.1, .str [x.2]]) (fun x : Bs × UInt8 => x.1.length ≤ 1099511627776) (fun x : Bs × UInt8 => .tup [.str (cutB x.2 x.1).1, .str (cutB x.2 x.1).2.1, .bool (cutB x.2 x.1).2.2])
theorem g_cutL_eq {s : Bs} {c : UInt8} (hd : s.length ≤ 1099511627776) : g_cutL [.str s, .str [c]] = some (.tup [.str (cutB c s).1, .str (cutB c s).2.1, .bool (cutB c s).2.2]) := encSpec_eq (x := (s, c)) hd fun y hy => by
    obtain ⟨y0, y1⟩ := y; simp only [List.cons.injEq, and_true, true_and, D.str.injEq, D.int.injEq, D.list.injEq, D.bool.injEq, D.agg.injEq, D.clo.injEq, Int.natCast_inj, inj_ie] at hy
    (try obtain ⟨rfl, rfl⟩ := hy)
    (try subst_vars)
    rfl
theorem f_cutL_ok : PureOK Tryz.prog 108 true g_cutL := by
  have hΓ := Γp f_idxS_ok (Γn)
  refine pure_enc (n := 23) (rs := [.tmp 4, .tmp 5, .tmp 6]) Tryz.func108 (by kernel_rfl) rfl (by kernel_rfl) (by kernel_rfl) ?_
  rintro ⟨s, c⟩ hd
  (try dsimp only at hd ⊢)
  refine ⟨fun _ => by (refine .tup _ (fun d hd => ?_); simp only [List.mem_cons, List.not_mem_nil, or_false] at hd; repeat (first | exact .int _ _ | exact .bool _ | exact .str _ | (rcases hd with rfl | hd) | subst hd | (refine .agg _ (fun d hd => ?_); simp only [List.mem_cons, List.not_mem_nil, or_false] at hd))), fun k hz0 => ?_⟩
  have e1 := g_idxS_eq (s := s) (b := c) hd
  unfold cutB
  rw [start_frame (by simp)]; simp only [enumV, go_sem, emptyH]
  rcases cut_split c s with ⟨h1, h2⟩ | ⟨k, h1, h2, h3⟩
  · rw [h1] at e1
    rw [h1, if_neg (by decide)]
    repeat (first
      | (apply axJ; (focus ((with_reducible constructor) <;> rfl)))
      | (apply awT mixedOK hΓ (by kernel_rfl); (simp (disch := omega) only [go_sem, ↓reduceIte, dk, ↓lk, Int.reduceBEq, Int.reduceBNe, Bool.true_bne, Bool.false_bne, Bool.not_true, Bool.not_false, e1] <;> with_reducible rfl))
      | ((first | apply awR hΓ | apply awG | apply awH mixedOK hΓ rfl (by kernel_rfl) | apply ovE rfl); (simp (disch := omega) only [go_sem, ↓reduceIte, dk, ↓lk, Int.reduceBEq, Int.reduceBNe, Bool.true_bne, Bool.false_bne, Bool.not_true, Bool.not_false, e1] <;> with_reducible rfl); exact trivial)
      | rfl)
    try rfl
  · rw [h1] at e1
    rw [h1, if_pos (by omega)]
    have hk1 : (k : Int) + 1 = ((k + 1 : Nat) : Int) := by omega
    have hk0 : decide ((k : Int) ≥ 0) = true := decide_eq_true (by omega)
    have c1 := cutS_to (k := .i64) (s := s) (b := k) (by omega)
    have c2 := cutS_from (k := .i64) (s := s) (a := k + 1) (by omega)
    repeat (first
      | (apply axJ; (focus ((with_reducible constructor) <;> rfl)))
      | (apply awT mixedOK hΓ (by kernel_rfl); (simp (disch := omega) only [go_sem, ↓reduceIte, dk, ↓lk, Int.reduceBEq, Int.reduceBNe, Bool.true_bne, Bool.false_bne, Bool.not_true, Bool.not_false, e1, hk0] <;> with_reducible rfl))
      | ((first | apply awR hΓ | apply awG | apply awH mixedOK hΓ rfl (by kernel_rfl) | apply ovE rfl); (simp (disch := omega) only [go_sem, ↓reduceIte, dk, ↓lk, Int.reduceBEq, Int.reduceBNe, Bool.true_bne, Bool.false_bne, Bool.not_true, Bool.not_false, e1, hk0] <;> with_reducible rfl); exact trivial)
      | rfl)
    have t1 : ((k : Int) + ((1 : Nat) : Int)).toNat = k + 1 := by omega
    have t2 : (s.drop (k + 1)).take (s.length - (k + 1)) = s.drop (k + 1) := List.take_of_length_le (by simp)
    simp only [t1, t2, Nat.sub_zero, Int.toNat_natCast]
noncomputable def g_cutS1 : List D → Option D := encSpec (fun x : Bs × UInt8 => [.str x.1, .str [x.2]]) (fun x : Bs × UInt8 => x.1.length ≤ 1099511627776) (fun x : Bs × UInt8 => .tup [.str (cutB x.2 x.1).1, .str (cutB x.2 x.1).2.1, .bool (cutB x.2 x.1).2.2])
theorem g_cutS1_eq {s : Bs} {c : UInt8} (hd : s.length ≤ 1099511627776) : g_cutS1 [.str s, .str [c]] = some (.tup [.str (cutB c s).1, .str (cutB c s).2.1, .bool (cutB c s).2.2]) := encSpec_eq (x := (s, c)) hd fun y hy => by
    obtain ⟨y0, y1⟩ := y; simp only [List.cons.injEq, and_true, true_and, D.str.injEq, D.int.injEq, D.list.injEq, D.bool.injEq, D.agg.injEq, D.clo.injEq, Int.natCast_inj, inj_ie] at hy
    (try obtain ⟨rfl, rfl⟩ := hy)
    (try subst_vars)
    rfl
theorem f_cutS1_ok : PureOK Tryz.prog 82 true g_cutS1 := by
  have hΓ := Γp f_cutL_ok (Γn)
  refine pure_enc (n := 13) (rs := [.tmp 4, .tmp 5, .tmp 6]) Tryz.func82 (by kernel_rfl) rfl (by kernel_rfl) (by kernel_rfl) ?_
  rintro ⟨s, c⟩ hd
  (try dsimp only at hd ⊢)
  refine ⟨fun _ => by (refine .tup _ (fun d hd => ?_); simp only [List.mem_cons, List.not_mem_nil, or_false] at hd; repeat (first | exact .int _ _ | exact .bool _ | exact .str _ | (rcases hd with rfl | hd) | subst hd | (refine .agg _ (fun d hd => ?_); simp only [List.mem_cons, List.not_mem_nil, or_false] at hd))), fun k hz0 => ?_⟩
  have e1 := g_cutL_eq (s := s) (c := c) hd
  generalize cutB c s = p at *
  obtain ⟨a, b, d⟩ := p
  replace e1 : g_cutL [.str s, .str [c]] = some (.tup [.str a, .str b, .bool d]) := e1
  rw [start_frame (by simp)]; simp only [enumV, go_sem, emptyH]
  repeat (first
    | (apply axJ; (focus ((with_reducible constructor) <;> rfl)))
    | (apply awT mixedOK hΓ (by kernel_rfl); (simp (disch := omega) only [go_sem, ↓reduceIte, dk, ↓lk, e1] <;> with_reducible rfl))
    | ((first | apply awR hΓ | apply awG | apply awH mixedOK hΓ rfl (by kernel_rfl) | apply ovE rfl); (simp (disch := omega) only [go_sem, ↓reduceIte, dk, ↓lk, e1] <;> with_reducible rfl); exact trivial)
    | rfl)
  try rfl
theorem take_pre (s p : Bs) : (s.take p.length == p) = p.isPrefixOf s := by
  rw [Bool.eq_iff_iff, beq_iff_eq, List.isPrefixOf_iff_prefix, List.prefix_iff_eq_take]
  exact eq_comm
theorem pre_len {s p : Bs} (h : p.isPrefixOf s = true) : p.length ≤ s.length := (List.isPrefixOf_iff_prefix.1 h).length_le
noncomputable def g_hasPx : List D → Option D := encSpec (fun x : Bs × Bs => [.str x.1, .str x.2]) (fun x : Bs × Bs => x.1.length ≤ 1099511627776 ∧ x.2.length ≤ 1099511627776) (fun x : Bs × Bs => .bool (x.2.isPrefixOf x.1))
theorem g_hasPx_eq {s : Bs} {p : Bs} (hd : s.length ≤ 1099511627776 ∧ p.length ≤ 1099511627776) : g_hasPx [.str s, .str p] = some (.bool (p.isPrefixOf s)) := encSpec_eq (x := (s, p)) hd fun y hy => by
    obtain ⟨y0, y1⟩ := y; simp only [List.cons.injEq, and_true, true_and, D.str.injEq, D.int.injEq, D.list.injEq, D.bool.injEq, D.agg.injEq, D.clo.injEq, Int.natCast_inj, inj_ie] at hy
    (try obtain ⟨rfl, rfl⟩ := hy)
    (try subst_vars)
    rfl
theorem f_hasPx_ok : PureOK Tryz.prog 146 true g_hasPx := by
  have hΓ := Γ0_ok
  refine pure_enc (n := 18) (rs := [.tmp 4]) Tryz.func146 (by kernel_rfl) rfl (by kernel_rfl) (by kernel_rfl) ?_
  rintro ⟨s, p⟩ hd
  (try dsimp only at hd ⊢)
  refine ⟨fun _ => by (repeat (first | exact .int _ _ | exact .bool _ | exact .str _ | (refine .tup _ (fun d hd => ?_); simp only [List.mem_cons, List.not_mem_nil, or_false] at hd; rcases hd with rfl | hd))), fun k hz0 => ?_⟩
  obtain ⟨h1, h2⟩ := hd
  rw [start_frame (by simp)]; simp only [enumV, go_sem, emptyH]
  by_cases hl : p.length ≤ s.length
  · have hp : decide ((s.length : Int) ≥ p.length) = true := decide_eq_true (by omega)
    have ht := take_pre s p
    have c1 := cutS_to (k := .i64) (s := s) (b := p.length) hl
    generalize p.isPrefixOf s = q at *
    repeat (first
      | (apply axJ; (focus ((with_reducible constructor) <;> rfl)))
      | (apply awT mixedOK hΓ (by kernel_rfl); (simp (disch := omega) only [go_sem, ↓reduceIte, dk, ↓lk, Int.reduceBEq, Int.reduceBNe, Bool.true_bne, Bool.false_bne, Bool.not_true, Bool.not_false, hp, ht, c1, Nat.sub_zero, List.drop_zero] <;> with_reducible rfl))
      | ((first | apply awR hΓ | apply awG | apply awH mixedOK hΓ rfl (by kernel_rfl) | apply ovE rfl); (simp (disch := omega) only [go_sem, ↓reduceIte, dk, ↓lk, Int.reduceBEq, Int.reduceBNe, Bool.true_bne, Bool.false_bne, Bool.not_true, Bool.not_false, hp, ht, c1, Nat.sub_zero, List.drop_zero] <;> with_reducible rfl); exact trivial)
      | rfl)
    try rfl
  · have hp : decide ((s.length : Int) ≥ p.length) = false := decide_eq_false (by omega)
    have hq : p.isPrefixOf s = false := by
      cases h : p.isPrefixOf s with
      | false => rfl
      | true => exact absurd (pre_len h) hl
    rw [hq]
    repeat (first
      | (apply axJ; (focus ((with_reducible constructor) <;> rfl)))
      | (apply awT mixedOK hΓ (by kernel_rfl); (simp (disch := omega) only [go_sem, ↓reduceIte, dk, ↓lk, Int.reduceBEq, Int.reduceBNe, Bool.true_bne, Bool.false_bne, Bool.not_true, Bool.not_false, hp] <;> with_reducible rfl))
      | ((first | apply awR hΓ | apply awG | apply awH mixedOK hΓ rfl (by kernel_rfl) | apply ovE rfl); (simp (disch := omega) only [go_sem, ↓reduceIte, dk, ↓lk, Int.reduceBEq, Int.reduceBNe, Bool.true_bne, Bool.false_bne, Bool.not_true, Bool.not_false, hp] <;> with_reducible rfl); exact trivial)
      | rfl)
    try rfl
def cutPf (s p : Bs) : Bs × Bool := if p.isPrefixOf s then (s.drop p.length, true) else (s, false)
noncomputable def g_cutPx : List D → Option D := encSpec (fun x : Bs × Bs => [.str x.1, .str x.2]) (fun x : Bs × Bs => x.1.length ≤ 1099511627776 ∧ x.2.length ≤ 1099511627776) (fun x : Bs × Bs => .tup [.str (cutPf x.1 x.2).1, .bool (cutPf x.1 x.2).2])
theorem g_cutPx_eq {s : Bs} {p : Bs} (hd : s.length ≤ 1099511627776 ∧ p.length ≤ 1099511627776) : g_cutPx [.str s, .str p] = some (.tup [.str (cutPf s p).1, .bool (cutPf s p).2]) := encSpec_eq (x := (s, p)) hd fun y hy => by
    obtain ⟨y0, y1⟩ := y; simp only [List.cons.injEq, and_true, true_and, D.str.injEq, D.int.injEq, D.list.injEq, D.bool.injEq, D.agg.injEq, D.clo.injEq, Int.natCast_inj, inj_ie] at hy
    (try obtain ⟨rfl, rfl⟩ := hy)
    (try subst_vars)
    rfl
theorem f_cutPx_ok : PureOK Tryz.prog 113 true g_cutPx := by
  have hΓ := Γp f_hasPx_ok (Γn)
  refine pure_enc (n := 15) (rs := [.tmp 4, .tmp 5]) Tryz.func113 (by kernel_rfl) rfl (by kernel_rfl) (by kernel_rfl) ?_
  rintro ⟨s, p⟩ hd
  (try dsimp only at hd ⊢)
  refine ⟨fun _ => by (refine .tup _ (fun d hd => ?_); simp only [List.mem_cons, List.not_mem_nil, or_false] at hd; repeat (first | exact .int _ _ | exact .bool _ | exact .str _ | (rcases hd with rfl | hd) | subst hd | (refine .agg _ (fun d hd => ?_); simp only [List.mem_cons, List.not_mem_nil, or_false] at hd))), fun k hz0 => ?_⟩
  have e1 := g_hasPx_eq (s := s) (p := p) hd
  obtain ⟨h1, h2⟩ := hd
  unfold cutPf
  rw [start_frame (by simp)]; simp only [enumV, go_sem, emptyH]
  cases hq : p.isPrefixOf s
  · rw [hq] at e1
    repeat (first
      | (apply axJ; (focus ((with_reducible constructor) <;> rfl)))
      | (apply awT mixedOK hΓ (by kernel_rfl); (simp (disch := omega) only [go_sem, ↓reduceIte, dk, ↓lk, Int.reduceBEq, Int.reduceBNe, Bool.true_bne, Bool.false_bne, Bool.not_true, Bool.not_false, e1] <;> with_reducible rfl))
      | ((first | apply awR hΓ | apply awG | apply awH mixedOK hΓ rfl (by kernel_rfl) | apply ovE rfl); (simp (disch := omega) only [go_sem, ↓reduceIte, dk, ↓lk, Int.reduceBEq, Int.reduceBNe, Bool.true_bne, Bool.false_bne, Bool.not_true, Bool.not_false, e1] <;> with_reducible rfl); exact trivial)
      | rfl)
    try rfl
  · rw [hq] at e1
    have hl := pre_len hq
    have t2 : (s.drop p.length).take (s.length - p.length) = s.drop p.length := List.take_of_length_le (by simp)
    repeat (first
      | (apply axJ; (focus ((with_reducible constructor) <;> rfl)))
      | (apply awT mixedOK hΓ (by kernel_rfl); (simp (disch := omega) only [go_sem, ↓reduceIte, dk, ↓lk, Int.reduceBEq, Int.reduceBNe, Bool.true_bne, Bool.false_bne, Bool.not_true, Bool.not_false, e1] <;> with_reducible rfl))
      | ((first | apply awR hΓ | apply awG | apply awH mixedOK hΓ rfl (by kernel_rfl) | apply ovE rfl); (simp (disch := omega) only [go_sem, ↓reduceIte, dk, ↓lk, Int.reduceBEq, Int.reduceBNe, Bool.true_bne, Bool.false_bne, Bool.not_true, Bool.not_false, e1] <;> with_reducible rfl); exact trivial)
      | rfl)
    rw [t2]
    try rfl
noncomputable def g_cutPs : List D → Option D := encSpec (fun x : Bs × Bs => [.str x.1, .str x.2]) (fun x : Bs × Bs => x.1.length ≤ 1099511627776 ∧ x.2.length ≤ 1099511627776) (fun x : Bs × Bs => .tup [.str (cutPf x.1 x.2).1, .bool (cutPf x.1 x.2).2])
theorem g_cutPs_eq {s : Bs} {p : Bs} (hd : s.length ≤ 1099511627776 ∧ p.length ≤ 1099511627776) : g_cutPs [.str s, .str p] = some (.tup [.str (cutPf s p).1, .bool (cutPf s p).2]) := encSpec_eq (x := (s, p)) hd fun y hy => by
    obtain ⟨y0, y1⟩ := y; simp only [List.cons.injEq, and_true, true_and, D.str.injEq, D.int.injEq, D.list.injEq, D.bool.injEq, D.agg.injEq, D.clo.injEq, Int.natCast_inj, inj_ie] at hy
    (try obtain ⟨rfl, rfl⟩ := hy)
    (try subst_vars)
    rfl
theorem f_cutPs_ok : PureOK Tryz.prog 84 true g_cutPs := by
  have hΓ := Γp f_cutPx_ok (Γn)
  refine pure_enc (n := 11) (rs := [.tmp 4, .tmp 5]) Tryz.func84 (by kernel_rfl) rfl (by kernel_rfl) (by kernel_rfl) ?_
  rintro ⟨s, p⟩ hd
  (try dsimp only at hd ⊢)
  refine ⟨fun _ => by (refine .tup _ (fun d hd => ?_); simp only [List.mem_cons, List.not_mem_nil, or_false] at hd; repeat (first | exact .int _ _ | exact .bool _ | exact .str _ | (rcases hd with rfl | hd) | subst hd | (refine .agg _ (fun d hd => ?_); simp only [List.mem_cons, List.not_mem_nil, or_false] at hd))), fun k hz0 => ?_⟩
  have e1 := g_cutPx_eq (s := s) (p := p) hd
  generalize cutPf s p = q at *
  obtain ⟨a, b⟩ := q
  replace e1 : g_cutPx [.str s, .str p] = some (.tup [.str a, .bool b]) := e1
  rw [start_frame (by simp)]; simp only [enumV, go_sem, emptyH]
  repeat (first
    | (apply axJ; (focus ((with_reducible constructor) <;> rfl)))
    | (apply awT mixedOK hΓ (by kernel_rfl); (simp (disch := omega) only [go_sem, ↓reduceIte, dk, ↓lk, e1] <;> with_reducible rfl))
    | ((first | apply awR hΓ | apply awG | apply awH mixedOK hΓ rfl (by kernel_rfl) | apply ovE rfl); (simp (disch := omega) only [go_sem, ↓reduceIte, dk, ↓lk, e1] <;> with_reducible rfl); exact trivial)
    | rfl)
  try rfl
def asciiS (c : Bs) : Prop := ∀ b ∈ c, b.toNat < 128
noncomputable def g_trimC : List D → Option D := encSpec (fun x : Bs × Bs => [.str x.1, .str x.2]) (fun x => x.1.length ≤ 1099511627776 ∧ x.2.length ≤ 1000 ∧ asciiS x.2) (fun x => .str (Lib.trimS x.1 x.2))
theorem f_trimC_ok : PureOK Tryz.prog 85 true g_trimC := pure_calls Tryz.func85 (by kernel_rfl) (by kernel_rfl) (fun _ => ⟨rfl, rfl⟩) fun x hs w =>
  (Any.strings_Trim_ascii lay160 (by intro w; kernel_rfl) (by kernel_rfl) ⟨x.1.toArray⟩ ⟨x.2.toArray⟩ w (by have := hs.1; simp [ByteArray.size]; omega) (by have := hs.2.1; simp [ByteArray.size]; omega) (fun j b hb => hs.2.2 b (List.mem_of_getElem? hb))).mono fun e w' h => ⟨h.1, h.2⟩
theorem g_trimC_eq {s c : Bs} (h : s.length ≤ 1099511627776 ∧ c.length ≤ 1000 ∧ asciiS c) : g_trimC [.str s, .str c] = some (.str (Lib.trimS s c)) := encSpec_eq (x := (s, c)) h fun y hy => by
  obtain ⟨y0, y1⟩ := y
  simp only [List.cons.injEq, and_true, D.str.injEq] at hy
  obtain ⟨rfl, rfl⟩ := hy
  rfl
noncomputable def g_trimLC : List D → Option D := encSpec (fun x : Bs × Bs => [.str x.1, .str x.2]) (fun x => x.1.length ≤ 1099511627776 ∧ x.2.length ≤ 1000 ∧ asciiS x.2) (fun x => .str (Lib.trimLeftS x.1 x.2))
theorem f_trimLC_ok : PureOK Tryz.prog 83 true g_trimLC := pure_calls Tryz.func83 (by kernel_rfl) (by kernel_rfl) (fun _ => ⟨rfl, rfl⟩) fun x hs w =>
  (Any.strings_TrimLeft_ascii lay161 (by intro w; kernel_rfl) (by kernel_rfl) ⟨x.1.toArray⟩ ⟨x.2.toArray⟩ w (by have := hs.2.1; simp [ByteArray.size]; omega) (fun j b hb => hs.2.2 b (List.mem_of_getElem? hb))).mono fun e w' h => ⟨h.1, h.2⟩
theorem g_trimLC_eq {s c : Bs} (h : s.length ≤ 1099511627776 ∧ c.length ≤ 1000 ∧ asciiS c) : g_trimLC [.str s, .str c] = some (.str (Lib.trimLeftS s c)) := encSpec_eq (x := (s, c)) h fun y hy => by
  obtain ⟨y0, y1⟩ := y
  simp only [List.cons.injEq, and_true, D.str.injEq] at hy
  obtain ⟨rfl, rfl⟩ := hy
  rfl
end Go.Ab
namespace Go.Ab
open Go Go.RowKit Go.Proofs Go.Shelf
set_option maxRecDepth 10000
set_option maxHeartbeats 8000000
theorem any_nx {α : Type} {p : α → Bool} {l : List α} {i : Nat} (hi : i < l.length) (hb : (l.take i).any p = false) (hp : p l[i] = false) : (l.take (i + 1)).any p = false := by
  rw [List.take_add_one, List.any_append, hb, List.getElem?_eq_getElem hi]
  simp [hp]
abbrev eB (b : UInt8) : D := u8 b.toNat
theorem bytesD_eB (s : Bs) : bytesD s = s.map eB := rfl
theorem eB_inj (a b : UInt8) (h : eB a = eB b) : a = b := by
  simp only [eB, u8, D.int.injEq, true_and] at h
  exact UInt8.toNat_inj.1 (by omega)
noncomputable def g_isTC : List D → Option D := encSpec (fun x : UInt8 => [u8 x.toNat]) (fun x : UInt8 => True) (fun x : UInt8 => .bool (!okT x))
theorem g_isTC_eq {b : UInt8} (hd : True) : g_isTC [.int .u8 b.toNat] = some (.bool (!okT b)) := encSpec_eq (x := b) hd fun y hy => by
    simp only [List.cons.injEq, and_true, true_and, D.str.injEq, D.int.injEq, D.list.injEq, D.bool.injEq, D.agg.injEq, D.clo.injEq, Int.natCast_inj, inj_ie, UInt8.toNat_inj] at hy
    rw [hy]
theorem f_isTC_ok : PureOK Tryz.prog 100 true g_isTC := by
  have hΓ := Γ0_ok
  refine pure_enc (n := 9) (rs := [.tmp 2]) Tryz.func100 (by kernel_rfl) rfl (by kernel_rfl) (by kernel_rfl) ?_
  rintro b hd
  (try dsimp only at hd ⊢)
  refine ⟨fun _ => by (repeat (first | exact .int _ _ | exact .bool _ | exact .str _ | (refine .tup _ (fun d hd => ?_); simp only [List.mem_cons, List.not_mem_nil, or_false] at hd; rcases hd with rfl | hd))), fun k hz0 => ?_⟩
  have h1 : decide ((b.toNat : Int) < 32) = !decide (32 ≤ b.toNat) := by
    rw [Bool.eq_iff_iff]
    simp
    omega
  have h2 : decide ((b.toNat : Int) > 126) = !decide (b.toNat ≤ 126) := by
    rw [Bool.eq_iff_iff]
    simp
    omega
  unfold okT
  rw [start_frame (by simp)]; simp only [enumV, go_sem, emptyH]
  generalize decide (32 ≤ b.toNat) = c1 at *
  generalize decide (b.toNat ≤ 126) = c2 at *
  cases c1 <;> cases c2
  all_goals
    repeat (first
      | (apply axJ; (focus ((with_reducible constructor) <;> rfl)))
      | (apply awT mixedOK hΓ (by kernel_rfl); (simp (disch := omega) only [go_sem, ↓reduceIte, dk, ↓lk, Int.reduceBEq, Int.reduceBNe, Bool.true_bne, Bool.false_bne, Bool.not_true, Bool.not_false, h1, h2] <;> with_reducible rfl))
      | ((first | apply awR hΓ | apply awG | apply awH mixedOK hΓ rfl (by kernel_rfl) | apply ovE rfl); (simp (disch := omega) only [go_sem, ↓reduceIte, dk, ↓lk, Int.reduceBEq, Int.reduceBNe, Bool.true_bne, Bool.false_bne, Bool.not_true, Bool.not_false, h1, h2] <;> with_reducible rfl); exact trivial)
      | rfl)
    try rfl
theorem f_idxB_ok {dm : _ → Prop} {f : FuncId} {g : List D → Option D} {caps : List D} {p : _ → Bool} (hf : PureOK Tryz.prog f true g) (hp : ∀ x, dm x → g (eB x :: caps) = some (.bool (p x))) : PureOK Tryz.prog 136 true (gIdxD eB dm f caps p) := by
  have hΓ := Γc_ok hf
  refine pure_enc (n := 19) (rs := [.tmp 4]) Tryz.func136 (by kernel_rfl) rfl (by kernel_rfl) (by kernel_rfl) ?_
  rintro l ⟨hlen, hdm⟩
  refine ⟨fun _ => .int _ _, fun k hz0 => ?_⟩
  rw [start_frame (by simp)]; simp only [enumV, go_sem, emptyH]
  repeat (first
    | (apply axJ; (focus ((with_reducible constructor) <;> rfl)))
    | (apply awT mixedOK hΓ (by kernel_rfl); (simp (disch := omega) only [go_sem, ↓reduceIte, dk, ↓lk] <;> with_reducible rfl))
    | ((first | apply awR hΓ | apply awG | apply awH mixedOK hΓ rfl (by kernel_rfl) | apply ovE rfl); (simp (disch := omega) only [go_sem, ↓reduceIte, dk, ↓lk] <;> with_reducible rfl); exact trivial)
    | rfl)
  refine awp_loop_at (X := Nat) (fun i => (frame 19 [(0, .data (.list (l.map eB))), (1, .data (.clo f caps)), (7, .data (i64 l.length)), (8, .data (i64 i))])) (fun _ => []) 9
    (fun i => i ≤ l.length ∧ (l.take i).any p = false) (fun i => l.length - i) 0 ⟨Nat.zero_le _, rfl⟩ (Weak.w) ?_
  rintro i ⟨hi, hpre⟩
  by_cases hi' : i < l.length
  · have hp' := hp _ (hdm _ (List.getElem_mem hi'))
    have hat := fun h => idx_at (p := p) hi' h hpre
    have hnx := fun h => any_nx (p := p) hi' hpre h
    try simp only [go_sem] at hp'
    generalize hy : l[i] = y at *
    generalize p y = c at *
    cases c
    · repeat (first
      | (apply axJ; (focus ((with_reducible constructor) <;> rfl)))
      | (apply awT mixedOK hΓ (by kernel_rfl); (simp (disch := omega) only [go_sem, ↓reduceIte, dk, ↓lk, Γc, hp', hy, freeze_data] <;> with_reducible rfl))
      | ((first | apply awR hΓ | apply awG | apply awH mixedOK hΓ rfl (by kernel_rfl) | apply ovE rfl); (simp (disch := omega) only [go_sem, ↓reduceIte, dk, ↓lk, Γc, hp', hy, freeze_data] <;> with_reducible rfl); exact trivial)
      | rfl)
      exact ⟨i + 1, ⟨by omega, hnx rfl⟩, by omega, Weak.w⟩
    · rw [hat rfl]
      repeat (first
        | (apply axJ; (focus ((with_reducible constructor) <;> rfl)))
        | (apply awT mixedOK hΓ (by kernel_rfl); (simp (disch := omega) only [go_sem, ↓reduceIte, dk, ↓lk, Γc, hp', hy, freeze_data] <;> with_reducible rfl))
        | ((first | apply awR hΓ | apply awG | apply awH mixedOK hΓ rfl (by kernel_rfl) | apply ovE rfl); (simp (disch := omega) only [go_sem, ↓reduceIte, dk, ↓lk, Γc, hp', hy, freeze_data] <;> with_reducible rfl); exact trivial)
        | rfl)
      try rfl
  · have hi3 : i = l.length := by omega
    subst hi3
    rw [List.take_length] at hpre
    rw [idx_none hpre]
    repeat (first
      | (apply axJ; (focus ((with_reducible constructor) <;> rfl)))
      | (apply awT mixedOK hΓ (by kernel_rfl); (simp (disch := omega) only [go_sem, ↓reduceIte, dk, ↓lk] <;> with_reducible rfl))
      | ((first | apply awR hΓ | apply awG | apply awH mixedOK hΓ rfl (by kernel_rfl) | apply ovE rfl); (simp (disch := omega) only [go_sem, ↓reduceIte, dk, ↓lk] <;> with_reducible rfl); exact trivial)
      | rfl)
    try rfl
theorem f_anyB_ok {dm : _ → Prop} {f : FuncId} {g : List D → Option D} {caps : List D} {p : _ → Bool} (hf : PureOK Tryz.prog f true g) (hp : ∀ x, dm x → g (eB x :: caps) = some (.bool (p x))) : PureOK Tryz.prog 99 true (gAnyD eB dm f caps p) := by
  have hΓ := Γc_ok (f_idxB_ok (dm := dm) hf hp)
  refine pure_enc (n := 9) (rs := [.tmp 4]) Tryz.func99 (by kernel_rfl) rfl (by kernel_rfl) (by kernel_rfl) ?_
  rintro l ⟨hlen, hdm⟩
  refine ⟨fun _ => .bool _, fun k hz0 => ?_⟩
  have hi := gIdxD_eq (e := eB) (dm := dm) eB_inj (f := f) (caps := caps) (p := p) hlen hdm
  have hn := idx_nonneg p l
  generalize idx p l = n at *
  rw [← hn]
  rw [start_frame (by simp)]; simp only [enumV, go_sem, emptyH]
  generalize hc : decide (n ≥ 0) = c
  cases c
  · repeat (first
    | (apply axJ; (focus ((with_reducible constructor) <;> rfl)))
    | (apply awT mixedOK hΓ (by kernel_rfl); (simp (disch := omega) only [go_sem, ↓reduceIte, dk, ↓lk, Γc, hi, hc] <;> with_reducible rfl))
    | ((first | apply awR hΓ | apply awG | apply awH mixedOK hΓ rfl (by kernel_rfl) | apply ovE rfl); (simp (disch := omega) only [go_sem, ↓reduceIte, dk, ↓lk, Γc, hi, hc] <;> with_reducible rfl); exact trivial)
    | rfl)
    try rfl
  · repeat (first
    | (apply axJ; (focus ((with_reducible constructor) <;> rfl)))
    | (apply awT mixedOK hΓ (by kernel_rfl); (simp (disch := omega) only [go_sem, ↓reduceIte, dk, ↓lk, Γc, hi, hc] <;> with_reducible rfl))
    | ((first | apply awR hΓ | apply awG | apply awH mixedOK hΓ rfl (by kernel_rfl) | apply ovE rfl); (simp (disch := omega) only [go_sem, ↓reduceIte, dk, ↓lk, Γc, hi, hc] <;> with_reducible rfl); exact trivial)
    | rfl)
    try rfl
theorem f_anyT_ok : PureOK Tryz.prog 99 true (gAnyD eB (fun _ => True) 100 [] fun b => !okT b) := f_anyB_ok (dm := fun _ => True) f_isTC_ok fun x hx => g_isTC_eq hx
noncomputable def g_isText : List D → Option D := encSpec (fun x : Bs => [.str x]) (fun x : Bs => x.length ≤ 1099511627776) (fun x : Bs => .bool (isT x))
theorem g_isText_eq {s : Bs} (hd : s.length ≤ 1099511627776) : g_isText [.str s] = some (.bool (isT s)) := encSpec_eq (x := s) hd fun y hy => by
    simp only [List.cons.injEq, and_true, true_and, D.str.injEq, D.int.injEq, D.list.injEq, D.bool.injEq, D.agg.injEq, D.clo.injEq, Int.natCast_inj, inj_ie, UInt8.toNat_inj] at hy
    rw [hy]
theorem f_isText_ok : PureOK Tryz.prog 61 true g_isText := by
  have hΓ := Γp f_trimC_ok (Γp f_anyT_ok (Γn))
  refine pure_enc (n := 21) (rs := [.tmp 2]) Tryz.func61 (by kernel_rfl) rfl (by kernel_rfl) (by kernel_rfl) ?_
  rintro s hd
  (try dsimp only at hd ⊢)
  refine ⟨fun _ => by (repeat (first | exact .int _ _ | exact .bool _ | exact .str _ | (refine .tup _ (fun d hd => ?_); simp only [List.mem_cons, List.not_mem_nil, or_false] at hd; rcases hd with rfl | hd))), fun k hz0 => ?_⟩
  have e1 := g_trimC_eq (s := s) (c := [32, 42, 47]) ⟨hd, by simp, by unfold asciiS; decide⟩
  have e2 := gAnyD_eq (e := eB) (dm := fun _ => True) eB_inj (f := 100) (caps := []) (p := fun b => !okT b) (l := s) hd (fun _ _ => trivial)
  have h3 : (s.any fun b => !okT b) = !s.all okT := by
    rw [List.not_all_eq_any_not]
  rw [h3] at e2
  rw [← isT_prog]
  unfold isTP
  have h1 : decide ((s.length : Int) < 1) = !decide (1 ≤ s.length) := by
    by_cases h : 1 ≤ s.length
    · rw [decide_eq_true h, decide_eq_false (by omega)]; rfl
    · rw [decide_eq_false h, decide_eq_true (by omega)]; rfl
  have h2 : decide ((s.length : Int) > 200) = !decide (s.length ≤ 200) := by
    by_cases h : s.length ≤ 200
    · rw [decide_eq_true h, decide_eq_false (by omega)]; rfl
    · rw [decide_eq_false h, decide_eq_true (by omega)]; rfl
  generalize decide (1 ≤ s.length) = c1 at *
  generalize decide (s.length ≤ 200) = c2 at *
  generalize Lib.trimS s [32, 42, 47] = t at *
  generalize hts : (t == s) = c3 at *
  rw [start_frame (by simp)]; simp only [enumV, go_sem, emptyH]
  cases c1
  · simp only [Bool.not_true, Bool.not_false] at h1
    repeat (first
      | (apply axJ; (focus ((with_reducible constructor) <;> rfl)))
      | (apply awT mixedOK hΓ (by kernel_rfl); (simp (disch := omega) only [go_sem, ↓reduceIte, dk, ↓lk, Int.reduceBEq, Int.reduceBNe, Bool.true_bne, Bool.false_bne, Bool.not_true, Bool.not_false, h1] <;> with_reducible rfl))
      | ((first | apply awR hΓ | apply awG | apply awH mixedOK hΓ rfl (by kernel_rfl) | apply ovE rfl); (simp (disch := omega) only [go_sem, ↓reduceIte, dk, ↓lk, Int.reduceBEq, Int.reduceBNe, Bool.true_bne, Bool.false_bne, Bool.not_true, Bool.not_false, h1] <;> with_reducible rfl); exact trivial)
      | rfl)
    try rfl
  simp only [Bool.not_true] at h1
  cases c2
  · simp only [Bool.not_false] at h2
    repeat (first
      | (apply axJ; (focus ((with_reducible constructor) <;> rfl)))
      | (apply awT mixedOK hΓ (by kernel_rfl); (simp (disch := omega) only [go_sem, ↓reduceIte, dk, ↓lk, Int.reduceBEq, Int.reduceBNe, Bool.true_bne, Bool.false_bne, Bool.not_true, Bool.not_false, h1, h2] <;> with_reducible rfl))
      | ((first | apply awR hΓ | apply awG | apply awH mixedOK hΓ rfl (by kernel_rfl) | apply ovE rfl); (simp (disch := omega) only [go_sem, ↓reduceIte, dk, ↓lk, Int.reduceBEq, Int.reduceBNe, Bool.true_bne, Bool.false_bne, Bool.not_true, Bool.not_false, h1, h2] <;> with_reducible rfl); exact trivial)
      | rfl)
    try rfl
  simp only [Bool.not_true] at h2
  cases c3
  · repeat (first
    | (apply axJ; (focus ((with_reducible constructor) <;> rfl)))
    | (apply awT mixedOK hΓ (by kernel_rfl); (simp (disch := omega) only [go_sem, ↓reduceIte, dk, ↓lk, Int.reduceBEq, Int.reduceBNe, Bool.true_bne, Bool.false_bne, Bool.not_true, Bool.not_false, h1, h2, e1, hts] <;> with_reducible rfl))
    | ((first | apply awR hΓ | apply awG | apply awH mixedOK hΓ rfl (by kernel_rfl) | apply ovE rfl); (simp (disch := omega) only [go_sem, ↓reduceIte, dk, ↓lk, Int.reduceBEq, Int.reduceBNe, Bool.true_bne, Bool.false_bne, Bool.not_true, Bool.not_false, h1, h2, e1, hts] <;> with_reducible rfl); exact trivial)
    | rfl)
    try rfl
  generalize s.all okT = c4 at *
  repeat (first
    | (apply axJ; (focus ((with_reducible constructor) <;> rfl)))
    | (apply awT mixedOK hΓ (by kernel_rfl); (simp (disch := omega) only [go_sem, ↓reduceIte, dk, ↓lk, Int.reduceBEq, Int.reduceBNe, Bool.true_bne, Bool.false_bne, Bool.not_true, Bool.not_false, h1, h2, e1, hts, bytesD_eB, e2] <;> with_reducible rfl))
    | ((first | apply awR hΓ | apply awG | apply awH mixedOK hΓ rfl (by kernel_rfl) | apply ovE rfl); (simp (disch := omega) only [go_sem, ↓reduceIte, dk, ↓lk, Int.reduceBEq, Int.reduceBNe, Bool.true_bne, Bool.false_bne, Bool.not_true, Bool.not_false, h1, h2, e1, hts, bytesD_eB, e2] <;> with_reducible rfl); exact trivial)
    | rfl)
  try rfl
noncomputable def g_wordsP : List D → Option D := encSpec (fun _ : Unit => []) (fun _ => True) (fun _ => .list [.str kLic, .str kCop])
theorem g_wordsP_eq : g_wordsP [] = some (.list [.str kLic, .str kCop]) := encSpec_eq (x := ()) trivial fun _ _ => rfl
theorem words_calls (w : World) : Calls Tryz.prog 60 #[] w fun e w' => e = .returned (.slice (some ⟨w.heap.size, 0, none⟩) 2 2) ∧ w' = w.alloc (.cells #[.string ⟨#[76, 105, 99, 101, 110, 115, 101, 58]⟩, .string ⟨#[67, 111, 112, 121, 114, 105, 103, 104, 116, 58]⟩] 123) := by
  go_enter Tryz.func60, Tryz.ntmps60
  go_wp2
  go_ret
  exact ⟨rfl, rfl⟩
theorem f_wordsP_ok : PureOK Tryz.prog 60 false g_wordsP := by
  intro ds d hd
  obtain ⟨_, rfl, _, rfl⟩ := encSpec_some hd
  refine ⟨fun h => (by cases h), fun w B vs hB hz hvs => ⟨⟨Tryz.f60, Tryz.func60, by kernel_rfl, by kernel_rfl⟩, ?_⟩⟩
  have e : vs = #[] := Array.eq_empty_of_size_eq_zero hz
  rw [e]
  refine (words_calls w).mono ?_
  rintro _ _ ⟨rfl, rfl⟩
  refine ⟨_, rfl, ?_, (Below.refl _ _).alloc (Nat.le_refl _) _⟩
  refine DR.list [.str kLic, .str kCop] ⟨w.heap.size, 0, none⟩ 2 1 (fun i => (#[Value.string ⟨#[76, 105, 99, 101, 110, 115, 101, 58]⟩, .string ⟨#[67, 111, 112, 121, 114, 105, 103, 104, 116, 58]⟩] : Array Value).getD i undef) (.inr ⟨Nat.le_refl _, by simp⟩) (by simp) (by simp [D.cells]) (by simp [Ab.flat, D.cells, D.one]) (fun i hi => ?_) (fun i hi => ?_)
  · have h := World.alloc_heap_new w (.cells #[.string ⟨#[76, 105, 99, 101, 110, 115, 101, 58]⟩, .string ⟨#[67, 111, 112, 121, 114, 105, 103, 104, 116, 58]⟩] 123)
    match i, hi with
    | 0, _ => unfold World.cell?; rw [show (Addr.add ⟨w.heap.size, 0, none⟩ 0).block = w.heap.size from rfl, h]; rfl
    | 1, _ => unfold World.cell?; rw [show (Addr.add ⟨w.heap.size, 0, none⟩ 1).block = w.heap.size from rfl, h]; rfl
  · match i, hi with
    | 0, _ => exact .str _
    | 1, _ => exact .str _
end Go.Ab
