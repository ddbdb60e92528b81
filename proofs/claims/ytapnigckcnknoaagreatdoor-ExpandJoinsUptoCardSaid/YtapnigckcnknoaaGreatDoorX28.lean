/-
  One text of the proof (own work): contracts of functions of the program, by the abstract machine.
-/
import Derived.Test.YtapnigckcnknoaaGreatDoorX12
import Derived.Test.YtapnigckcnknoaaGreatDoorX27
import Derived.Test.YtapnigckcnknoaaGreatDoorX26
set_option linter.unusedVariables false
set_option linter.unusedSimpArgs false
namespace Go.Ab
open Go Go.RowKit Go.Proofs
set_option maxRecDepth 100000
set_option maxHeartbeats 40000000
theorem foldN_len : ∀ (m l : List Sp), (m.foldl (fun a s => addN s a) l).length ≤ l.length + m.length
  | [], l => by simp
  | s :: m, l => by
    have h1 := foldN_len m (addN s l)
    have h2 := addN_len l s
    rw [List.foldl_cons, List.length_cons]
    omega
noncomputable def g_law7j : List D → Option D := encSpec (fun x : (List Fl) × (List Mc) × (List Tk) × Bs × Int × Bs × UInt8 => [.agg [.list (x.1.map eFl), .list (x.2.1.map eMc), .list (x.2.2.1.map eTk), .str x.2.2.2.1, i64 x.2.2.2.2.1, .str x.2.2.2.2.2.1], u8 x.2.2.2.2.2.2.toNat]) (fun x : (List Fl) × (List Mc) × (List Tk) × Bs × Int × Bs × UInt8 => (x.1.length ≤ 1099511627776 ∧ ∀ f ∈ x.1, f.2.length ≤ 1099511627776) ∧ (x.2.1.length ≤ 1099511627776 ∧ ∀ m ∈ x.2.1, m.params.length ≤ 1099511627776) ∧ x.2.2.1.length ≤ 1099511627776) (fun x : (List Fl) × (List Mc) × (List Tk) × Bs × Int × Bs × UInt8 => .bool true)
theorem f_law7j_ok : PureOK Tryz.prog 6 true g_law7j := by
  have hΓ := Γp f_wk07_ok (Γp f_fewC_ok (Γp f_unit07_ok (Γp f_lineP7_ok (Γp f_addSpR_ok (Γo f_cloT7_ok (Γp f_sameT_ok (Γp f_sameL_ok (Γn))))))))
  refine pure_enc (n := 113) (rs := [.tmp 4]) Tryz.func6 (by kernel_rfl) rfl (by kernel_rfl) (by kernel_rfl) ?_
  rintro ⟨fs, us, l, lp, ln, tx, a⟩ hd
  (try dsimp only at hd ⊢)
  refine ⟨fun _ => by (repeat (first | exact .int _ _ | exact .bool _ | exact .str _ | (refine .tup _ (fun d hd => ?_); simp only [List.mem_cons, List.not_mem_nil, or_false] at hd; rcases hd with rfl | hd))), fun k hz0 => ?_⟩
  have e0 := g_wk07_eq
  have e1 := g_fewC_eq (fs := fs) (us := us) (l := l) (lp := lp) (ln := ln) (tx := tx) hd
  have e2 := g_unit07_eq (fs := fs) (us := us) (l := l) (lp := lp) (ln := ln) (tx := tx) trivial
  rw [eU_eq] at e2
  have hf := @few07_d fs us l tx
  generalize few07 fs us l tx = c at *
  rw [start_frame (by simp)]; simp only [enumV, go_sem, emptyH]
  cases c
  · repeat (first
    | (apply axJ; (focus ((with_reducible constructor) <;> rfl)))
    | (apply awT mixedOK hΓ (by kernel_rfl); (simp (disch := omega) only [go_sem, ↓reduceIte, dk, ↓lk, Int.reduceBEq, Int.reduceBNe, Bool.true_bne, Bool.false_bne, Bool.not_true, Bool.not_false, e0, e1] <;> with_reducible rfl))
    | ((first | apply awR hΓ | apply awG | apply awH mixedOK hΓ rfl (by kernel_rfl) | apply ovE rfl); (simp (disch := omega) only [go_sem, ↓reduceIte, dk, ↓lk, Int.reduceBEq, Int.reduceBNe, Bool.true_bne, Bool.false_bne, Bool.not_true, Bool.not_false, e0, e1] <;> with_reducible rfl); exact trivial)
    | rfl)
    try rfl
  obtain ⟨⟨f1, f2⟩, ⟨f3, f4⟩, ⟨f5, f6⟩, f7⟩ := hf rfl
  cases hl : decide ((l.length : Int) > 256)
  case true =>
    repeat (first
      | (apply axJ; (focus ((with_reducible constructor) <;> rfl)))
      | (apply awT mixedOK hΓ (by kernel_rfl); (simp (disch := omega) only [go_sem, ↓reduceIte, dk, ↓lk, Int.reduceBEq, Int.reduceBNe, Bool.true_bne, Bool.false_bne, Bool.not_true, Bool.not_false, e0, e1, hl] <;> with_reducible rfl))
      | ((first | apply awR hΓ | apply awG | apply awH mixedOK hΓ rfl (by kernel_rfl) | apply ovE rfl); (simp (disch := omega) only [go_sem, ↓reduceIte, dk, ↓lk, Int.reduceBEq, Int.reduceBNe, Bool.true_bne, Bool.false_bne, Bool.not_true, Bool.not_false, e0, e1, hl] <;> with_reducible rfl); exact trivial)
      | rfl)
    try rfl
  have hl2 : l.length ≤ 256 := by have := of_decide_eq_false hl; omega
  have ha := a.toNat_lt
  obtain ⟨j, hj⟩ : ∃ j, a.toNat % (l.length + 1) = j := ⟨_, rfl⟩
  have hjl : j ≤ l.length := by rw [← hj]; exact Nat.le_of_lt_succ (Nat.mod_lt _ (Nat.succ_pos _))
  have hjt : Int.tmod (a.toNat : Int) ((l.length : Int) + 1) = (j : Int) := by
    rw [← hj]
    exact Int.ofNat_tmod a.toNat (l.length + 1)
  repeat (first
    | (apply axJ; (focus ((with_reducible constructor) <;> rfl)))
    | (apply awT mixedOK hΓ (by kernel_rfl); (simp (disch := omega) only [go_sem, ↓reduceIte, dk, ↓lk, Int.reduceBEq, Int.reduceBNe, Bool.true_bne, Bool.false_bne, Bool.not_true, Bool.not_false, e0, e1, hl, hjt] <;> with_reducible rfl))
    | ((first | apply awR hΓ | apply awG | apply awH mixedOK hΓ rfl (by kernel_rfl) | apply ovE rfl); (simp (disch := omega) only [go_sem, ↓reduceIte, dk, ↓lk, Int.reduceBEq, Int.reduceBNe, Bool.true_bne, Bool.false_bne, Bool.not_true, Bool.not_false, e0, e1, hl, hjt] <;> with_reducible rfl); exact trivial)
    | rfl)
  have dF : ∀ k : List Tk, (∀ t ∈ k, t ∈ l) → k.length ≤ 256 → ((fs.length ≤ 1099511627776 ∧ ∀ f ∈ fs, f.2.length ≤ 1000000000) ∧ (us.length ≤ 1000000 ∧ ∀ m ∈ us, m.params.length ≤ 1000000 ∧ m.name.length ≤ 1099511627776)) ∧ (k.length ≤ 1099511627776 ∧ ∀ t ∈ k, t.2.length ≤ 1000000000) := fun k hk hkl => ⟨⟨⟨by omega, fun f hf => by have := f2 f hf; omega⟩, by omega, fun m hm => by have := f4 m hm; omega⟩, by omega, fun t ht => by have := f6 t (hk t ht); omega⟩
  have e3 := g_lineP7_eq (fs := fs) (us := us) (l := l.take j) (dF _ (fun t ht => List.mem_of_mem_take ht) (by rw [List.length_take]; omega))
  have e4 := g_lineP7_eq (fs := fs) (us := us) (l := l.drop j) (dF _ (fun t ht => List.mem_of_mem_drop ht) (by rw [List.length_drop]; omega))
  have e5 := g_lineP7_eq (fs := fs) (us := us) (l := l) (dF _ (fun t ht => ht) hl2)
  have hJ := @line_join fs us (l.take j) (l.drop j)
  rw [List.take_append_drop] at hJ
  have hla := lineG_len (fs := fs) (us := us) (l := l.take j)
  have hlb := lineG_len (fs := fs) (us := us) (l := l.drop j)
  rw [List.map_take] at e3
  rw [List.map_drop] at e4
  rw [eU_eq] at e3 e4 e5
  unfold eLR at e3 e4 e5
  have htl0 : (l.take j).length ≤ 256 := by rw [List.length_take]; omega
  have hdl0 : (l.drop j).length ≤ 256 := by rw [List.length_drop]; omega
  have hfl := fun i => foldN_len ((lineG fs us (l.drop j)).1.2.take i) (lineG fs us (l.take j)).1.2
  generalize lineG fs us (l.take j) = A at *
  generalize lineG fs us (l.drop j) = B at *
  generalize lineG fs us l = L at *
  obtain ⟨⟨a1, a2⟩, ae⟩ := A
  obtain ⟨⟨b1, b2⟩, be⟩ := B
  dsimp only at e3 e4 hJ hla hlb hfl
  have hdt : List.take (l.length - j) (List.drop j (l.map eTk)) = List.drop j (l.map eTk) := List.take_of_length_le (by simp)
  (apply awp_regf mixedOK hΓ (by kernel_rfl); (simp (disch := omega) only [go_sem, ↓reduceIte, dk, ↓lk, Int.reduceBEq, Int.reduceBNe, Bool.true_bne, Bool.false_bne, Bool.not_true, Bool.not_false, e2, e3, Nat.sub_zero] <;> with_reducible rfl); (simp only [go_sem] <;> with_reducible rfl))
  repeat (first
    | (apply axJ; (focus ((with_reducible constructor) <;> rfl)))
    | (apply awT mixedOK hΓ (by kernel_rfl); (simp (disch := omega) only [go_sem, ↓reduceIte, dk] <;> with_reducible rfl))
    | ((first | apply awR hΓ | apply awG | apply awH mixedOK hΓ rfl (by kernel_rfl) | apply ovE rfl); (simp (disch := omega) only [go_sem, ↓reduceIte, dk] <;> with_reducible rfl); exact trivial)
    | rfl)
  (apply awp_regf mixedOK hΓ (by kernel_rfl); (simp (disch := omega) only [go_sem, ↓reduceIte, dk, ↓lk, Int.reduceBEq, Int.reduceBNe, Bool.true_bne, Bool.false_bne, Bool.not_true, Bool.not_false, e2, e4, hdt] <;> with_reducible rfl); (simp only [go_sem] <;> with_reducible rfl))
  by_cases hae : ae = 0
  case neg =>
    have hae2 : (ae != 0) = true := by simpa using hae
    repeat (first
      | (apply axJ; (focus ((with_reducible constructor) <;> rfl)))
      | (apply awT mixedOK hΓ (by kernel_rfl); (simp (disch := omega) only [go_sem, ↓reduceIte, dk, ↓lk, Int.reduceBEq, Int.reduceBNe, Bool.true_bne, Bool.false_bne, Bool.not_true, Bool.not_false, hae2] <;> with_reducible rfl))
      | ((first | apply awR hΓ | apply awG | apply awH mixedOK hΓ rfl (by kernel_rfl) | apply ovE rfl); (simp (disch := omega) only [go_sem, ↓reduceIte, dk, ↓lk, Int.reduceBEq, Int.reduceBNe, Bool.true_bne, Bool.false_bne, Bool.not_true, Bool.not_false, hae2] <;> with_reducible rfl); exact trivial)
      | rfl)
    try rfl
  by_cases hbe : be = 0
  case neg =>
    have hbe2 : (be != 0) = true := by simpa using hbe
    subst hae
    repeat (first
      | (apply axJ; (focus ((with_reducible constructor) <;> rfl)))
      | (apply awT mixedOK hΓ (by kernel_rfl); (simp (disch := omega) only [go_sem, ↓reduceIte, dk, ↓lk, Int.reduceBEq, Int.reduceBNe, Bool.true_bne, Bool.false_bne, Bool.not_true, Bool.not_false, hbe2] <;> with_reducible rfl))
      | ((first | apply awR hΓ | apply awG | apply awH mixedOK hΓ rfl (by kernel_rfl) | apply ovE rfl); (simp (disch := omega) only [go_sem, ↓reduceIte, dk, ↓lk, Int.reduceBEq, Int.reduceBNe, Bool.true_bne, Bool.false_bne, Bool.not_true, Bool.not_false, hbe2] <;> with_reducible rfl); exact trivial)
      | rfl)
    try rfl
  subst hae hbe
  repeat (first
    | (apply axJ; (focus ((with_reducible constructor) <;> rfl)))
    | (apply awT mixedOK hΓ (by kernel_rfl); (simp (disch := omega) only [go_sem, ↓reduceIte, dk, ↓lk, Int.reduceBEq, Int.reduceBNe, Bool.true_bne, Bool.false_bne, Bool.not_true, Bool.not_false] <;> with_reducible rfl))
    | ((first | apply awR hΓ | apply awG | apply awH mixedOK hΓ rfl (by kernel_rfl) | apply ovE rfl); (simp (disch := omega) only [go_sem, ↓reduceIte, dk, ↓lk, Int.reduceBEq, Int.reduceBNe, Bool.true_bne, Bool.false_bne, Bool.not_true, Bool.not_false] <;> with_reducible rfl); exact trivial)
    | rfl)
  (apply awp_regf mixedOK hΓ (by kernel_rfl); (simp (disch := omega) only [go_sem, ↓reduceIte, dk, ↓lk, Int.reduceBEq, Int.reduceBNe, Bool.true_bne, Bool.false_bne, Bool.not_true, Bool.not_false, e2, e5] <;> with_reducible rfl); (simp only [go_sem] <;> with_reducible rfl))
  rcases hJ rfl rfl hl2 with hL | hL
  · subst hL
    repeat (first
      | (apply axJ; (focus ((with_reducible constructor) <;> rfl)))
      | (apply awT mixedOK hΓ (by kernel_rfl); (simp (disch := omega) only [go_sem, ↓reduceIte, dk, ↓lk, Int.reduceBEq, Int.reduceBNe, Bool.true_bne, Bool.false_bne, Bool.not_true, Bool.not_false, BEq.rfl, List.map_nil, List.length_nil] <;> with_reducible rfl))
      | ((first | apply awR hΓ | apply awG | apply awH mixedOK hΓ rfl (by kernel_rfl) | apply ovE rfl); (simp (disch := omega) only [go_sem, ↓reduceIte, dk, ↓lk, Int.reduceBEq, Int.reduceBNe, Bool.true_bne, Bool.false_bne, Bool.not_true, Bool.not_false, BEq.rfl, List.map_nil, List.length_nil] <;> with_reducible rfl); exact trivial)
      | rfl)
    try rfl
  subst hL
  dsimp only
  repeat (first
    | (apply axJ; (focus ((with_reducible constructor) <;> rfl)))
    | (apply awT mixedOK hΓ (by kernel_rfl); (simp (disch := omega) only [go_sem, ↓reduceIte, dk, ↓lk, Int.reduceBEq, Int.reduceBNe, Bool.true_bne, Bool.false_bne, Bool.not_true, Bool.not_false] <;> with_reducible rfl))
    | ((first | apply awR hΓ | apply awG | apply awH mixedOK hΓ rfl (by kernel_rfl) | apply ovE rfl); (simp (disch := omega) only [go_sem, ↓reduceIte, dk, ↓lk, Int.reduceBEq, Int.reduceBNe, Bool.true_bne, Bool.false_bne, Bool.not_true, Bool.not_false] <;> with_reducible rfl); exact trivial)
    | rfl)
  refine awp_loop_at (X := Nat) (fun i => (frame 113 [(6, .data (.list (a1.map eTk))), (9, .data (.list (b1.map eTk))), (12, .data (.list ((a1 ++ b1).map eTk))), (13, .data (.list ((b2.foldl (fun x s => addN s x) a2).map eSp))), (14, .data (i64 0)), (15, .data (.list (((b2.take i).foldl (fun x s => addN s x) a2).map eSp))), (88, .data (.list (b2.map eSp))), (89, .data (i64 b2.length)), (90, .data (i64 i))])) (fun _ => []) 120
    (fun i => i ≤ b2.length) (fun i => b2.length - i) 0 (Nat.zero_le _) (Weak.v (by (simp [ConvF, lookV, Conv, ints, List.take_zero, List.foldl_nil]; done)) (by (simp (disch := omega) only [TabSub, look, if_pos, if_neg, Obj.refsOK, refsOKs, AV.refsOK, decide_eq_true_eq, Bool.and_true, Bool.and_self, List.take_zero, List.foldl_nil] ) <;> ((repeat' apply And.intro) <;> first | exact True.intro | omega | (simp; done) | rfl))) ?_
  rintro i hi
  (try dsimp only at hi ⊢)
  by_cases hi2 : i < b2.length
  · have hst : (b2.take (i + 1)).foldl (fun x s => addN s x) a2 = addN b2[i] ((b2.take i).foldl (fun x s => addN s x) a2) := by
      rw [List.take_add_one, List.getElem?_eq_getElem hi2, List.foldl_append]
      rfl
    have hfi : ((b2.take i).foldl (fun x s => addN s x) a2).length ≤ a2.length + (b2.take i).length := hfl i
    have htl : (b2.take i).length ≤ b2.length := by rw [List.length_take]; omega
    have e6 := g_addSpR_eq (l := (b2.take i).foldl (fun x s => addN s x) a2) (sp := b2[i]) (Nat.le_trans (hfl i) (by omega))
    generalize hq : (b2.take i).foldl (fun x s => addN s x) a2 = q at *
    generalize hy : b2[i] = y at *
    obtain ⟨y1, y2, y3⟩ := y
    rw [eSp_eq] at e6
    repeat (first
      | (apply axJ; (focus ((with_reducible constructor) <;> rfl)))
      | (apply awT mixedOK hΓ (by kernel_rfl); (simp (disch := omega) only [go_sem, ↓reduceIte, dk, ↓lk, Int.reduceBEq, Int.reduceBNe, Bool.true_bne, Bool.false_bne, Bool.not_true, Bool.not_false, hy, e6] <;> with_reducible rfl))
      | ((first | apply awR hΓ | apply awG | apply awH mixedOK hΓ rfl (by kernel_rfl) | apply ovE rfl); (simp (disch := omega) only [go_sem, ↓reduceIte, dk, ↓lk, Int.reduceBEq, Int.reduceBNe, Bool.true_bne, Bool.false_bne, Bool.not_true, Bool.not_false, hy, e6] <;> with_reducible rfl); exact trivial)
      | rfl)
    exact ⟨i + 1, by omega, by omega, by rw [hst]; exact Weak.w⟩
  have hi3 : i = b2.length := by omega
  subst hi3
  rw [List.take_length]
  have hfi := hfl b2.length
  rw [List.take_length] at hfi
  generalize b2.foldl (fun x s => addN s x) a2 = q at *
  have e7 := g_sameT_eq (a := a1 ++ b1) (b := a1 ++ b1) ⟨by rw [List.length_append]; omega, by rw [List.length_append]; omega⟩
  have e8 := g_sameL_eq (a := q) (b := q) ⟨by omega, by omega⟩
  have e9 := g_cloT7_eq (l := a1) (by omega)
  rw [decide_eq_true rfl] at e7 e8
  rw [List.map_append] at e7 ⊢
  repeat (first
    | (apply axJ; (focus ((with_reducible constructor) <;> rfl)))
    | (apply awT mixedOK hΓ (by kernel_rfl); (simp (disch := omega) only [go_sem, ↓reduceIte, dk, ↓lk, Int.reduceBEq, Int.reduceBNe, Bool.true_bne, Bool.false_bne, Bool.not_true, Bool.not_false, BEq.rfl, e7, e8, e9] <;> with_reducible rfl))
    | ((first | apply awR hΓ | apply awG | apply awH mixedOK hΓ rfl (by kernel_rfl) | apply ovE rfl); (simp (disch := omega) only [go_sem, ↓reduceIte, dk, ↓lk, Int.reduceBEq, Int.reduceBNe, Bool.true_bne, Bool.false_bne, Bool.not_true, Bool.not_false, BEq.rfl, e7, e8, e9] <;> with_reducible rfl); exact trivial)
    | rfl)
  try rfl
end Go.Ab
