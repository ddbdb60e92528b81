/-
  One text of the proof (own work): contracts of functions of the program, by the abstract machine.
-/
import Derived.Test.YtabenhkajabaeaaDoorX23
import Derived.Test.YtabenhkajabaeaaDoorX48
import Derived.Test.YtabenhkajabaeaaDoorX44
import Derived.Test.YtabenhkajabaeaaDoorX45
import Derived.Test.YtabenhkajabaeaaDoorX50
import Derived.Test.YtabenhkajabaeaaDoorX34
set_option linter.unusedVariables false
set_option linter.unusedSimpArgs false
namespace Go.Ab
open Go Go.RowKit Go.Proofs
set_option maxRecDepth 10000
set_option maxHeartbeats 16000000
abbrev bts (bs : List UInt8) : D := .list (bs.map fun b => .int .u8 b.toNat)
theorem bts_inj {a b : List UInt8} (h : bts a = bts b) : a = b := by
  simp only [D.list.injEq] at h
  exact (map_ie (fun x y h => by
    simp only [D.int.injEq, true_and] at h
    exact UInt8.toNat_inj.1 (by omega)) a b).mp h
noncomputable def g_more := locSpec (fun _ : List UInt8 × Nat => [.ptr 0 0, .ptr 1 0]) (fun x => [.box [.data (i64 x.2)], .box [.data (bts x.1)]]) (fun x => x.1.length ≤ 1048576 ∧ x.2 ≤ 1048576) (fun x => (.data (.str (moreS x.1 x.2)), [.box [.data (i64 ((x.2 : Int) + 1))], .box [.data (bts x.1)]]))
theorem g_more_eq (bs : List UInt8) (n : Nat) (hd : bs.length ≤ 1048576 ∧ n ≤ 1048576) : g_more [.ptr 0 0, .ptr 1 0] [.box [.data (.int .i64 n)], .box [.data (bts bs)]] = some (.data (.str (moreS bs n)), [.box [.data (.int .i64 ((n : Int) + 1))], .box [.data (bts bs)]]) := locSpec_eq (x := (bs, n)) hd fun y _ h2 => by
  obtain ⟨y1, y2⟩ := y
  simp only [List.cons.injEq, and_true, Obj.box.injEq, AV.data.injEq, D.int.injEq, true_and, Int.natCast_inj] at h2
  obtain ⟨rfl, h3⟩ := h2
  rw [bts_inj h3]
theorem f_more_ok : LocOK Tryd.prog 26 g_more := by
  have hΓ := (Γp f_repeat_ok (Γn))
  refine loc_enc (n := 17) (rs := [.tmp 2]) Tryd.func26 (by kernel_rfl) rfl (by kernel_rfl) (by kernel_rfl) ?_
  rintro ⟨bs, n⟩ ⟨h1, h2⟩ k hz0
  dsimp only at hz0 h1 h2 ⊢
  generalize hm : moreS bs n = m
  unfold moreS at hm
  by_cases hn : n < bs.length
  · rw [List.getElem?_eq_getElem hn] at hm
    dsimp only at hm
    generalize hy : bs[n] = b at hm
    have hb := b.toNat_lt
    have hk : (b.toNat : Int).tmod 4 = ((b.toNat % 4 : Nat) : Int) := by
      rw [Int.tmod_eq_emod_of_nonneg (by omega)]
      omega
    have r1 := g_repeat_eq (b := 32) (c := b.toNat % 4) (by omega)
    rw [hm] at r1
    generalize b.toNat % 4 = q at *
    rw [start_frameA (by simp)]; simp only [enumA, enumO, List.length_cons, List.length_nil, Nat.reduceAdd, go_sem]
    repeat (first
      | (apply axJ; (focus ((with_reducible constructor) <;> rfl)))
      | (apply awT mixedOK hΓ (by kernel_rfl); (simp (disch := omega) only [go_sem, ↓reduceIte, dk, hy, hk, r1, Int.add_sub_cancel] <;> with_reducible rfl))
      | ((first | apply awR hΓ | apply awG | apply awH mixedOK hΓ rfl (by kernel_rfl) | apply ovE rfl); (simp (disch := omega) only [go_sem, ↓reduceIte, dk, hy, hk, r1, Int.add_sub_cancel] <;> with_reducible rfl); exact trivial)
      | rfl)
    exact retL_x rfl rfl (Weak.of (by simp) ⟨rfl, trivial⟩ (by simp [TabSub, enumO, look, Obj.refsOK, refsOKs, AV.refsOK]) rfl)
  · rw [List.getElem?_eq_none (by omega)] at hm
    subst hm
    rw [start_frameA (by simp)]; simp only [enumA, enumO, List.length_cons, List.length_nil, Nat.reduceAdd, go_sem]
    repeat (first
      | (apply axJ; (focus ((with_reducible constructor) <;> rfl)))
      | (apply awT mixedOK hΓ (by kernel_rfl); (simp (disch := omega) only [go_sem, ↓reduceIte, dk] <;> with_reducible rfl))
      | ((first | apply awR hΓ | apply awG | apply awH mixedOK hΓ rfl (by kernel_rfl) | apply ovE rfl); (simp (disch := omega) only [go_sem, ↓reduceIte, dk] <;> with_reducible rfl); exact trivial)
      | rfl)
    exact retL_x rfl rfl (Weak.of (by simp) ⟨rfl, trivial⟩ (by simp [TabSub, enumO, look, Obj.refsOK, refsOKs, AV.refsOK]) rfl)
theorem call_more (k n0 : Nat) (B : Obj) (tab : List (Nat × Obj)) (bs : List UInt8) (n : Nat) (m : Int) (hm : m = (n : Int)) (hd : bs.length ≤ 1048576 ∧ n ≤ 1048576) : callLoc k ⟨(0, B) :: (1, .box [.data (bts bs)]) :: (2, .box [.data (.int .i64 m)]) :: tab, n0⟩ g_more [.ptr 2 0, .ptr 1 0] =
    some (.data (.str (moreS bs n)), ⟨(0, B) :: (1, .box [.data (bts bs)]) :: (2, .box [.data (.int .i64 (m + 1))]) :: tab, k⟩) := by
  subst hm
  exact (callLoc_of (fp := [2, 1]) rfl rfl rfl (g_more_eq bs n hd) (Nat.le_refl _)).trans rfl
theorem more_len (bs : List UInt8) (n : Nat) : (moreS bs n).length ≤ 3 := by
  obtain ⟨k, h1, h2⟩ := more_rep bs n
  rw [h2, List.length_replicate]
  exact h1
theorem eq_byte (c : UInt8) (k : Nat) (h : k < 256) : ((c.toNat : Int) == (k : Int)) = (c == UInt8.ofNat k) := by
  rw [Bool.eq_iff_iff]
  simp only [beq_iff_eq]
  constructor
  · intro e
    apply UInt8.toNat_inj.1
    rw [UInt8.toNat_ofNat']
    omega
  · intro e
    rw [e, UInt8.toNat_ofNat']
    omega
noncomputable def g_law8 : List D → Option D := encSpec (fun x : LX × (List UInt8) => [eX x.1, .list (x.2.map fun b => u8 b.toNat)]) (fun x : LX × (List UInt8) => x.1.Bd 1099511627776 ∧ x.2.length ≤ 1099511627776) (fun x : LX × (List UInt8) => .bool true)
theorem f_law8_ok : PureOK Tryd.prog 8 true g_law8 := by
  have hΓ := Γp f_awake_ok (Γp f_few_ok (Γp f_fmtP_ok (Γq f_more_ok (Γp f_parseP_ok (Γp (f_equalP_ok 1099511627776) (Γn))))))
  refine pure_enc (n := 125) (rs := [.tmp 4]) Tryd.func8 (by kernel_rfl) rfl (by kernel_rfl) (by kernel_rfl) ?_
  rintro ⟨x, bs⟩ hd
  (try dsimp only at hd ⊢)
  refine ⟨fun _ => by (repeat (first | exact .int _ _ | exact .bool _ | exact .str _ | (refine .tup _ (fun d hd => ?_); simp only [List.mem_cons, List.not_mem_nil, or_false] at hd; rcases hd with rfl | hd))), fun k hz0 => ?_⟩
  obtain ⟨hx, hbs⟩ := hd
  have e0 := g_awake_eq
  have w1 := g_few_eq hx
  have f1 := g_fmtP_eq hx
  rw [eX_eq]
  rw [start_frame (by simp)]; simp only [enumV, go_sem, emptyH]
  generalize hb1 : fewX x = b1 at *
  generalize hb2 : decide ((bs.length : Int) > 300) = b2
  cases b1
  · repeat (first
    | (apply axJ; (focus ((with_reducible constructor) <;> rfl)))
    | (apply awT mixedOK hΓ (by kernel_rfl); (simp (disch := omega) only [go_sem, ↓reduceIte, ↓lk, Int.reduceBEq, Int.reduceBNe, Bool.true_bne, Bool.false_bne, Bool.not_true, Bool.not_false, e0, w1] <;> with_reducible rfl))
    | ((first | apply awR hΓ | apply awG | apply awH mixedOK hΓ rfl (by kernel_rfl) | apply ovE rfl); (simp (disch := omega) only [go_sem, ↓reduceIte, ↓lk, Int.reduceBEq, Int.reduceBNe, Bool.true_bne, Bool.false_bne, Bool.not_true, Bool.not_false, e0, w1] <;> with_reducible rfl); exact trivial)
    | rfl)
    try rfl
  cases b2
  rotate_left
  · repeat (first
    | (apply axJ; (focus ((with_reducible constructor) <;> rfl)))
    | (apply awT mixedOK hΓ (by kernel_rfl); (simp (disch := omega) only [go_sem, ↓reduceIte, ↓lk, Int.reduceBEq, Int.reduceBNe, Bool.true_bne, Bool.false_bne, Bool.not_true, Bool.not_false, e0, w1, hb2] <;> with_reducible rfl))
    | ((first | apply awR hΓ | apply awG | apply awH mixedOK hΓ rfl (by kernel_rfl) | apply ovE rfl); (simp (disch := omega) only [go_sem, ↓reduceIte, ↓lk, Int.reduceBEq, Int.reduceBNe, Bool.true_bne, Bool.false_bne, Bool.not_true, Bool.not_false, e0, w1, hb2] <;> with_reducible rfl); exact trivial)
    | rfl)
    try rfl
  have hb3 : bs.length ≤ 300 := by have := of_decide_eq_false hb2; omega
  by_cases hc : checkE x = 0
  rotate_left
  · rw [show fmtX x = ([], checkE x) by unfold fmtX; rw [if_pos (by simpa using hc)]] at f1
    simp only [eFmt] at f1
    have hcb : (checkE x != 0) = true := by simpa [bne] using hc
    clear hc
    generalize checkE x = ce at *
    repeat (first
      | (apply axJ; (focus ((with_reducible constructor) <;> rfl)))
      | (apply awT mixedOK hΓ (by kernel_rfl); (simp (disch := omega) only [go_sem, ↓reduceIte, ↓lk, Int.reduceBEq, Int.reduceBNe, Bool.true_bne, Bool.false_bne, Bool.not_true, Bool.not_false, e0, w1, hb2, f1, hcb] <;> with_reducible rfl))
      | ((first | apply awR hΓ | apply awG | apply awH mixedOK hΓ rfl (by kernel_rfl) | apply ovE rfl); (simp (disch := omega) only [go_sem, ↓reduceIte, ↓lk, Int.reduceBEq, Int.reduceBNe, Bool.true_bne, Bool.false_bne, Bool.not_true, Bool.not_false, e0, w1, hb2, f1, hcb] <;> with_reducible rfl); exact trivial)
      | rfl)
    try rfl
  have hs := (check_ok hc).1
  have hl : (textX x).length ≤ 6400 := by have := text_len x (check_ok hc).2.2; omega
  rw [show fmtX x = (textX x, 0) by unfold fmtX; rw [hc]; rfl] at f1
  simp only [eFmt] at f1
  have hbl := blanks_ok hc bs
  have hh := Nat.le_trans x.hgt_le hx.z
  have q1 := g_equalP_eq (h := 1099511627776) (a := x) (b := x) ⟨hh, hx, hx⟩
  rw [eqX_refl] at q1
  generalize textX x = s at *
  repeat (first
    | (apply axJ; (focus ((with_reducible constructor) <;> rfl)))
    | (apply awT mixedOK hΓ (by kernel_rfl); (simp (disch := omega) only [go_sem, ↓reduceIte, ↓lk, Int.reduceBEq, Int.reduceBNe, Bool.true_bne, Bool.false_bne, Bool.not_true, Bool.not_false, e0, w1, hb2, f1] <;> with_reducible rfl))
    | ((first | apply awR hΓ | apply awG | apply awH mixedOK hΓ rfl (by kernel_rfl) | apply ovE rfl); (simp (disch := omega) only [go_sem, ↓reduceIte, ↓lk, Int.reduceBEq, Int.reduceBNe, Bool.true_bne, Bool.false_bne, Bool.not_true, Bool.not_false, e0, w1, hb2, f1] <;> with_reducible rfl); exact trivial)
    | rfl)
  refine awp_loop_at (X := Nat) (fun i => (frame 125 [(2, .ptr 0 0), (5, .data (.str s)), (8, .fn 26 [.ptr 2 0, .ptr 1 0]), (9, .data (.str (wRun bs s i).t)), (38, .data (i64 s.length)), (39, .data (i64 i))]))
    (fun i => [(0, .box [.data (.int .i64 x.kind), .data (.str x.name), .data (.str x.exc), .data (.list (x.kids.map eX))]), (1, .box [.data (bts bs)]), (2, .box [.data (.int .i64 (wRun bs s i).n)])]) 3
    (fun i => i ≤ s.length) (fun i => s.length - i) 0 (Nat.zero_le _)
    (Weak.trans (s2 := (frame 125 [(2, .ptr 0 0), (5, .data (.str s)), (8, .fn 26 [.ptr 22 0, .ptr 1 0]), (9, .data (.str [])), (38, .data (i64 s.length)), (39, .data (i64 0))]))
      (H2 := ⟨[(0, .box [.data (.int .i64 x.kind), .data (.str x.name), .data (.str x.exc), .data (.list (x.kids.map eX))]), (1, .box [.data (bts bs)]), (22, .box [.data (.int .i64 0)])], 23⟩) (Weak.ofF (by omega) (by (simp [ConvF, lookV, Conv, ints]; done)) (by (simp (disch := omega) only [TabSub, look, if_pos, if_neg, Obj.refsOK, refsOKs, AV.refsOK, decide_eq_true_eq, Bool.and_true, Bool.and_self] ) <;> ((repeat' apply And.intro) <;> first | exact True.intro | omega | (simp; done) | rfl)) (by simp (disch := omega) only [refsF, refsOKs, AV.refsOK, Bool.and_true, Bool.and_self, decide_eq_true_eq, Bool.true_and, Bool.and_eq_true]; (repeat' apply And.intro) <;> omega)) (Weak.packd (os := [.box [.data (.int .i64 x.kind), .data (.str x.name), .data (.str x.exc), .data (.list (x.kids.map eX))], .box [.data (bts bs)], .box [.data (.int .i64 0)]]) (fp := [0, 1, 22]) rfl rfl (by intro i hi; omega) rfl rfl)) ?_
  intro i hi
  (try dsimp only at hi ⊢)
  obtain ⟨z1, z2⟩ := wRun_bd bs s i
  by_cases hi2 : i < s.length
  · have hstep : wRun bs s (i + 1) = wstep bs (wRun bs s i) s[i] := by
      show wstep _ _ (s.getD i 0) = _
      rw [show s.getD i 0 = s[i] by simp [List.getD, hi2]]
    generalize hy : s[i] = c at *
    generalize wRun bs s i = W at *
    obtain ⟨t, n⟩ := W
    dsimp only at z1 z2
    have c1 := fun k n0 B tab => call_more k n0 B tab bs n n rfl ⟨by omega, by omega⟩
    have c2 := fun k n0 B tab => call_more k n0 B tab bs (n + 1) ((n : Int) + 1) (by omega) ⟨by omega, by omega⟩
    have m1 := more_len bs n
    have m2 := more_len bs (n + 1)
    unfold wstep at hstep
    dsimp only at hstep
    generalize moreS bs n = r1 at *
    generalize moreS bs (n + 1) = r2 at *
    have b1 : ((c.toNat : Int) == 32) = (c == 32) := eq_byte c 32 (by decide)
    have b2 : ((c.toNat : Int) == 40) = (c == 40) := eq_byte c 40 (by decide)
    have b3 : ((c.toNat : Int) == 41) = (c == 41) := eq_byte c 41 (by decide)
    have b4 : ((c.toNat : Int) == 43) = (c == 43) := eq_byte c 43 (by decide)
    have hsl : (s.drop i).take (((i : Int) + 1).toNat - i) = [c] := by
      rw [List.drop_eq_getElem_cons hi2, hy, show ((i : Int) + 1).toNat - i = 1 by omega]
      rfl
    cases h1 : (c == 32)
    · cases h2 : (c == 40)
      · cases h3 : (c == 41)
        · cases h4 : (c == 43)
          · simp only [h1, h2, h3, h4, Bool.or_self, Bool.false_eq_true, if_false] at hstep
            (repeat (first | (apply axJ; (focus ((with_reducible constructor) <;> rfl))) | ((first | apply awR hΓ | apply awG | apply ovE rfl); (simp (disch := (first | omega | (simp only [maxLen, List.length_append, List.length_cons, List.length_nil]; omega))) only [go_sem, ↓reduceIte, decide_eq_true, decide_eq_false, if_pos, if_neg, wrap_in, ↓lk, Int.reduceBEq, Int.reduceBNe, Bool.true_bne, Bool.false_bne, Bool.not_true, Bool.not_false, ↓if_pos, ↓if_neg, hy, b1, b2, b3, b4, h1, h2, h3, h4, hsl, List.length_cons, List.length_nil] <;> with_reducible rfl); exact trivial) | rfl))
            refine ⟨i + 1, by omega, by omega, ?_⟩
            rw [hstep]
            dsimp only
            rw [Int.natCast_add, Int.natCast_one]
            exact Weak.ofF (by omega) (by (simp [ConvF, lookV, Conv, ints]; done)) (by (simp (disch := omega) only [TabSub, look, if_pos, if_neg, Obj.refsOK, refsOKs, AV.refsOK, decide_eq_true_eq, Bool.and_true, Bool.and_self] ) <;> ((repeat' apply And.intro) <;> first | exact True.intro | omega | (simp; done) | rfl)) (by simp (disch := omega) only [refsF, refsOKs, AV.refsOK, Bool.and_true, Bool.and_self, decide_eq_true_eq, Bool.true_and, Bool.and_eq_true]; (repeat' apply And.intro) <;> omega)
          · simp only [h1, h2, h3, h4, Bool.or_self, Bool.or_true, Bool.true_or, Bool.false_eq_true, if_false, if_true] at hstep
            (repeat (first | (apply axJ; (focus ((with_reducible constructor) <;> rfl))) | ((first | apply awR hΓ | apply awG | apply ovE rfl); (simp (disch := (first | omega | (simp only [maxLen, List.length_append, List.length_cons, List.length_nil]; omega))) only [go_sem, ↓reduceIte, decide_eq_true, decide_eq_false, if_pos, if_neg, wrap_in, ↓lk, Int.reduceBEq, Int.reduceBNe, Bool.true_bne, Bool.false_bne, Bool.not_true, Bool.not_false, ↓if_pos, ↓if_neg, hy, b1, b2, b3, b4, h1, h2, h3, h4] <;> with_reducible rfl); exact trivial) | rfl))
            (apply awp_lane3 (nst := false) (nst' := false) [false, false, true, false, false, false, false, false, false, false, true, false, false] mixedOK hΓ (n1 := 13) (by kernel_rfl) (by kernel_rfl); (focus (dsimp only [List.take_succ_cons, List.take_zero, Array.toList]; (repeat (first | (apply lane3_loud; (focus rfl); (focus rfl); (focus (simp (disch := (first | omega | (simp only [maxLen, List.length_append, List.length_cons, List.length_nil]; omega))) only [go_sem, ↓reduceIte, ↓lk, Int.reduceBEq, Int.reduceBNe, Bool.true_bne, Bool.false_bne, Bool.not_true, Bool.not_false, ↓if_pos, ↓if_neg, decide_eq_true, decide_eq_false, if_pos, if_neg, wrap_in, hsl, List.length_cons, List.length_nil, ↓c1, ↓c2, look_upd]; with_reducible rfl)); (focus (first | (simp (disch := (first | omega | (simp only [maxLen, List.length_append, List.length_cons, List.length_nil]; omega))) only [go_sem, ↓reduceIte, ↓lk, Int.reduceBEq, Int.reduceBNe, Bool.true_bne, Bool.false_bne, Bool.not_true, Bool.not_false, ↓if_pos, ↓if_neg, decide_eq_true, decide_eq_false, if_pos, if_neg, wrap_in, hsl, List.length_cons, List.length_nil, ↓c1, ↓c2, look_upd]; done) | (simp (disch := (first | omega | (simp only [maxLen, List.length_append, List.length_cons, List.length_nil]; omega))) only [go_sem, ↓reduceIte, ↓lk, Int.reduceBEq, Int.reduceBNe, Bool.true_bne, Bool.false_bne, Bool.not_true, Bool.not_false, ↓if_pos, ↓if_neg, decide_eq_true, decide_eq_false, if_pos, if_neg, wrap_in, hsl, List.length_cons, List.length_nil, ↓c1, ↓c2, look_upd]; omega)))) | (apply lane3_quiet; (focus (simp (disch := (first | omega | (simp only [maxLen, List.length_append, List.length_cons, List.length_nil]; omega))) only [go_sem, ↓reduceIte, ↓lk, Int.reduceBEq, Int.reduceBNe, Bool.true_bne, Bool.false_bne, Bool.not_true, Bool.not_false, ↓if_pos, ↓if_neg, decide_eq_true, decide_eq_false, if_pos, if_neg, wrap_in, hsl, List.length_cons, List.length_nil, ↓c1, ↓c2, look_upd]; with_reducible rfl))))); exact lane3_nil)); (focus ((repeat' (first | exact True.intro | refine And.intro ?_ ?_)); all_goals (first | (left; decide) | (left; rfl) | (right; simp (disch := (first | omega | (simp only [maxLen, List.length_append, List.length_cons, List.length_nil]; omega))) only [go_sem, ↓reduceIte, ↓lk, Int.reduceBEq, Int.reduceBNe, Bool.true_bne, Bool.false_bne, Bool.not_true, Bool.not_false, ↓if_pos, ↓if_neg, decide_eq_true, decide_eq_false, if_pos, if_neg, wrap_in, hsl, List.length_cons, List.length_nil, ↓c1, ↓c2, look_upd]; try with_reducible rfl)))); (focus (simp (disch := (first | omega | (simp only [maxLen, List.length_append, List.length_cons, List.length_nil]; omega))) only [go_sem, ↓reduceIte, ↓lk, Int.reduceBEq, Int.reduceBNe, Bool.true_bne, Bool.false_bne, Bool.not_true, Bool.not_false, ↓if_pos, ↓if_neg, decide_eq_true, decide_eq_false, if_pos, if_neg, wrap_in, hsl, List.length_cons, List.length_nil, ↓c1, ↓c2, look_upd]; with_reducible rfl)))
            (repeat (first | (apply axJ; (focus ((with_reducible constructor) <;> rfl))) | ((first | apply awR hΓ | apply awG | apply ovE rfl); (simp (disch := omega) only [go_sem, ↓reduceIte, dk, ↓lk] <;> with_reducible rfl); exact trivial) | rfl))
            refine ⟨i + 1, by omega, by omega, ?_⟩
            rw [hstep]
            dsimp only
            rw [show ((n + 2 : Nat) : Int) = (n : Int) + 1 + 1 by omega, Int.natCast_add i 1, Int.natCast_one]
            exact Weak.ofF (by omega) (by (simp [ConvF, lookV, Conv, ints]; done)) (by (simp (disch := omega) only [TabSub, look, if_pos, if_neg, Obj.refsOK, refsOKs, AV.refsOK, decide_eq_true_eq, Bool.and_true, Bool.and_self] ) <;> ((repeat' apply And.intro) <;> first | exact True.intro | omega | (simp; done) | rfl)) (by simp (disch := omega) only [refsF, refsOKs, AV.refsOK, Bool.and_true, Bool.and_self, decide_eq_true_eq, Bool.true_and, Bool.and_eq_true]; (repeat' apply And.intro) <;> omega)
        · simp only [h1, h2, h3, Bool.or_self, Bool.or_true, Bool.true_or, Bool.false_eq_true, if_false, if_true] at hstep
          (repeat (first | (apply axJ; (focus ((with_reducible constructor) <;> rfl))) | ((first | apply awR hΓ | apply awG | apply ovE rfl); (simp (disch := (first | omega | (simp only [maxLen, List.length_append, List.length_cons, List.length_nil]; omega))) only [go_sem, ↓reduceIte, decide_eq_true, decide_eq_false, if_pos, if_neg, wrap_in, ↓lk, Int.reduceBEq, Int.reduceBNe, Bool.true_bne, Bool.false_bne, Bool.not_true, Bool.not_false, ↓if_pos, ↓if_neg, hy, b1, b2, b3, b4, h1, h2, h3] <;> with_reducible rfl); exact trivial) | rfl))
          (apply awp_lane3 (nst := false) (nst' := false) [false, false, true, false, false, false, false, false, false, false, true, false, false] mixedOK hΓ (n1 := 13) (by kernel_rfl) (by kernel_rfl); (focus (dsimp only [List.take_succ_cons, List.take_zero, Array.toList]; (repeat (first | (apply lane3_loud; (focus rfl); (focus rfl); (focus (simp (disch := (first | omega | (simp only [maxLen, List.length_append, List.length_cons, List.length_nil]; omega))) only [go_sem, ↓reduceIte, ↓lk, Int.reduceBEq, Int.reduceBNe, Bool.true_bne, Bool.false_bne, Bool.not_true, Bool.not_false, ↓if_pos, ↓if_neg, decide_eq_true, decide_eq_false, if_pos, if_neg, wrap_in, hsl, List.length_cons, List.length_nil, ↓c1, ↓c2, look_upd]; with_reducible rfl)); (focus (first | (simp (disch := (first | omega | (simp only [maxLen, List.length_append, List.length_cons, List.length_nil]; omega))) only [go_sem, ↓reduceIte, ↓lk, Int.reduceBEq, Int.reduceBNe, Bool.true_bne, Bool.false_bne, Bool.not_true, Bool.not_false, ↓if_pos, ↓if_neg, decide_eq_true, decide_eq_false, if_pos, if_neg, wrap_in, hsl, List.length_cons, List.length_nil, ↓c1, ↓c2, look_upd]; done) | (simp (disch := (first | omega | (simp only [maxLen, List.length_append, List.length_cons, List.length_nil]; omega))) only [go_sem, ↓reduceIte, ↓lk, Int.reduceBEq, Int.reduceBNe, Bool.true_bne, Bool.false_bne, Bool.not_true, Bool.not_false, ↓if_pos, ↓if_neg, decide_eq_true, decide_eq_false, if_pos, if_neg, wrap_in, hsl, List.length_cons, List.length_nil, ↓c1, ↓c2, look_upd]; omega)))) | (apply lane3_quiet; (focus (simp (disch := (first | omega | (simp only [maxLen, List.length_append, List.length_cons, List.length_nil]; omega))) only [go_sem, ↓reduceIte, ↓lk, Int.reduceBEq, Int.reduceBNe, Bool.true_bne, Bool.false_bne, Bool.not_true, Bool.not_false, ↓if_pos, ↓if_neg, decide_eq_true, decide_eq_false, if_pos, if_neg, wrap_in, hsl, List.length_cons, List.length_nil, ↓c1, ↓c2, look_upd]; with_reducible rfl))))); exact lane3_nil)); (focus ((repeat' (first | exact True.intro | refine And.intro ?_ ?_)); all_goals (first | (left; decide) | (left; rfl) | (right; simp (disch := (first | omega | (simp only [maxLen, List.length_append, List.length_cons, List.length_nil]; omega))) only [go_sem, ↓reduceIte, ↓lk, Int.reduceBEq, Int.reduceBNe, Bool.true_bne, Bool.false_bne, Bool.not_true, Bool.not_false, ↓if_pos, ↓if_neg, decide_eq_true, decide_eq_false, if_pos, if_neg, wrap_in, hsl, List.length_cons, List.length_nil, ↓c1, ↓c2, look_upd]; try with_reducible rfl)))); (focus (simp (disch := (first | omega | (simp only [maxLen, List.length_append, List.length_cons, List.length_nil]; omega))) only [go_sem, ↓reduceIte, ↓lk, Int.reduceBEq, Int.reduceBNe, Bool.true_bne, Bool.false_bne, Bool.not_true, Bool.not_false, ↓if_pos, ↓if_neg, decide_eq_true, decide_eq_false, if_pos, if_neg, wrap_in, hsl, List.length_cons, List.length_nil, ↓c1, ↓c2, look_upd]; with_reducible rfl)))
          (repeat (first | (apply axJ; (focus ((with_reducible constructor) <;> rfl))) | ((first | apply awR hΓ | apply awG | apply ovE rfl); (simp (disch := omega) only [go_sem, ↓reduceIte, dk, ↓lk] <;> with_reducible rfl); exact trivial) | rfl))
          refine ⟨i + 1, by omega, by omega, ?_⟩
          rw [hstep]
          dsimp only
          rw [show ((n + 2 : Nat) : Int) = (n : Int) + 1 + 1 by omega, Int.natCast_add i 1, Int.natCast_one]
          exact Weak.ofF (by omega) (by (simp [ConvF, lookV, Conv, ints]; done)) (by (simp (disch := omega) only [TabSub, look, if_pos, if_neg, Obj.refsOK, refsOKs, AV.refsOK, decide_eq_true_eq, Bool.and_true, Bool.and_self] ) <;> ((repeat' apply And.intro) <;> first | exact True.intro | omega | (simp; done) | rfl)) (by simp (disch := omega) only [refsF, refsOKs, AV.refsOK, Bool.and_true, Bool.and_self, decide_eq_true_eq, Bool.true_and, Bool.and_eq_true]; (repeat' apply And.intro) <;> omega)
      · simp only [h1, h2, Bool.or_self, Bool.or_true, Bool.true_or, Bool.false_eq_true, if_false, if_true] at hstep
        (repeat (first | (apply axJ; (focus ((with_reducible constructor) <;> rfl))) | ((first | apply awR hΓ | apply awG | apply ovE rfl); (simp (disch := (first | omega | (simp only [maxLen, List.length_append, List.length_cons, List.length_nil]; omega))) only [go_sem, ↓reduceIte, decide_eq_true, decide_eq_false, if_pos, if_neg, wrap_in, ↓lk, Int.reduceBEq, Int.reduceBNe, Bool.true_bne, Bool.false_bne, Bool.not_true, Bool.not_false, ↓if_pos, ↓if_neg, hy, b1, b2, b3, b4, h1, h2] <;> with_reducible rfl); exact trivial) | rfl))
        (apply awp_lane3 (nst := false) (nst' := false) [false, false, true, false, false, false, false, false, false, false, true, false, false] mixedOK hΓ (n1 := 13) (by kernel_rfl) (by kernel_rfl); (focus (dsimp only [List.take_succ_cons, List.take_zero, Array.toList]; (repeat (first | (apply lane3_loud; (focus rfl); (focus rfl); (focus (simp (disch := (first | omega | (simp only [maxLen, List.length_append, List.length_cons, List.length_nil]; omega))) only [go_sem, ↓reduceIte, ↓lk, Int.reduceBEq, Int.reduceBNe, Bool.true_bne, Bool.false_bne, Bool.not_true, Bool.not_false, ↓if_pos, ↓if_neg, decide_eq_true, decide_eq_false, if_pos, if_neg, wrap_in, hsl, List.length_cons, List.length_nil, ↓c1, ↓c2, look_upd]; with_reducible rfl)); (focus (first | (simp (disch := (first | omega | (simp only [maxLen, List.length_append, List.length_cons, List.length_nil]; omega))) only [go_sem, ↓reduceIte, ↓lk, Int.reduceBEq, Int.reduceBNe, Bool.true_bne, Bool.false_bne, Bool.not_true, Bool.not_false, ↓if_pos, ↓if_neg, decide_eq_true, decide_eq_false, if_pos, if_neg, wrap_in, hsl, List.length_cons, List.length_nil, ↓c1, ↓c2, look_upd]; done) | (simp (disch := (first | omega | (simp only [maxLen, List.length_append, List.length_cons, List.length_nil]; omega))) only [go_sem, ↓reduceIte, ↓lk, Int.reduceBEq, Int.reduceBNe, Bool.true_bne, Bool.false_bne, Bool.not_true, Bool.not_false, ↓if_pos, ↓if_neg, decide_eq_true, decide_eq_false, if_pos, if_neg, wrap_in, hsl, List.length_cons, List.length_nil, ↓c1, ↓c2, look_upd]; omega)))) | (apply lane3_quiet; (focus (simp (disch := (first | omega | (simp only [maxLen, List.length_append, List.length_cons, List.length_nil]; omega))) only [go_sem, ↓reduceIte, ↓lk, Int.reduceBEq, Int.reduceBNe, Bool.true_bne, Bool.false_bne, Bool.not_true, Bool.not_false, ↓if_pos, ↓if_neg, decide_eq_true, decide_eq_false, if_pos, if_neg, wrap_in, hsl, List.length_cons, List.length_nil, ↓c1, ↓c2, look_upd]; with_reducible rfl))))); exact lane3_nil)); (focus ((repeat' (first | exact True.intro | refine And.intro ?_ ?_)); all_goals (first | (left; decide) | (left; rfl) | (right; simp (disch := (first | omega | (simp only [maxLen, List.length_append, List.length_cons, List.length_nil]; omega))) only [go_sem, ↓reduceIte, ↓lk, Int.reduceBEq, Int.reduceBNe, Bool.true_bne, Bool.false_bne, Bool.not_true, Bool.not_false, ↓if_pos, ↓if_neg, decide_eq_true, decide_eq_false, if_pos, if_neg, wrap_in, hsl, List.length_cons, List.length_nil, ↓c1, ↓c2, look_upd]; try with_reducible rfl)))); (focus (simp (disch := (first | omega | (simp only [maxLen, List.length_append, List.length_cons, List.length_nil]; omega))) only [go_sem, ↓reduceIte, ↓lk, Int.reduceBEq, Int.reduceBNe, Bool.true_bne, Bool.false_bne, Bool.not_true, Bool.not_false, ↓if_pos, ↓if_neg, decide_eq_true, decide_eq_false, if_pos, if_neg, wrap_in, hsl, List.length_cons, List.length_nil, ↓c1, ↓c2, look_upd]; with_reducible rfl)))
        (repeat (first | (apply axJ; (focus ((with_reducible constructor) <;> rfl))) | ((first | apply awR hΓ | apply awG | apply ovE rfl); (simp (disch := omega) only [go_sem, ↓reduceIte, dk, ↓lk] <;> with_reducible rfl); exact trivial) | rfl))
        refine ⟨i + 1, by omega, by omega, ?_⟩
        rw [hstep]
        dsimp only
        rw [show ((n + 2 : Nat) : Int) = (n : Int) + 1 + 1 by omega, Int.natCast_add i 1, Int.natCast_one]
        exact Weak.ofF (by omega) (by (simp [ConvF, lookV, Conv, ints]; done)) (by (simp (disch := omega) only [TabSub, look, if_pos, if_neg, Obj.refsOK, refsOKs, AV.refsOK, decide_eq_true_eq, Bool.and_true, Bool.and_self] ) <;> ((repeat' apply And.intro) <;> first | exact True.intro | omega | (simp; done) | rfl)) (by simp (disch := omega) only [refsF, refsOKs, AV.refsOK, Bool.and_true, Bool.and_self, decide_eq_true_eq, Bool.true_and, Bool.and_eq_true]; (repeat' apply And.intro) <;> omega)
    · simp only [h1, if_true] at hstep
      (repeat (first | (apply axJ; (focus ((with_reducible constructor) <;> rfl))) | ((first | apply awR hΓ | apply awG | apply ovE rfl); (simp (disch := (first | omega | (simp only [maxLen, List.length_append, List.length_cons, List.length_nil]; omega))) only [go_sem, ↓reduceIte, decide_eq_true, decide_eq_false, if_pos, if_neg, wrap_in, ↓lk, Int.reduceBEq, Int.reduceBNe, Bool.true_bne, Bool.false_bne, Bool.not_true, Bool.not_false, ↓if_pos, ↓if_neg, hy, b1, h1, ↓c1] <;> with_reducible rfl); exact trivial) | rfl))
      refine ⟨i + 1, by omega, by omega, ?_⟩
      rw [hstep]
      dsimp only
      rw [Int.natCast_add n 1, Int.natCast_one, Int.natCast_add i 1, Int.natCast_one]
      exact Weak.ofF (by omega) (by (simp [ConvF, lookV, Conv, ints]; done)) (by (simp (disch := omega) only [TabSub, look, if_pos, if_neg, Obj.refsOK, refsOKs, AV.refsOK, decide_eq_true_eq, Bool.and_true, Bool.and_self] ) <;> ((repeat' apply And.intro) <;> first | exact True.intro | omega | (simp; done) | rfl)) (by simp (disch := omega) only [refsF, refsOKs, AV.refsOK, Bool.and_true, Bool.and_self, decide_eq_true_eq, Bool.true_and, Bool.and_eq_true]; (repeat' apply And.intro) <;> omega)
  · have hi3 : i = s.length := by omega
    subst hi3
    generalize hW : wRun bs s s.length = W at *
    obtain ⟨t, n⟩ := W
    dsimp only at z1 z2 hbl
    by_cases ht : t.length ≤ 1000
    rotate_left
    · have hd : decide ((t.length : Int) > 1000) = true := decide_eq_true (by omega)
      (repeat (first | (apply axJ; (focus ((with_reducible constructor) <;> rfl))) | ((first | apply awR hΓ | apply awG | apply ovE rfl); (simp (disch := omega) only [go_sem, ↓reduceIte, dk, ↓lk, Int.reduceBEq, Int.reduceBNe, Bool.true_bne, Bool.false_bne, Bool.not_true, Bool.not_false, hd] <;> with_reducible rfl); exact trivial) | rfl))
      try rfl
    have hd : decide ((t.length : Int) > 1000) = false := decide_eq_false (by omega)
    obtain ⟨k1, g1, er1⟩ := more_rep bs n
    obtain ⟨k2, g2, er2⟩ := more_rep bs (n + 1)
    obtain ⟨pp1, pp2⟩ := hbl ht k1 k2 g1 g2
    have p1 := g_parseP_eq (s := t) (by omega)
    rw [pp1] at p1
    have c1 := fun k n0 B tab => call_more k n0 B tab bs n n rfl ⟨by omega, by omega⟩
    have c2 := fun k n0 B tab => call_more k n0 B tab bs (n + 1) ((n : Int) + 1) (by omega) ⟨by omega, by omega⟩
    have m1 := more_len bs n
    have m2 := more_len bs (n + 1)
    rw [← er1, ← er2] at pp2
    clear er1 er2
    generalize moreS bs n = r1 at *
    generalize moreS bs (n + 1) = r2 at *
    have p2 := g_parseP_eq (s := r1 ++ [40] ++ t ++ [41] ++ r2) (by
      simp only [List.length_append, List.length_cons, List.length_nil]
      omega)
    rw [pp2] at p2
    simp only [ePr, eX_eq] at p1 p2
    (repeat (first | (apply axJ; (focus ((with_reducible constructor) <;> rfl))) | ((first | apply awR hΓ | apply awG | apply ovE rfl); (simp (disch := (first | omega | (simp only [maxLen, List.length_append, List.length_cons, List.length_nil]; omega))) only [go_sem, ↓reduceIte, decide_eq_true, decide_eq_false, if_pos, if_neg, wrap_in, ↓lk, Int.reduceBEq, Int.reduceBNe, Bool.true_bne, Bool.false_bne, Bool.not_true, Bool.not_false, ↓if_pos, ↓if_neg, List.getElem_cons_zero, List.getElem_cons_succ, hd, p1, p2, q1, ↓c1, ↓c2] <;> with_reducible rfl); exact trivial) | rfl))
    try rfl
end Go.Ab
