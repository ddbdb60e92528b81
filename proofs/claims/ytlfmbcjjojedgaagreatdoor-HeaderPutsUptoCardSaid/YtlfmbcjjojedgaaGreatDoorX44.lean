/-
  One text of the proof (own work): contracts of functions of the program, by the abstract machine.
-/
import Derived.Test.YtlfmbcjjojedgaaGreatDoorX19
import Derived.Test.YtlfmbcjjojedgaaGreatDoorX43
set_option linter.unusedVariables false
set_option linter.unusedSimpArgs false
namespace Go.Ab
open Go Go.RowKit Go.Proofs
set_option maxRecDepth 10000
set_option maxHeartbeats 16000000
theorem filter_take' {α β : Type} {q : α → Bool} {f : α → β} {l : List α} {i : Nat} (hi : i < l.length) : ((l.take (i + 1)).filter q).map f = ((l.take i).filter q).map f ++ (if q l[i] then [f l[i]] else []) := by
  rw [List.take_add_one, List.getElem?_eq_getElem hi, List.filter_append, List.map_append]
  congr 1
  show ([l[i]].filter q).map f = _
  rw [List.filter_cons]
  split <;> rfl
theorem filt_len {α β : Type} (q : α → Bool) (f : α → β) (l : List α) : ((l.filter q).map f).length ≤ l.length := by
  rw [List.length_map]
  exact List.length_filter_le _ _
theorem map_take' {α β : Type} {f : α → β} {l : List α} {i : Nat} (hi : i < l.length) : (l.take (i + 1)).map f = (l.take i).map f ++ [f l[i]] := by
  rw [List.take_add_one, List.getElem?_eq_getElem hi, List.map_append]
  rfl
noncomputable def g_law36d : List D → Option D := encSpec (fun x : Bs × UInt8 × Bs => [.str x.1, u8 x.2.1.toNat, .str x.2.2]) (fun x : Bs × UInt8 × Bs => x.1.length ≤ 1099511627776 ∧ x.2.2.length ≤ 1099511627776) (fun x : Bs × UInt8 × Bs => .bool true)
theorem f_law36d_ok : PureOK Tryz.prog 6 true g_law36d := by
  have hΓ := Γp f_wk36_ok (Γp f_putP_ok (Γo f_scan_ok (Γp f_equalS_ok (Γp f_stripP_ok (Γn)))))
  refine pure_enc (n := 119) (rs := [.tmp 6]) Tryz.func6 (by kernel_rfl) rfl (by kernel_rfl) (by kernel_rfl) ?_
  rintro ⟨s, b, u⟩ hd
  (try dsimp only at hd ⊢)
  refine ⟨fun _ => by (repeat (first | exact .int _ _ | exact .bool _ | exact .str _ | (refine .tup _ (fun d hd => ?_); simp only [List.mem_cons, List.not_mem_nil, or_false] at hd; rcases hd with rfl | hd))), fun k hz0 => ?_⟩
  obtain ⟨d1, d2⟩ := hd
  have e0 := g_wk36_eq
  rw [start_frame (by simp)]; simp only [enumV, go_sem, emptyH]
  by_cases hl : (s.length : Int) > 3000
  · have h1 : decide ((s.length : Int) > 3000) = true := decide_eq_true hl
    repeat (first
      | (apply axJ; (focus ((with_reducible constructor) <;> rfl)))
      | (apply awT mixedOK hΓ (by kernel_rfl); (simp (disch := omega) only [go_sem, ↓reduceIte, dk, ↓lk, Int.reduceBEq, Int.reduceBNe, Bool.true_bne, Bool.false_bne, Bool.not_true, Bool.not_false, e0, h1] <;> with_reducible rfl))
      | ((first | apply awR hΓ | apply awG | apply awH mixedOK hΓ rfl (by kernel_rfl) | apply ovE rfl); (simp (disch := omega) only [go_sem, ↓reduceIte, dk, ↓lk, Int.reduceBEq, Int.reduceBNe, Bool.true_bne, Bool.false_bne, Bool.not_true, Bool.not_false, e0, h1] <;> with_reducible rfl); exact trivial)
      | rfl)
    try rfl
  have h1 : decide ((s.length : Int) > 3000) = false := decide_eq_false hl
  by_cases hu : (u.length : Int) > 400
  · have h2 : decide ((u.length : Int) > 400) = true := decide_eq_true hu
    repeat (first
      | (apply axJ; (focus ((with_reducible constructor) <;> rfl)))
      | (apply awT mixedOK hΓ (by kernel_rfl); (simp (disch := omega) only [go_sem, ↓reduceIte, dk, ↓lk, Int.reduceBEq, Int.reduceBNe, Bool.true_bne, Bool.false_bne, Bool.not_true, Bool.not_false, e0, h1, h2] <;> with_reducible rfl))
      | ((first | apply awR hΓ | apply awG | apply awH mixedOK hΓ rfl (by kernel_rfl) | apply ovE rfl); (simp (disch := omega) only [go_sem, ↓reduceIte, dk, ↓lk, Int.reduceBEq, Int.reduceBNe, Bool.true_bne, Bool.false_bne, Bool.not_true, Bool.not_false, e0, h1, h2] <;> with_reducible rfl); exact trivial)
      | rfl)
    try rfl
  have h2 : decide ((u.length : Int) > 400) = false := decide_eq_false hu
  have hm : ((b.toNat : Nat) : Int).tmod 2 = ((b.toNat % 2 : Nat) : Int) := by rw [Int.tmod_eq_emod_of_nonneg (by omega)]; omega
  have hm2 : b.toNat % 2 < 2 := Nat.mod_lt _ (by decide)
  generalize b.toNat % 2 = m at *
  have e1 := g_putP_eq (s := s) (m := (m : Int)) (u := u) ⟨by omega, by omega⟩
  by_cases hw : (writeB (m : Int) u).2 = 0
  case neg =>
    have hp : putB s m u = ([], (writeB (m : Int) u).2) := by
      unfold putB
      rw [if_neg (by simpa using hw)]
    rw [hp] at e1
    dsimp only at e1
    have hb : ((writeB (m : Int) u).2 != 0) = true := by simpa [bne] using hw
    generalize (writeB (m : Int) u).2 = e at *
    repeat (first
      | (apply axJ; (focus ((with_reducible constructor) <;> rfl)))
      | (apply awT mixedOK hΓ (by kernel_rfl); (simp (disch := omega) only [go_sem, ↓reduceIte, dk, ↓lk, Int.reduceBEq, Int.reduceBNe, Bool.true_bne, Bool.false_bne, Bool.not_true, Bool.not_false, BEq.rfl, e0, h1, h2, hm, e1, hb] <;> with_reducible rfl))
      | ((first | apply awR hΓ | apply awG | apply awH mixedOK hΓ rfl (by kernel_rfl) | apply ovE rfl); (simp (disch := omega) only [go_sem, ↓reduceIte, dk, ↓lk, Int.reduceBEq, Int.reduceBNe, Bool.true_bne, Bool.false_bne, Bool.not_true, Bool.not_false, BEq.rfl, e0, h1, h2, hm, e1, hb] <;> with_reducible rfl); exact trivial)
      | rfl)
    try rfl
  obtain ⟨hk, hT, hwl⟩ := write_inv (s := (writeB (m : Int) u).1) (Prod.ext rfl hw)
  have hp : putB s m u = (joinB (lineB m u :: withoutB (isK m) s), 0) := by
    unfold putB
    rw [hw, if_pos (by rfl), hwl]
  obtain ⟨r, hs1, hs2, hs3⟩ := put_scan (s := s) hk hT
  have hag := put_again (s := s) hk hT
  have hst := put_strip (s := s) hk hT
  have htl : (joinB (lineB m u :: withoutB (isK m) s)).length ≤ 10000 := by
    have q1 := jn_le (lineB m u :: withoutB (isK m) s)
    have q2 : lens (lineB m u :: withoutB (isK m) s) = (lineB m u).length + 1 + lens (withoutB (isK m) s) := by simp [lens]
    have q3 := lens_without (isK m) s
    have q4 := write_len m u
    rw [hwl] at q4
    omega
  rw [hp] at e1
  clear hp hw hwl
  generalize joinB (lineB m u :: withoutB (isK m) s) = t at *
  have e2 := g_scan_eq (s := t) (by omega)
  have e3 := g_scan_eq (s := s) (by omega)
  have e4 := g_putP_eq (s := t) (m := (m : Int)) (u := u) ⟨by omega, by omega⟩
  rw [hag] at e4
  have e5 := g_stripP_eq (s := t) (by omega)
  have e6 := g_stripP_eq (s := s) (by omega)
  rw [hst] at e5
  have hls := scanB_len s
  have hlt := scanB_len t
  rw [hs1] at e2 hlt
  rw [List.length_cons] at hlt
  rw [List.map_cons, eHd_eq] at e2
  generalize scanB s = was at *
  clear hs1 hag hst hT
  have e7 := g_equalS_eq (a := r.map Hd.text) (b := (was.filter fun h => h.kind != (m : Int)).map Hd.text) ⟨by simp; omega, by have := filt_len (fun h : Hd => h.kind != (m : Int)) Hd.text was; omega⟩
  rw [hs3, BEq.rfl] at e7
  rw [← hs3] at e7
  have hq := eq_hd m 0 m 0 u u
  simp only [BEq.rfl, Bool.and_true] at hq
  dsimp only at e1 e4
  have hn0 : (((r.length + 1 : Nat) : Int) == 0) = false := by rw [beq_eq_false_iff_ne]; omega
  have hn1 : ((r.length : Int) + 1 == 0) = false := by rw [beq_eq_false_iff_ne]; omega
  have ht1 : List.take (r.length + 1 - 1) (List.map eHd r) = List.map eHd r := List.take_of_length_le (by simp)
  repeat (first
    | (apply axJ; (focus ((with_reducible constructor) <;> rfl)))
    | (apply awT mixedOK hΓ (by kernel_rfl); (simp (disch := omega) only [go_sem, ↓reduceIte, dk, ↓lk, Int.reduceBEq, Int.reduceBNe, Bool.true_bne, Bool.false_bne, Bool.not_true, Bool.not_false, BEq.rfl, Int.reduceToNat, List.getElem?_cons_zero, List.getElem?_cons_succ, e0, h1, h2, hm, e1, e2, e3, hq, hn0, hn1, ht1, List.length_map, ↓ty_build26] <;> with_reducible rfl))
    | ((first | apply awR hΓ | apply awG | apply awH mixedOK hΓ rfl (by kernel_rfl) | apply ovE rfl); (simp (disch := omega) only [go_sem, ↓reduceIte, dk, ↓lk, Int.reduceBEq, Int.reduceBNe, Bool.true_bne, Bool.false_bne, Bool.not_true, Bool.not_false, BEq.rfl, Int.reduceToNat, List.getElem?_cons_zero, List.getElem?_cons_succ, e0, h1, h2, hm, e1, e2, e3, hq, hn0, hn1, ht1, List.length_map, ↓ty_build26] <;> with_reducible rfl); exact trivial)
    | rfl)
  refine awp_weak (Weak.nilrowF (i := 12) 9 (sz := 1) (by omega) (by omega) rfl) ?_
  refine awp_weak (Weak.nilrowF (i := 13) 9 (sz := 1) (by omega) (by omega) rfl) ?_
  refine awp_loop_at (X := Nat) (fun i => (frame 119 [(0, .data (.str s)), (2, .data (.str u)), (7, .data (i64 m)), (8, .data (.str t)), (11, .row 29 was.length), (12, .row 50 ((r.take i).map Hd.text).length), (13, .row 51 0), (61, .data (.list (r.map eHd))), (62, .data (i64 r.length)), (63, .data (i64 i))])) (fun i => [(29, .row 26 3 (was.map eHd)), (50, .row 9 1 (((r.take i).map Hd.text).map .str)), (51, .row 9 1 [])]) 52
    (fun i => i ≤ r.length) (fun i => r.length - i) 0 (Nat.zero_le _) (Weak.v (by (simp [ConvF, lookV, Conv, ints, upd, List.take_zero, List.map_nil]; done)) (by (simp (disch := omega) only [TabSub, look, if_pos, if_neg, Obj.refsOK, refsOKs, AV.refsOK, decide_eq_true_eq, Bool.and_true, Bool.and_self, upd, List.take_zero, List.map_nil] ) <;> ((repeat' apply And.intro) <;> first | exact True.intro | omega | (simp; done) | rfl))) ?_
  intro i hi
  (try dsimp only at hi ⊢)
  by_cases hi2 : i < r.length
  · have hst := map_take' (f := Hd.text) hi2
    have hne := hs2 _ (List.getElem_mem hi2)
    have hle : ((r.take i).map Hd.text).length ≤ r.length := by simp; omega
    generalize hy : r[i] = y at *
    have hk2 : (y.kind == (m : Int)) = false := by simpa using hne
    generalize (r.take i).map Hd.text = acc at *
    have hmm : (acc ++ [y.text]).map D.str = acc.map D.str ++ [.str y.text] := by rw [List.map_append]; rfl
    repeat (first
      | (apply axJ; (focus ((with_reducible constructor) <;> rfl)))
      | (apply awT mixedOK hΓ (by kernel_rfl); (simp (disch := omega) only [go_sem, ↓reduceIte, dk, ↓lk, Int.reduceBEq, Int.reduceBNe, Bool.true_bne, Bool.false_bne, Bool.not_true, Bool.not_false, hy, hk2, eHd_eq] <;> with_reducible rfl))
      | ((first | apply awR hΓ | apply awG | apply awH mixedOK hΓ rfl (by kernel_rfl) | apply ovE rfl); (simp (disch := omega) only [go_sem, ↓reduceIte, dk, ↓lk, Int.reduceBEq, Int.reduceBNe, Bool.true_bne, Bool.false_bne, Bool.not_true, Bool.not_false, hy, hk2, eHd_eq] <;> with_reducible rfl); exact trivial)
      | rfl)
    exact ⟨i + 1, by omega, by omega, by rw [hst]; exact Weak.v (by (simp [ConvF, lookV, Conv, ints, hmm]; done)) (by (simp (disch := omega) only [TabSub, look, if_pos, if_neg, Obj.refsOK, refsOKs, AV.refsOK, decide_eq_true_eq, Bool.and_true, Bool.and_self, hmm] ) <;> ((repeat' apply And.intro) <;> first | exact True.intro | omega | (simp; done) | rfl))⟩
  have hi3 : i = r.length := by omega
  subst hi3
  rw [List.take_length]
  repeat (first
    | (apply axJ; (focus ((with_reducible constructor) <;> rfl)))
    | (apply awT mixedOK hΓ (by kernel_rfl); (simp (disch := omega) only [go_sem, ↓reduceIte, dk, ↓lk, Int.reduceBEq, Int.reduceBNe, Bool.true_bne, Bool.false_bne, Bool.not_true, Bool.not_false] <;> with_reducible rfl))
    | ((first | apply awR hΓ | apply awG | apply awH mixedOK hΓ rfl (by kernel_rfl) | apply ovE rfl); (simp (disch := omega) only [go_sem, ↓reduceIte, dk, ↓lk, Int.reduceBEq, Int.reduceBNe, Bool.true_bne, Bool.false_bne, Bool.not_true, Bool.not_false] <;> with_reducible rfl); exact trivial)
    | rfl)
  refine awp_loop_at (X := Nat) (fun i => (frame 119 [(0, .data (.str s)), (2, .data (.str u)), (7, .data (i64 m)), (8, .data (.str t)), (12, .row 50 (r.map Hd.text).length), (13, .row 51 (((was.take i).filter fun h => h.kind != (m : Int)).map Hd.text).length), (77, .row 29 was.length), (78, .data (i64 was.length)), (79, .data (i64 i))])) (fun i => [(29, .row 26 3 (was.map eHd)), (50, .row 9 1 ((r.map Hd.text).map .str)), (51, .row 9 1 ((((was.take i).filter fun h => h.kind != (m : Int)).map Hd.text).map .str))]) 70
    (fun i => i ≤ was.length) (fun i => was.length - i) 0 (Nat.zero_le _) (Weak.v (by (simp [ConvF, lookV, Conv, ints, upd, List.take_zero, List.map_nil, List.filter_nil]; done)) (by (simp (disch := omega) only [TabSub, look, if_pos, if_neg, Obj.refsOK, refsOKs, AV.refsOK, decide_eq_true_eq, Bool.and_true, Bool.and_self, upd, List.take_zero, List.map_nil, List.filter_nil] ) <;> ((repeat' apply And.intro) <;> first | exact True.intro | omega | (simp; done) | rfl))) ?_
  intro i hi
  (try dsimp only at hi ⊢)
  by_cases hi2 : i < was.length
  · have hst := filter_take' (q := fun h : Hd => h.kind != (m : Int)) (f := Hd.text) hi2
    have hle := filt_len (fun h : Hd => h.kind != (m : Int)) Hd.text (was.take i)
    have htl2 : (was.take i).length ≤ was.length := by rw [List.length_take]; omega
    generalize hy : was[i] = y at *
    generalize hk2 : (y.kind != (m : Int)) = c at *
    generalize ((was.take i).filter fun h => h.kind != (m : Int)).map Hd.text = acc at *
    cases c
    · rw [if_neg (by decide), List.append_nil] at hst
      repeat (first
        | (apply axJ; (focus ((with_reducible constructor) <;> rfl)))
        | (apply awT mixedOK hΓ (by kernel_rfl); (simp (disch := omega) only [go_sem, ↓reduceIte, dk, ↓lk, Int.reduceBEq, Int.reduceBNe, Bool.true_bne, Bool.false_bne, Bool.not_true, Bool.not_false, hy, hk2, eHd_eq] <;> with_reducible rfl))
        | ((first | apply awR hΓ | apply awG | apply awH mixedOK hΓ rfl (by kernel_rfl) | apply ovE rfl); (simp (disch := omega) only [go_sem, ↓reduceIte, dk, ↓lk, Int.reduceBEq, Int.reduceBNe, Bool.true_bne, Bool.false_bne, Bool.not_true, Bool.not_false, hy, hk2, eHd_eq] <;> with_reducible rfl); exact trivial)
        | rfl)
      exact ⟨i + 1, by omega, by omega, by rw [hst]; exact Weak.w⟩
    · rw [if_pos rfl] at hst
      have hmm : (acc ++ [y.text]).map D.str = acc.map D.str ++ [.str y.text] := by rw [List.map_append]; rfl
      repeat (first
        | (apply axJ; (focus ((with_reducible constructor) <;> rfl)))
        | (apply awT mixedOK hΓ (by kernel_rfl); (simp (disch := omega) only [go_sem, ↓reduceIte, dk, ↓lk, Int.reduceBEq, Int.reduceBNe, Bool.true_bne, Bool.false_bne, Bool.not_true, Bool.not_false, hy, hk2, eHd_eq] <;> with_reducible rfl))
        | ((first | apply awR hΓ | apply awG | apply awH mixedOK hΓ rfl (by kernel_rfl) | apply ovE rfl); (simp (disch := omega) only [go_sem, ↓reduceIte, dk, ↓lk, Int.reduceBEq, Int.reduceBNe, Bool.true_bne, Bool.false_bne, Bool.not_true, Bool.not_false, hy, hk2, eHd_eq] <;> with_reducible rfl); exact trivial)
        | rfl)
      exact ⟨i + 1, by omega, by omega, by rw [hst]; exact Weak.v (by (simp [ConvF, lookV, Conv, ints, hmm]; done)) (by (simp (disch := omega) only [TabSub, look, if_pos, if_neg, Obj.refsOK, refsOKs, AV.refsOK, decide_eq_true_eq, Bool.and_true, Bool.and_self, hmm] ) <;> ((repeat' apply And.intro) <;> first | exact True.intro | omega | (simp; done) | rfl))⟩
  have hi3 : i = was.length := by omega
  subst hi3
  rw [List.take_length]
  generalize r.map Hd.text = x1 at *
  generalize (was.filter fun h => h.kind != (m : Int)).map Hd.text = x2 at *
  subst hs3
  repeat (first
    | (apply axJ; (focus ((with_reducible constructor) <;> rfl)))
    | (apply awT mixedOK hΓ (by kernel_rfl); (simp (disch := omega) only [go_sem, ↓reduceIte, dk, ↓lk, Int.reduceBEq, Int.reduceBNe, Bool.true_bne, Bool.false_bne, Bool.not_true, Bool.not_false, BEq.rfl, e4, e5, e6, e7] <;> with_reducible rfl))
    | ((first | apply awR hΓ | apply awG | apply awH mixedOK hΓ rfl (by kernel_rfl) | apply ovE rfl); (simp (disch := omega) only [go_sem, ↓reduceIte, dk, ↓lk, Int.reduceBEq, Int.reduceBNe, Bool.true_bne, Bool.false_bne, Bool.not_true, Bool.not_false, BEq.rfl, e4, e5, e6, e7] <;> with_reducible rfl); exact trivial)
    | rfl)
  try rfl
end Go.Ab
