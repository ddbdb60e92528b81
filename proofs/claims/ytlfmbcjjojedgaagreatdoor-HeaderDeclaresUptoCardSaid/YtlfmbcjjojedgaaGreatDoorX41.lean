/-
  One text of the proof (own work): contracts of functions of the program, by the abstract machine.
-/
import Derived.Test.YtlfmbcjjojedgaaGreatDoorX19
import Derived.Test.YtlfmbcjjojedgaaGreatDoorX40
import Derived.Test.YtlfmbcjjojedgaaGreatDoorX23
import Derived.Test.YtlfmbcjjojedgaaGreatDoorX27
set_option linter.unusedVariables false
set_option linter.unusedSimpArgs false
namespace Go.Ab
open Go Go.RowKit Go.Proofs
set_option maxRecDepth 10000
set_option maxHeartbeats 16000000
def blnk : Bs := [32, 9, 47, 42, 35, 59, 45]
def preC (p : UInt8) : UInt8 := blnk.getD (p.toNat % 7) 0
theorem pre_cut (m : Nat) (h : m < 7) : (blnk.drop m).take 1 = [blnk.getD m 0] ∧ preB (blnk.getD m 0) = true ∧ blnk.getD m 0 ≠ 10 := by
  match m, h with
  | 0, _ => exact ⟨rfl, by decide, by decide⟩
  | 1, _ => exact ⟨rfl, by decide, by decide⟩
  | 2, _ => exact ⟨rfl, by decide, by decide⟩
  | 3, _ => exact ⟨rfl, by decide, by decide⟩
  | 4, _ => exact ⟨rfl, by decide, by decide⟩
  | 5, _ => exact ⟨rfl, by decide, by decide⟩
  | 6, _ => exact ⟨rfl, by decide, by decide⟩
def pref (ps : List UInt8) : Bs := (ps.map preC).reverse
theorem pref_take {ps : List UInt8} {j : Nat} (hj : j < ps.length) : pref (ps.take (j + 1)) = preC ps[j] :: pref (ps.take j) := by
  unfold pref
  rw [List.take_add_one, List.getElem?_eq_getElem hj, List.map_append, List.reverse_append]
  rfl
theorem pref_len (ps : List UInt8) : (pref ps).length = ps.length := by simp [pref]
theorem pref_ok (ps : List UInt8) : (pref ps).all preB = true ∧ ∀ b ∈ pref ps, b ≠ 10 := by
  unfold pref
  refine ⟨?_, fun b hb => ?_⟩
  · rw [List.all_reverse, List.all_map, List.all_eq_true]
    intro p _
    exact (pre_cut _ (Nat.mod_lt _ (by decide))).2.1
  · simp only [List.mem_reverse, List.mem_map] at hb
    obtain ⟨p, _, rfl⟩ := hb
    exact (pre_cut _ (Nat.mod_lt _ (by decide))).2.2
def mvd (m : Int) (l : List Hd) (i : Nat) : List D := ((l.take i).map (mvH m) ++ l.drop i).map eHd
theorem mvd_len (m : Int) (l : List Hd) (i : Nat) (h : i ≤ l.length) : (mvd m l i).length = l.length := by
  simp [mvd]
  omega
theorem mvd_zero (m : Int) (l : List Hd) : mvd m l 0 = l.map eHd := rfl
theorem mvd_end (m : Int) (l : List Hd) : mvd m l l.length = (l.map (mvH m)).map eHd := by simp [mvd]
theorem mvd_get {m : Int} {l : List Hd} {i : Nat} (h : i < l.length) (h2) : (mvd m l i)[i]'h2 = eHd l[i] := by
  simp only [mvd, List.getElem_map]
  congr 1
  rw [List.getElem_append_right (by rw [List.length_map, List.length_take]; omega)]
  simp [List.length_take, Nat.min_eq_left (Nat.le_of_lt h)]
theorem mvd_step {m : Int} {l : List Hd} {i : Nat} (h : i < l.length) : (mvd m l i).set i (eHd (mvH m l[i])) = mvd m l (i + 1) := by
  unfold mvd
  rw [← List.map_set]
  congr 1
  rw [List.set_append_right _ _ (by simp; omega), map_take' h, List.append_assoc, List.length_map, List.length_take, Nat.min_eq_left (Nat.le_of_lt h), Nat.sub_self]
  congr 1
  rw [List.drop_eq_getElem_cons h]
  rfl
theorem count_lib (s : Bs) (c : UInt8) : Lib.countByte s c = s.count c := rfl
noncomputable def g_law36g : List D → Option D := encSpec (fun x : Bs × Bs × UInt8 × Bs × (List UInt8) => [.str x.1, .str x.2.1, u8 x.2.2.1.toNat, .str x.2.2.2.1, .list (x.2.2.2.2.map fun q => u8 q.toNat)]) (fun x : Bs × Bs × UInt8 × Bs × (List UInt8) => x.1.length ≤ 1099511627776 ∧ x.2.1.length ≤ 1099511627776 ∧ x.2.2.2.1.length ≤ 1099511627776 ∧ x.2.2.2.2.length ≤ 1099511627776) (fun x : Bs × Bs × UInt8 × Bs × (List UInt8) => .bool true)
theorem f_law36g_ok : PureOK Tryz.prog 9 true g_law36g := by
  have hΓ := Γp f_wk36_ok (Γp f_writeP_ok (Γo f_scan_ok (Γp f_cnt1_ok (Γo f_cloH_ok (Γp f_equalH_ok (Γn))))))
  refine pure_enc (n := 125) (rs := [.tmp 10]) Tryz.func9 (by kernel_rfl) rfl (by kernel_rfl) (by kernel_rfl) ?_
  rintro ⟨va, vb, vc, vt, vp⟩ hd
  (try dsimp only at hd ⊢)
  refine ⟨fun _ => by (repeat (first | exact .int _ _ | exact .bool _ | exact .str _ | (refine .tup _ (fun d hd => ?_); simp only [List.mem_cons, List.not_mem_nil, or_false] at hd; rcases hd with rfl | hd))), fun k hz0 => ?_⟩
  obtain ⟨d1, d2, d3, d4⟩ := hd
  have e0 := g_wk36_eq
  rw [start_frame (by simp)]; simp only [enumV, go_sem, emptyH]
  by_cases l1 : (va.length : Int) > 1000
  · have h1 : decide ((va.length : Int) > 1000) = true := decide_eq_true l1
    repeat (first
      | (apply axJ; (focus ((with_reducible constructor) <;> rfl)))
      | (apply awT mixedOK hΓ (by kernel_rfl); (simp (disch := omega) only [go_sem, ↓reduceIte, dk, ↓lk, Int.reduceBEq, Int.reduceBNe, Bool.true_bne, Bool.false_bne, Bool.not_true, Bool.not_false, e0, h1] <;> with_reducible rfl))
      | ((first | apply awR hΓ | apply awG | apply awH mixedOK hΓ rfl (by kernel_rfl) | apply ovE rfl); (simp (disch := omega) only [go_sem, ↓reduceIte, dk, ↓lk, Int.reduceBEq, Int.reduceBNe, Bool.true_bne, Bool.false_bne, Bool.not_true, Bool.not_false, e0, h1] <;> with_reducible rfl); exact trivial)
      | rfl)
    try rfl
  have h1 : decide ((va.length : Int) > 1000) = false := decide_eq_false l1
  by_cases l2 : (vb.length : Int) > 1000
  · have h2 : decide ((vb.length : Int) > 1000) = true := decide_eq_true l2
    repeat (first
      | (apply axJ; (focus ((with_reducible constructor) <;> rfl)))
      | (apply awT mixedOK hΓ (by kernel_rfl); (simp (disch := omega) only [go_sem, ↓reduceIte, dk, ↓lk, Int.reduceBEq, Int.reduceBNe, Bool.true_bne, Bool.false_bne, Bool.not_true, Bool.not_false, e0, h1, h2] <;> with_reducible rfl))
      | ((first | apply awR hΓ | apply awG | apply awH mixedOK hΓ rfl (by kernel_rfl) | apply ovE rfl); (simp (disch := omega) only [go_sem, ↓reduceIte, dk, ↓lk, Int.reduceBEq, Int.reduceBNe, Bool.true_bne, Bool.false_bne, Bool.not_true, Bool.not_false, e0, h1, h2] <;> with_reducible rfl); exact trivial)
      | rfl)
    try rfl
  have h2 : decide ((vb.length : Int) > 1000) = false := decide_eq_false l2
  by_cases l3 : (vp.length : Int) > 20
  · have h3 : decide ((vp.length : Int) > 20) = true := decide_eq_true l3
    repeat (first
      | (apply axJ; (focus ((with_reducible constructor) <;> rfl)))
      | (apply awT mixedOK hΓ (by kernel_rfl); (simp (disch := omega) only [go_sem, ↓reduceIte, dk, ↓lk, Int.reduceBEq, Int.reduceBNe, Bool.true_bne, Bool.false_bne, Bool.not_true, Bool.not_false, e0, h1, h2, h3] <;> with_reducible rfl))
      | ((first | apply awR hΓ | apply awG | apply awH mixedOK hΓ rfl (by kernel_rfl) | apply ovE rfl); (simp (disch := omega) only [go_sem, ↓reduceIte, dk, ↓lk, Int.reduceBEq, Int.reduceBNe, Bool.true_bne, Bool.false_bne, Bool.not_true, Bool.not_false, e0, h1, h2, h3] <;> with_reducible rfl); exact trivial)
      | rfl)
    try rfl
  have h3 : decide ((vp.length : Int) > 20) = false := decide_eq_false l3
  by_cases l4 : (vt.length : Int) > 400
  · have h4 : decide ((vt.length : Int) > 400) = true := decide_eq_true l4
    repeat (first
      | (apply axJ; (focus ((with_reducible constructor) <;> rfl)))
      | (apply awT mixedOK hΓ (by kernel_rfl); (simp (disch := omega) only [go_sem, ↓reduceIte, dk, ↓lk, Int.reduceBEq, Int.reduceBNe, Bool.true_bne, Bool.false_bne, Bool.not_true, Bool.not_false, e0, h1, h2, h3, h4] <;> with_reducible rfl))
      | ((first | apply awR hΓ | apply awG | apply awH mixedOK hΓ rfl (by kernel_rfl) | apply ovE rfl); (simp (disch := omega) only [go_sem, ↓reduceIte, dk, ↓lk, Int.reduceBEq, Int.reduceBNe, Bool.true_bne, Bool.false_bne, Bool.not_true, Bool.not_false, e0, h1, h2, h3, h4] <;> with_reducible rfl); exact trivial)
      | rfl)
    try rfl
  have h4 : decide ((vt.length : Int) > 400) = false := decide_eq_false l4
  have hm : ((vc.toNat : Nat) : Int).tmod 2 = ((vc.toNat % 2 : Nat) : Int) := by rw [Int.tmod_eq_emod_of_nonneg (by omega)]; omega
  have hm2 : vc.toNat % 2 < 2 := Nat.mod_lt _ (by decide)
  generalize vc.toNat % 2 = m at *
  have e1 := g_writeP_eq (m := (m : Int)) (s := vt) d3
  by_cases hw : (writeB (m : Int) vt).2 = 0
  case neg =>
    have hp : (writeB (m : Int) vt).1 = [] := write_ne (e := (writeB (m : Int) vt).2) rfl hw
    rw [hp] at e1
    have hb : ((writeB (m : Int) vt).2 != 0) = true := by simpa [bne] using hw
    generalize (writeB (m : Int) vt).2 = e at *
    repeat (first
      | (apply axJ; (focus ((with_reducible constructor) <;> rfl)))
      | (apply awT mixedOK hΓ (by kernel_rfl); (simp (disch := omega) only [go_sem, ↓reduceIte, dk, ↓lk, Int.reduceBEq, Int.reduceBNe, Bool.true_bne, Bool.false_bne, Bool.not_true, Bool.not_false, BEq.rfl, e0, h1, h2, h3, h4, hm, e1, hb] <;> with_reducible rfl))
      | ((first | apply awR hΓ | apply awG | apply awH mixedOK hΓ rfl (by kernel_rfl) | apply ovE rfl); (simp (disch := omega) only [go_sem, ↓reduceIte, dk, ↓lk, Int.reduceBEq, Int.reduceBNe, Bool.true_bne, Bool.false_bne, Bool.not_true, Bool.not_false, BEq.rfl, e0, h1, h2, h3, h4, hm, e1, hb] <;> with_reducible rfl); exact trivial)
      | rfl)
    try rfl
  obtain ⟨hk, hT, hwl⟩ := write_inv (s := (writeB (m : Int) vt).1) (Prod.ext rfl hw)
  have hw2 := write_len m vt
  rw [hw, hwl] at e1
  rw [hwl] at hw2
  clear hw hwl
  repeat (first
    | (apply axJ; (focus ((with_reducible constructor) <;> rfl)))
    | (apply awT mixedOK hΓ (by kernel_rfl); (simp (disch := omega) only [go_sem, ↓reduceIte, dk, ↓lk, Int.reduceBEq, Int.reduceBNe, Bool.true_bne, Bool.false_bne, Bool.not_true, Bool.not_false, BEq.rfl, e0, h1, h2, h3, h4, hm, e1] <;> with_reducible rfl))
    | ((first | apply awR hΓ | apply awG | apply awH mixedOK hΓ rfl (by kernel_rfl) | apply ovE rfl); (simp (disch := omega) only [go_sem, ↓reduceIte, dk, ↓lk, Int.reduceBEq, Int.reduceBNe, Bool.true_bne, Bool.false_bne, Bool.not_true, Bool.not_false, BEq.rfl, e0, h1, h2, h3, h4, hm, e1] <;> with_reducible rfl); exact trivial)
    | rfl)
  have hsl0 : ∀ p : UInt8, (((p.toNat : Nat) : Int).tmod 7) = ((p.toNat % 7 : Nat) : Int) := fun p => by rw [Int.tmod_eq_emod_of_nonneg (by omega)]; omega
  refine awp_loop_at (X := Nat) (fun i => (frame 125 [(0, .data (.str va)), (1, .data (.str vb)), (3, .data (.str vt)), (11, .data (i64 m)), (12, .data (.str (pref (vp.take i) ++ lineB (m : Int) vt))), (57, .data (.list (vp.map fun q => .int .u8 (q.toNat : Int)))), (58, .data (i64 vp.length)), (59, .data (i64 i))])) (fun _ => []) 38
    (fun i => i ≤ vp.length) (fun i => vp.length - i) 0 (Nat.zero_le _) (Weak.v (by (simp [ConvF, lookV, Conv, ints, List.take_zero, pref, List.map_nil, List.reverse_nil, List.nil_append]; done)) (by (simp (disch := omega) only [TabSub, look, if_pos, if_neg, Obj.refsOK, refsOKs, AV.refsOK, decide_eq_true_eq, Bool.and_true, Bool.and_self, List.take_zero, pref, List.map_nil, List.reverse_nil, List.nil_append] ) <;> ((repeat' apply And.intro) <;> first | exact True.intro | omega | (simp; done) | rfl))) ?_
  intro i hi
  (try dsimp only at hi ⊢)
  by_cases hi2 : i < vp.length
  · have hst := pref_take hi2
    have hpl := pref_len (vp.take i)
    rw [List.length_take] at hpl
    generalize hy : vp[i] = y at *
    obtain ⟨c1, _, _⟩ := pre_cut (y.toNat % 7) (Nat.mod_lt _ (by decide))
    have hmod := Nat.mod_lt y.toNat (show 7 > 0 by decide)
    have hs7 := hsl0 y
    have hpc : preC y = blnk.getD (y.toNat % 7) 0 := rfl
    rw [← hpc] at c1
    generalize preC y = pc at *
    generalize y.toNat % 7 = q at *
    generalize pref (vp.take i) = pf at *
    generalize lineB (m : Int) vt = ln at *
    have hcl : ([pc] ++ (pf ++ ln)).length = 1 + (pf.length + ln.length) := by simp; omega
    have hcl2 : (pf ++ ln).length = pf.length + ln.length := by simp
    have hbl : blnk.length = 7 := rfl
    have hbd : (blnk.drop q).length = 7 - q := by rw [List.length_drop, hbl]
    have hb7 : (blnk.drop q).take (7 - q) = blnk.drop q := List.take_of_length_le (by omega)
    unfold blnk at hb7 hbd c1
    have c2 : List.take (Int.toNat 1 - 0) (List.drop q ([32, 9, 47, 42, 35, 59, 45] : Bs)) = [pc] := c1
    have hc1 : ([pc] : Bs).length = 1 := rfl
    repeat (first
      | (apply axJ; (focus ((with_reducible constructor) <;> rfl)))
      | (apply awT mixedOK hΓ (by kernel_rfl); (simp (disch := omega) only [go_sem, ↓reduceIte, dk, ↓lk, Int.reduceBEq, Int.reduceBNe, Bool.true_bne, Bool.false_bne, Bool.not_true, Bool.not_false, hy, hs7, hbd, hb7, c2, hc1, hcl2] <;> with_reducible rfl))
      | ((first | apply awR hΓ | apply awG | apply awH mixedOK hΓ rfl (by kernel_rfl) | apply ovE rfl); (simp (disch := omega) only [go_sem, ↓reduceIte, dk, ↓lk, Int.reduceBEq, Int.reduceBNe, Bool.true_bne, Bool.false_bne, Bool.not_true, Bool.not_false, hy, hs7, hbd, hb7, c2, hc1, hcl2] <;> with_reducible rfl); exact trivial)
      | rfl)
    have hfin : pref (vp.take (i + 1)) ++ ln = [pc] ++ (pf ++ ln) := by rw [hst]; rfl
    exact ⟨i + 1, by omega, by omega, by rw [hfin]; exact Weak.w⟩
  have hi3 : i = vp.length := by omega
  subst hi3
  rw [List.take_length]
  have hpl := pref_len vp
  obtain ⟨hpo1, hpo2⟩ := pref_ok vp
  have hsc := scan_lines (a := va) (b := vb) (k := (m : Int)) hpo1 hpo2 hk hT
  generalize hsl : pref vp ++ lineB (m : Int) vt = sl at *
  have hsll : sl.length ≤ 20 + 413 := by rw [← hsl, List.length_append]; omega
  have b1 : (va ++ [10]).length = va.length + 1 := by simp
  have b2 : (va ++ [10] ++ sl).length = va.length + 1 + sl.length := by simp; omega
  have b3 : (va ++ [10] ++ sl ++ [10]).length = va.length + 1 + sl.length + 1 := by simp; omega
  have b4 : (va ++ [10] ++ sl ++ [10] ++ vb).length = va.length + 1 + sl.length + 1 + vb.length := by simp; omega
  have b0 : ([10] : Bs).length = 1 := rfl
  have e2 := g_scan_eq (s := va ++ [10] ++ sl ++ [10] ++ vb) (by omega)
  have e3 := g_scan_eq (s := va) (by omega)
  have e4 := g_scan_eq (s := vb) (by omega)
  have e5 := g_cnt1_eq (s := va) (b := 10) d1
  rw [count_lib] at e5
  have hcn : va.count 10 ≤ va.length := List.count_le_length
  have hvbl := scanB_len vb
  have hval := scanB_len va
  have hvbo := scanGo_ok (splitB 10 vb) 0
  have hvbs := splitB_len 10 vb
  rw [hsc] at e2
  generalize va.count 10 = cnt at *
  rw [show scanGo 0 (splitB 10 vb) = scanB vb from rfl] at hvbo
  generalize scanB va = fa at *
  generalize scanB vb = fb at *
  clear hsl
  have e6 := g_cloH_eq (l := fa) (by omega)
  have hne : (((fa.length + 1 + fb.length : Nat) : Int) != (fa.length : Int) + 1 + (fb.length : Int)) = false := by simp [bne]
  repeat (first
    | (apply axJ; (focus ((with_reducible constructor) <;> rfl)))
    | (apply awT mixedOK hΓ (by kernel_rfl); (simp (disch := omega) only [go_sem, ↓reduceIte, dk, ↓lk, Int.reduceBEq, Int.reduceBNe, Bool.true_bne, Bool.false_bne, Bool.not_true, Bool.not_false, b0, b1, b2, b3, b4, e2, e3, e4, e5, hne] <;> with_reducible rfl))
    | ((first | apply awR hΓ | apply awG | apply awH mixedOK hΓ rfl (by kernel_rfl) | apply ovE rfl); (simp (disch := omega) only [go_sem, ↓reduceIte, dk, ↓lk, Int.reduceBEq, Int.reduceBNe, Bool.true_bne, Bool.false_bne, Bool.not_true, Bool.not_false, b0, b1, b2, b3, b4, e2, e3, e4, e5, hne] <;> with_reducible rfl); exact trivial)
    | rfl)
  refine awp_loop_at (X := Nat) (fun i => (frame 125 [(3, .data (.str vt)), (11, .data (i64 m)), (17, .row 48 (fa.length + 1 + fb.length)), (18, .row 50 fa.length), (19, .row 52 fb.length), (20, .data (i64 ((cnt : Int) + 1))), (95, .row 52 fb.length), (96, .data (i64 fb.length)), (97, .data (i64 i))]))
    (fun i => [(48, .row 26 3 ((fa ++ [(⟨((m : Nat) : Int), ((cnt + 1 : Nat) : Int), vt⟩ : Hd)] ++ fb.map (mvH ((cnt + 2 : Nat) : Int))).map eHd)), (50, .row 26 3 (fa.map eHd)), (52, .row 26 3 (mvd ((cnt + 2 : Nat) : Int) fb i))]) 72
    (fun i => i ≤ fb.length) (fun i => fb.length - i) 0 (Nat.zero_le _) (Weak.v (by (simp [ConvF, lookV, Conv, ints, mvd_zero]; done)) (by (simp (disch := omega) only [TabSub, look, if_pos, if_neg, Obj.refsOK, refsOKs, AV.refsOK, decide_eq_true_eq, Bool.and_true, Bool.and_self, mvd_zero] ) <;> ((repeat' apply And.intro) <;> first | exact True.intro | omega | (simp; done) | rfl))) ?_
  intro i hi
  (try dsimp only at hi ⊢)
  by_cases hi2 : i < fb.length
  · obtain ⟨hb1, hb2, hb3, hb4⟩ := hvbo fb[i] (List.getElem_mem hi2)
    have hms := mvd_step (m := ((cnt + 2 : Nat) : Int)) hi2
    have hmg := fun h2 => mvd_get (m := ((cnt + 2 : Nat) : Int)) hi2 h2
    have hml := mvd_len ((cnt + 2 : Nat) : Int) fb i hi
    generalize mvd ((cnt + 2 : Nat) : Int) fb i = R at *
    generalize hR2 : mvd ((cnt + 2 : Nat) : Int) fb (i + 1) = R2 at *
    generalize hy : fb[i] = y at *
    obtain ⟨yk, yl, yt⟩ := y
    dsimp only at hb1 hb2 hb3 hb4
    rw [eHd_eq] at hmg
    unfold mvH at hms
    rw [eHd_eq] at hms
    dsimp only at hmg hms
    rw [show yl + ((cnt + 2 : Nat) : Int) = yl + ((cnt : Int) + 1) + 1 by omega] at hms
    repeat (first
      | (apply axJ; (focus ((with_reducible constructor) <;> rfl)))
      | (apply awT mixedOK hΓ (by kernel_rfl); (simp (disch := omega) only [go_sem, ↓reduceIte, dk, ↓lk, Int.reduceBEq, Int.reduceBNe, Bool.true_bne, Bool.false_bne, Bool.not_true, Bool.not_false, hml, hmg, hms] <;> with_reducible rfl))
      | ((first | apply awR hΓ | apply awG | apply awH mixedOK hΓ rfl (by kernel_rfl) | apply ovE rfl); (simp (disch := omega) only [go_sem, ↓reduceIte, dk, ↓lk, Int.reduceBEq, Int.reduceBNe, Bool.true_bne, Bool.false_bne, Bool.not_true, Bool.not_false, hml, hmg, hms] <;> with_reducible rfl); exact trivial)
      | rfl)
    exact ⟨i + 1, by omega, by omega, by rw [hR2]; exact Weak.w⟩
  have hi3 : i = fb.length := by omega
  subst hi3
  rw [mvd_end]
  have hlen : (fa ++ [(⟨((m : Nat) : Int), ((cnt + 1 : Nat) : Int), vt⟩ : Hd)] ++ fb.map (mvH ((cnt + 2 : Nat) : Int))).length ≤ 5000 := by simp; omega
  have e7 := g_equalH_eq (a := fa ++ [(⟨((m : Nat) : Int), ((cnt + 1 : Nat) : Int), vt⟩ : Hd)] ++ fb.map (mvH ((cnt + 2 : Nat) : Int))) (b := fa ++ [(⟨((m : Nat) : Int), ((cnt + 1 : Nat) : Int), vt⟩ : Hd)] ++ fb.map (mvH ((cnt + 2 : Nat) : Int))) ⟨by omega, by omega⟩
  rw [show ∀ x : List Hd, decide (x = x) = true from fun x => decide_eq_true rfl] at e7
  clear hlen
  simp only [List.map_append, List.map_cons, List.map_nil, eHd_eq, Int.natCast_add, Int.natCast_one] at e7 ⊢
  repeat (first
    | (apply axJ; (focus ((with_reducible constructor) <;> rfl)))
    | (apply awT mixedOK hΓ (by kernel_rfl); (simp (disch := omega) only [go_sem, ↓reduceIte, dk, ↓lk, Int.reduceBEq, Int.reduceBNe, Bool.true_bne, Bool.false_bne, Bool.not_true, Bool.not_false, ↓ty_build26, e6, e7] <;> with_reducible rfl))
    | ((first | apply awR hΓ | apply awG | apply awH mixedOK hΓ rfl (by kernel_rfl) | apply ovE rfl); (simp (disch := omega) only [go_sem, ↓reduceIte, dk, ↓lk, Int.reduceBEq, Int.reduceBNe, Bool.true_bne, Bool.false_bne, Bool.not_true, Bool.not_false, ↓ty_build26, e6, e7] <;> with_reducible rfl); exact trivial)
    | rfl)
end Go.Ab
namespace Go.Ab
open Go Go.RowKit Go.Proofs
set_option maxRecDepth 4000
set_option maxHeartbeats 4000000
theorem lxs_reads {H : Type} {enc : TypeId × Value → H} {P : Program} {w : World} {t : TypeId} (hf : lxsFits P t = true) (fuel : Nat) (c3 : Value) (y3 : DataW H × List MemPlace) (hy3 : DataW.trod enc P w 0 (fun _ => true) true fuel t [c3] = some y3) :
    ∃ l : List LX, (∀ x ∈ l, x.Bd (bulk y3.1)) ∧ LX.size.sizes l + 1 ≤ bulk y3.1 ∧ CellsR w [.list (l.map eX)] [c3] := by
  cases fuel with
  | zero => simp [DataW.trod] at hy3
  | succ fuel =>
  unfold lxsFits at hf
  split at hf <;> try (cases hf; done)
  rename_i e hs
  simp only [Bool.and_eq_true, beq_iff_eq] at hf
  obtain ⟨hf, z4⟩ := hf
  unfold DataW.trod at hy3
  rw [hs] at hy3
  split at hy3 <;> first | (cases ‹some (TypeDesc.slice e) = some _›; done) | skip
  · rename_i h2
    cases h2
    refine ⟨[], fun x hx => (by cases hx), ?_, rfl, fun i hi u hu => ?_⟩
    · have := bulk_pos y3.1; simp only [LX.size.sizes]; omega
    · have hi0 : i = 0 := by simp at hi; omega
      subst hi0
      simp at hu
      subst hu
      exact .empty none 0
  · rename_i e1 a len cap h3 h2
    cases h2
    cases h3
    split at hy3
    · rename_i hc3
      simp only [Option.bind_eq_some_iff, Option.map_eq_some_iff] at hy3
      obtain ⟨elems, he, rest, hr, hdp⟩ := hy3
      obtain ⟨y3a, y3b⟩ := y3
      simp only [Prod.mk.injEq] at hdp
      obtain ⟨rfl, rfl⟩ := hdp
      obtain ⟨hel, hget⟩ := mapM_range he
      rw [z4] at hget
      have hR := slice_readsG (w := w) (len := len) (cap := cap) (sz := 4) (a := a) (pk := D.agg)
        (R := fun i ds => ∃ x : LX, ds = cellsX x ∧ ∃ hi : i < elems.length, x.Bd (bulk (elems[i]).1))
        (fun i ds hd => by
          obtain ⟨x, rfl, _⟩ := hd
          refine ⟨rfl, rfl, fun d hd => ?_⟩
          simp only [cellsX, List.mem_cons, List.not_mem_nil, or_false] at hd
          rcases hd with rfl | rfl | rfl | rfl <;> rfl)
        (by decide) hc3.2.1 (fun i hi => by
          have h2 := hget i hi (by omega)
          simp only [Option.bind_eq_some_iff] at h2
          obtain ⟨ci, h3, h4⟩ := h2
          obtain ⟨x, h5, h6⟩ := lx_reads hf fuel ci _ _ h4
          exact ⟨ci, cellsX x, h3, ⟨x, rfl, by omega, h5⟩, h6⟩)
        (fun h0 => by
          have h2 := hget 0 h0 (by omega)
          simp only [Option.bind_eq_some_iff] at h2
          obtain ⟨ci, h3, _⟩ := h2
          have := World.cells?_block h3 (by omega)
          rw [block_add] at this
          exact this)
      obtain ⟨ls, h5, h6, h7⟩ := hR
      have hch : ∃ l : List LX, l.length = ls.length ∧ ∀ i (hi : i < ls.length) (hi2 : i < l.length), ls[i] = cellsX l[i] ∧ ∃ hi : i < elems.length, (l[i]).Bd (bulk (elems[i]).1) := by
        have pick : ∀ i (hi : i < ls.length), ∃ x : LX, ls[i] = cellsX x ∧ ∃ hi : i < elems.length, x.Bd (bulk (elems[i]).1) := h6
        refine ⟨List.ofFn fun i : Fin ls.length => (pick i i.2).choose, by simp, fun i hi hi2 => ?_⟩
        simp only [List.getElem_ofFn]
        exact (pick i hi).choose_spec
      obtain ⟨l, hl, hsp⟩ := hch
      have hmap : ls.map D.agg = l.map eX := by
        apply List.ext_getElem (by simp [hl])
        intro i h1 h2
        simp only [List.length_map] at h1 h2
        simp only [List.getElem_map]
        rw [(hsp i h1 h2).1, cellsX_eq]
      rw [hmap] at h7
      have hsz : LX.size.sizes l ≤ bulkAll (elems.map (·.1)) := sizes_bulk l _ (by simp [hl, h5, hel]) (fun i h1 h2 => by
        obtain ⟨_, h8⟩ := (hsp i (by omega) h1).2
        simpa using h8.z)
      refine ⟨l, fun x hx => ?_, ?_, h7⟩
      · obtain ⟨i, hi, rfl⟩ := List.mem_iff_getElem.1 hx
        obtain ⟨hi3, h8⟩ := (hsp i (by omega) hi).2
        refine bd_mono' ?_ h8
        have := bulk_mem (List.mem_map.2 ⟨elems[i], List.getElem_mem _, rfl⟩ : elems[i].1 ∈ elems.map (·.1))
        simp only [bulk]
        omega
      · simp only [bulk]
        omega
    · cases hy3
  · cases hy3
theorem sizes_len : ∀ l : List LX, l.length ≤ LX.size.sizes l
  | [] => Nat.zero_le _
  | x :: l => by
    have h1 := sizes_len l
    have h2 := x.size_pos
    rw [LX.size.sizes, List.length_cons]
    omega
theorem rd_lxs {P : Program} {t : TypeId} (hf : lxsFits P t = true) : Rd P t RXs := fun H enc W base n v d ps h hv hb => by
  obtain ⟨fuel, h⟩ := h
  have ho : v.oneCell' = true := by
    unfold lxsFits at hf
    split at hf <;> try (cases hf; done)
    rename_i e hu
    simp only [Value.okWide, hu, Cell.okWide] at hv
    cases v <;> simp_all [Cell.ok, Value.oneCell']
  have hvc : v.cells.toList = [v] := by cases v <;> simp_all [Value.cells, Value.oneCell']
  rw [hvc] at h
  obtain ⟨l, h1, h2, h3⟩ := lxs_reads hf fuel v (d, ps) h
  have hl := sizes_len l
  refine ⟨_, ⟨l, by dsimp only at h2; omega, fun x hx => bd_mono' hb (h1 x hx), rfl⟩, ?_⟩
  have := h3.2 0 (by simp) v rfl
  simpa using this
end Go.Ab
