/-
  One text of the proof (own work): contracts of functions of the program, by the abstract machine.
-/
import Derived.Shelf.Strings.Repeat
import Derived.Test.YtabenhkajabaeaaDoorX49
import Derived.Test.YtabenhkajabaeaaDoorX23
import Derived.Test.YtabenhkajabaeaaDoorX48
import Derived.Test.YtabenhkajabaeaaDoorX44
import Derived.Test.YtabenhkajabaeaaDoorX45
import Derived.Test.YtabenhkajabaeaaDoorX24
import Derived.Test.YtabenhkajabaeaaDoorX28
set_option linter.unusedVariables false
set_option linter.unusedSimpArgs false
namespace Go.Ab
open Go Go.RowKit
theorem Weak.packd {b : Nat} {sl sl' : List AV} {H : Heap} {fp : List Nat} {objs os : List Obj} (hobj : getAll H fp = some objs) (hnd : nodupB fp = true) (hfst : ∀ i, i < b → fp[i]? = some i) (h1 : rens H (idxOf fp) sl = sl') (h2 : objs.map (renO H (idxOf fp)) = os) : Weak b sl H sl' ⟨enumO 0 os, os.length⟩ := by
  subst h1 h2
  rw [List.length_map]
  exact Weak.pack hobj hnd hfst
end Go.Ab
namespace Go.Ab
open Go Go.RowKit Go.Proofs
set_option maxRecDepth 10000
set_option maxHeartbeats 16000000
theorem wrap_nm (i : Nat) (h : i ≤ 20) : (IntKind.u8.wrap (97 + IntKind.u8.wrap (i : Int))).toNat = 97 + i := by
  have : ∀ i : Nat, i < 21 → (IntKind.u8.wrap (97 + IntKind.u8.wrap (i : Int))).toNat = 97 + i := by decide
  exact this i (by omega)
noncomputable def g_nm : List D → Option D := encSpec (fun x : Nat => [i64 x]) (fun x : Nat => x ≤ 20) (fun x : Nat => eX (nmX x))
theorem g_nm_eq {i : Nat} (hd : i ≤ 20) : g_nm [.int .i64 i] = some (eX (nmX i)) := encSpec_eq (x := i) hd fun y hy => by
    simp only [List.cons.injEq, and_true, true_and, D.str.injEq, D.int.injEq, D.list.injEq, D.bool.injEq, D.agg.injEq, D.clo.injEq, Int.natCast_inj, inj_ie] at hy
    rw [hy]
theorem f_nm_ok : PureOK Tryd.prog 23 false g_nm := by
  have hΓ := Γ0_ok
  refine pure_enc (n := 10) (rs := [.cell 2 25]) Tryd.func23 (by kernel_rfl) rfl (by kernel_rfl) (by kernel_rfl) ?_
  rintro i hd
  (try dsimp only at hd ⊢)
  refine ⟨fun h => (by cases h), fun k hz0 => ?_⟩
  have hx : nmX i = .mk 0 [97, UInt8.ofNat (97 + i)] [] [] := rfl
  rw [hx]
  rw [start_frame (by simp)]; simp only [enumV, go_sem, emptyH]
  repeat (first
    | (apply axJ; (focus ((with_reducible constructor) <;> rfl)))
    | (apply awT mixedOK hΓ (by kernel_rfl); (simp (disch := omega) only [go_sem, ↓reduceIte, dk, ↓lk, ↓ty_build25] <;> with_reducible rfl))
    | ((first | apply awR hΓ | apply awG | apply awH mixedOK hΓ rfl (by kernel_rfl) | apply ovE rfl); (simp (disch := omega) only [go_sem, ↓reduceIte, dk, ↓lk, ↓ty_build25] <;> with_reducible rfl); exact trivial)
    | rfl)
  rw [wrap_nm i hd]
noncomputable def g_one : List D → Option D := encSpec (fun x : Int × (List LX) => [i64 x.1, .list (x.2.map eX)]) (fun x : Int × (List LX) => x.2 ≠ [] ∧ x.2.length ≤ 1099511627776) (fun x : Int × (List LX) => eX (listX x.1 x.2))
theorem g_one_eq {kd : Int} {l : List LX} (hd : l ≠ [] ∧ l.length ≤ 1099511627776) : g_one [.int .i64 kd, .list (l.map eX)] = some (eX (listX kd l)) := encSpec_eq (x := (kd, l)) hd fun y hy => by
    obtain ⟨y0, y1⟩ := y; simp only [List.cons.injEq, and_true, true_and, D.str.injEq, D.int.injEq, D.list.injEq, D.bool.injEq, D.agg.injEq, D.clo.injEq, Int.natCast_inj, inj_ie] at hy
    (try obtain ⟨rfl, rfl⟩ := hy)
    (try subst_vars)
    rfl
theorem f_one_ok : PureOK Tryd.prog 24 false g_one := by
  have hΓ := Γ0_ok
  refine pure_enc (n := 14) (rs := [.cell 4 25]) Tryd.func24 (by kernel_rfl) rfl (by kernel_rfl) (by kernel_rfl) ?_
  rintro ⟨kd, l⟩ hd
  (try dsimp only at hd ⊢)
  refine ⟨fun h => (by cases h), fun k hz0 => ?_⟩
  obtain ⟨hne, hl⟩ := hd
  match l, hne, hl with
  | [x], _, _ =>
    have hx : listX kd [x] = x := rfl
    rw [hx, List.map_cons, List.map_nil, eX_eq]
    generalize x.kind = kk
    generalize x.name = nn
    generalize x.exc = ee
    generalize x.kids = dd
    rw [start_frame (by simp)]; simp only [enumV, go_sem, emptyH]
    repeat (first
      | (apply axJ; (focus ((with_reducible constructor) <;> rfl)))
      | (apply awT mixedOK hΓ (by kernel_rfl); (simp (disch := omega) only [go_sem, ↓reduceIte, dk, ↓lk, Int.reduceToNat, List.getElem?_cons_zero, List.getElem?_cons_succ, Int.reduceBEq, Int.reduceBNe, Bool.true_bne, Bool.false_bne, Bool.not_true, Bool.not_false, ↓ty_build25, List.length_cons, List.length_nil, Int.natCast_one] <;> with_reducible rfl))
      | ((first | apply awR hΓ | apply awG | apply awH mixedOK hΓ rfl (by kernel_rfl) | apply ovE rfl); (simp (disch := omega) only [go_sem, ↓reduceIte, dk, ↓lk, Int.reduceToNat, List.getElem?_cons_zero, List.getElem?_cons_succ, Int.reduceBEq, Int.reduceBNe, Bool.true_bne, Bool.false_bne, Bool.not_true, Bool.not_false, ↓ty_build25, List.length_cons, List.length_nil, Int.natCast_one] <;> with_reducible rfl); exact trivial)
      | rfl)
    try rfl
  | x :: y :: r, _, hl =>
    have hx : listX kd (x :: y :: r) = .mk kd [] [] (x :: y :: r) := rfl
    have hl2 : 2 ≤ (x :: y :: r).length := by simp
    rw [hx]
    generalize x :: y :: r = l at *
    have hb : ((l.length : Int) == 1) = false := by rw [beq_eq_false_iff_ne]; omega
    rw [start_frame (by simp)]; simp only [enumV, go_sem, emptyH]
    repeat (first
      | (apply axJ; (focus ((with_reducible constructor) <;> rfl)))
      | (apply awT mixedOK hΓ (by kernel_rfl); (simp (disch := omega) only [go_sem, ↓reduceIte, dk, ↓lk, ↓ty_build25, hb] <;> with_reducible rfl))
      | ((first | apply awR hΓ | apply awG | apply awH mixedOK hΓ rfl (by kernel_rfl) | apply ovE rfl); (simp (disch := omega) only [go_sem, ↓reduceIte, dk, ↓lk, ↓ty_build25, hb] <;> with_reducible rfl); exact trivial)
      | rfl)
    try rfl
theorem bRun_bd (l : List Bool) : ∀ i, (bRun l i).all.length ≤ i ∧ (bRun l i).part.length ≤ i + 1 ∧ (bRun l i).part ≠ [] ∧ (bRun l i).s.length ≤ 2 + 7 * i
  | 0 => ⟨Nat.le_refl _, Nat.le_refl _, by simp [bRun], by simp [bRun, nmS]⟩
  | i + 1 => by
    obtain ⟨h1, h2, h3, h4⟩ := bRun_bd l i
    show (bstep (bRun l i) i (l.getD i false)).all.length ≤ _ ∧ (bstep (bRun l i) i (l.getD i false)).part.length ≤ _ ∧ (bstep (bRun l i) i (l.getD i false)).part ≠ [] ∧ (bstep (bRun l i) i (l.getD i false)).s.length ≤ _
    generalize bRun l i = b at *
    generalize l.getD i false = o
    unfold bstep
    cases o
    · refine ⟨by simp; omega, by simp; omega, by simp, ?_⟩
      simp only [Bool.false_eq_true, if_false, List.length_append, List.length_cons, List.length_nil, nmS]
      omega
    · refine ⟨by simp; omega, by simp, by simp, ?_⟩
      simp only [if_true, List.length_append, List.length_cons, List.length_nil, nmS]
      omega
noncomputable def g_law6 : List D → Option D := encSpec (fun x : (List Bool) => [.list (x.map .bool)]) (fun x : (List Bool) => x.length ≤ 1099511627776) (fun x : (List Bool) => .bool true)
theorem f_law6_ok : PureOK Tryd.prog 6 true g_law6 := by
  have hΓ := Γp f_awake_ok (Γp f_nm_ok (Γp f_one_ok (Γp f_parseP_ok (Γp (f_equalP_ok 1099511627776) (Γn)))))
  refine pure_enc (n := 79) (rs := [.tmp 2]) Tryd.func6 (by kernel_rfl) rfl (by kernel_rfl) (by kernel_rfl) ?_
  rintro l hd
  (try dsimp only at hd ⊢)
  refine ⟨fun _ => by (repeat (first | exact .int _ _ | exact .bool _ | exact .str _ | (refine .tup _ (fun d hd => ?_); simp only [List.mem_cons, List.not_mem_nil, or_false] at hd; rcases hd with rfl | hd))), fun k hz0 => ?_⟩
  have e0 := g_awake_eq
  have n0 : g_nm [.int .i64 0] = some (.agg [.int .i64 0, .str (nmS 0), .str [], .list []]) := g_nm_eq (i := 0) (by omega)
  rw [start_frame (by simp)]; simp only [enumV, go_sem, emptyH]
  generalize hd1 : decide ((l.length : Int) > 20) = d1
  cases d1
  rotate_left
  · repeat (first
    | (apply axJ; (focus ((with_reducible constructor) <;> rfl)))
    | (apply awT mixedOK hΓ (by kernel_rfl); (simp (disch := omega) only [go_sem, ↓reduceIte, ↓lk, Int.reduceBEq, Int.reduceBNe, Bool.true_bne, Bool.false_bne, Bool.not_true, Bool.not_false, hd1, e0] <;> with_reducible rfl))
    | ((first | apply awR hΓ | apply awG | apply awH mixedOK hΓ rfl (by kernel_rfl) | apply ovE rfl); (simp (disch := omega) only [go_sem, ↓reduceIte, ↓lk, Int.reduceBEq, Int.reduceBNe, Bool.true_bne, Bool.false_bne, Bool.not_true, Bool.not_false, hd1, e0] <;> with_reducible rfl); exact trivial)
    | rfl)
    try rfl
  have hl20 : l.length ≤ 20 := by have := of_decide_eq_false hd1; omega
  repeat (first
    | (apply axJ; (focus ((with_reducible constructor) <;> rfl)))
    | (apply awT mixedOK hΓ (by kernel_rfl); (simp (disch := omega) only [go_sem, ↓reduceIte, ↓lk, Int.reduceBEq, Int.reduceBNe, Bool.true_bne, Bool.false_bne, Bool.not_true, Bool.not_false, hd1, e0, n0] <;> with_reducible rfl))
    | ((first | apply awR hΓ | apply awG | apply awH mixedOK hΓ rfl (by kernel_rfl) | apply ovE rfl); (simp (disch := omega) only [go_sem, ↓reduceIte, ↓lk, Int.reduceBEq, Int.reduceBNe, Bool.true_bne, Bool.false_bne, Bool.not_true, Bool.not_false, hd1, e0, n0] <;> with_reducible rfl); exact trivial)
    | rfl)
  refine awp_loop_at (X := Nat) (fun i => (frame 79 [(3, .data (.clo 23 [])), (4, .data (.clo 24 [])), (5, .data (.str (bRun l i).s)), (6, .row 0 (bRun l i).all.length), (7, .row 1 (bRun l i).part.length), (25, .data (.list (l.map .bool))), (26, .data (i64 l.length)), (27, .data (i64 i))]))
    (fun i => [(0, .row 25 4 ((bRun l i).all.map eX)), (1, .row 25 4 ((bRun l i).part.map eX))]) 2
    (fun i => i ≤ l.length) (fun i => l.length - i) 0 (Nat.zero_le _)
    ((Weak.nilrowF (i := 6) 25 (sz := 4) (by omega) (by omega) rfl).trans (Weak.trans (s2 := (frame 79 [(3, .data (.clo 23 [])), (4, .data (.clo 24 [])), (5, .data (.str (nmS 0))), (6, .row 20 0), (7, .row 15 1), (25, .data (.list (l.map .bool))), (26, .data (i64 l.length)), (27, .data (i64 0))]))
      (H2 := ⟨[(15, .row 25 4 [.agg [.int .i64 0, .str (nmS 0), .str [], .list []]]), (20, .row 25 4 [])], 21⟩) (Weak.v (by (simp [ConvF, lookV, Conv, ints, upd]; done)) (by (simp (disch := omega) only [TabSub, look, if_pos, if_neg, Obj.refsOK, refsOKs, AV.refsOK, decide_eq_true_eq, Bool.and_true, Bool.and_self, upd] ) <;> ((repeat' apply And.intro) <;> first | exact True.intro | omega | (simp; done) | rfl))) (Weak.packd (os := [.row 25 4 ([] : List D), .row 25 4 [.agg [.int .i64 0, .str (nmS 0), .str [], .list []]]]) (fp := [20, 15]) rfl rfl (by intro i hi; omega) rfl rfl))) ?_
  intro i hi
  (try dsimp only at hi ⊢)
  obtain ⟨z1, z2, z3, z4⟩ := bRun_bd l i
  by_cases hi2 : i < l.length
  · have hstep : bRun l (i + 1) = bstep (bRun l i) i l[i] := by
      show bstep _ _ (l.getD i false) = _
      rw [show l.getD i false = l[i] by simp [List.getD, hi2]]
    have n1 : g_nm [.int .i64 ((i : Int) + 1)] = some (.agg [.int .i64 0, .str (nmS (i + 1)), .str [], .list []]) := by
      have h := g_nm_eq (i := i + 1) (by omega)
      rw [Int.natCast_add, Int.natCast_one] at h
      exact h
    have o1 := g_one_eq (kd := 2) (l := (bRun l i).part) ⟨z3, by omega⟩
    rw [eX_eq] at o1
    have hsl : ((bRun l i).s ++ [32, 111, 114, 32] ++ nmS (i + 1)).length ≤ 200 ∧ ((bRun l i).s ++ [32, 97, 110, 100, 32] ++ nmS (i + 1)).length ≤ 200 := by
      simp only [List.length_append, List.length_cons, List.length_nil, nmS]
      omega
    have hnl : (nmS (i + 1)).length = 2 := rfl
    generalize hy : l[i] = o at *
    generalize hB : bRun l i = B at *
    cases o
    · repeat (first
      | (apply axJ; (focus ((with_reducible constructor) <;> rfl)))
      | (apply awT mixedOK hΓ (by kernel_rfl); (simp (disch := (first | omega | (simp only [maxLen, List.length_append, List.length_cons, List.length_nil]; omega))) only [go_sem, ↓reduceIte, decide_eq_true, decide_eq_false, if_pos, if_neg, wrap_in, ↓lk, Int.reduceBEq, Int.reduceBNe, Bool.true_bne, Bool.false_bne, Bool.not_true, Bool.not_false, ↓if_pos, ↓if_neg, hy, hnl, n1] <;> with_reducible rfl))
      | ((first | apply awR hΓ | apply awG | apply awH mixedOK hΓ rfl (by kernel_rfl) | apply ovE rfl); (simp (disch := (first | omega | (simp only [maxLen, List.length_append, List.length_cons, List.length_nil]; omega))) only [go_sem, ↓reduceIte, decide_eq_true, decide_eq_false, if_pos, if_neg, wrap_in, ↓lk, Int.reduceBEq, Int.reduceBNe, Bool.true_bne, Bool.false_bne, Bool.not_true, Bool.not_false, ↓if_pos, ↓if_neg, hy, hnl, n1] <;> with_reducible rfl); exact trivial)
      | rfl)
      refine ⟨i + 1, by omega, by omega, ?_⟩
      rw [hstep, show bstep B i false = ⟨B.s ++ [32, 97, 110, 100, 32] ++ nmS (i + 1), B.all, B.part ++ [nmX (i + 1)]⟩ from rfl]
      dsimp only
      have hx : (B.part ++ [nmX (i + 1)]).map eX = B.part.map eX ++ [.agg [.int .i64 0, .str (nmS (i + 1)), .str [], .list []]] := by rw [List.map_append]; rfl
      rw [hx, List.length_append, Int.natCast_add, Int.natCast_one]
      exact Weak.w
    · repeat (first
      | (apply axJ; (focus ((with_reducible constructor) <;> rfl)))
      | (apply awT mixedOK hΓ (by kernel_rfl); (simp (disch := (first | omega | (simp only [maxLen, List.length_append, List.length_cons, List.length_nil]; omega))) only [go_sem, ↓reduceIte, decide_eq_true, decide_eq_false, if_pos, if_neg, wrap_in, ↓lk, Int.reduceBEq, Int.reduceBNe, Bool.true_bne, Bool.false_bne, Bool.not_true, Bool.not_false, ↓if_pos, ↓if_neg, hy, hnl, n1, o1] <;> with_reducible rfl))
      | ((first | apply awR hΓ | apply awG | apply awH mixedOK hΓ rfl (by kernel_rfl) | apply ovE rfl); (simp (disch := (first | omega | (simp only [maxLen, List.length_append, List.length_cons, List.length_nil]; omega))) only [go_sem, ↓reduceIte, decide_eq_true, decide_eq_false, if_pos, if_neg, wrap_in, ↓lk, Int.reduceBEq, Int.reduceBNe, Bool.true_bne, Bool.false_bne, Bool.not_true, Bool.not_false, ↓if_pos, ↓if_neg, hy, hnl, n1, o1] <;> with_reducible rfl); exact trivial)
      | rfl)
      refine ⟨i + 1, by omega, by omega, ?_⟩
      rw [hstep, show bstep B i true = ⟨B.s ++ [32, 111, 114, 32] ++ nmS (i + 1), B.all ++ [listX 2 B.part], [nmX (i + 1)]⟩ from rfl]
      dsimp only
      have hx : (B.all ++ [listX 2 B.part]).map eX = B.all.map eX ++ [.agg [.int .i64 (listX 2 B.part).kind, .str (listX 2 B.part).name, .str (listX 2 B.part).exc, .list ((listX 2 B.part).kids.map eX)]] := by rw [List.map_append, List.map_cons, List.map_nil, eX_eq]
      rw [hx, List.length_append, Int.natCast_add, Int.natCast_one]
      generalize listX 2 B.part = y
      exact Weak.trans (s2 := (frame 79 [(3, .data (.clo 23 [])), (4, .data (.clo 24 [])), (5, .data (.str (B.s ++ [32, 111, 114, 32] ++ nmS (i + 1)))), (6, .row 0 (B.all.length + 1)), (7, .row 34 1), (25, .data (.list (l.map .bool))), (26, .data (i64 l.length)), (27, .data (i64 ((i : Int) + 1)))]))
        (H2 := ⟨[(0, .row 25 4 (B.all.map eX ++ [.agg [.int .i64 y.kind, .str y.name, .str y.exc, .list (y.kids.map eX)]])), (34, .row 25 4 [.agg [.int .i64 0, .str (nmS (i + 1)), .str [], .list []]])], 35⟩) (Weak.w) (Weak.packd (os := [.row 25 4 (B.all.map eX ++ [.agg [.int .i64 y.kind, .str y.name, .str y.exc, .list (y.kids.map eX)]]), .row 25 4 [.agg [.int .i64 0, .str (nmS (i + 1)), .str [], .list []]]]) (fp := [0, 34]) rfl rfl (by intro i hi; omega) rfl rfl)
  · have hi3 : i = l.length := by omega
    obtain ⟨p1, hbd⟩ := binds_ok l i (by omega)
    have hbd := bd_mono (show 1048576 ≤ 1099511627776 by decide) hbd
    have pp := g_parseP_eq (s := (bRun l i).s) (by omega)
    rw [p1] at pp
    have hh := Nat.le_trans (bWant (bRun l i)).hgt_le hbd.z
    have q1 := g_equalP_eq (h := 1099511627776) (a := bWant (bRun l i)) (b := bWant (bRun l i)) ⟨hh, hbd, hbd⟩
    rw [eqX_refl] at q1
    have o1 := g_one_eq (kd := 2) (l := (bRun l i).part) ⟨z3, by omega⟩
    have o2 := g_one_eq (kd := 3) (l := (bRun l i).all ++ [listX 2 (bRun l i).part]) ⟨by simp, by simp; omega⟩
    rw [show listX 3 ((bRun l i).all ++ [listX 2 (bRun l i).part]) = bWant (bRun l i) from rfl] at o2
    simp only [ePr, eX_eq, List.map_append, List.map_cons, List.map_nil] at pp q1 o1 o2
    generalize bRun l i = B at *
    generalize bWant B = W at *
    subst hi3
    (repeat (first | (apply axJ; (focus ((with_reducible constructor) <;> rfl))) | ((first | apply awR hΓ | apply awG | apply ovE rfl); (simp (disch := omega) only [go_sem, ↓reduceIte, dk, ↓lk, Int.reduceBEq, Int.reduceBNe, Bool.true_bne, Bool.false_bne, Bool.not_true, Bool.not_false, pp, q1, o1, o2] <;> with_reducible rfl); exact trivial) | rfl))
    try rfl
end Go.Ab
namespace Go.Ab
open Go Go.RowKit Go.Proofs Go.Shelf
set_option maxRecDepth 100000
set_option maxHeartbeats 4000000
def shRenR : Ren := ⟨fun | 99 => 43 | 105 => 25 | 165 => 44 | 166 => 45 | 169 => 47 | 170 => 46 | 206 => 66 | 212 => 42 | 240 => 67 | 241 => 68 | 263 => 64 | 264 => 65 | 276 => 79 | 277 => 80 | n => n, fun | 37 => 41 | 46 => 64 | 51 => 86 | 53 => 89 | 70 => 68 | 72 => 70 | 75 => 73 | 76 => 74 | 80 => 47 | 109 => 65 | 127 => 92 | 146 => 87 | 148 => 90 | 164 => 101 | n => n, fun | n => n⟩
theorem lay105 : Lays.n105 Tryd.prog shRenR := {
  mixed := by kernel_rfl
  f99 := by kernel_rfl
  f105 := by kernel_rfl
  f165 := by kernel_rfl
  f166 := by kernel_rfl
  f169 := by kernel_rfl
  f170 := by kernel_rfl
  f206 := by kernel_rfl
  f212 := by kernel_rfl
  f240 := by kernel_rfl
  f241 := by kernel_rfl
  f263 := by kernel_rfl
  f264 := by kernel_rfl
  f276 := by kernel_rfl
  f277 := by kernel_rfl
  t0 := by kernel_rfl
  a0 := by intro w; kernel_rfl
  z0 := by intro w; kernel_rfl
  v0 := by intro w; kernel_rfl
  t3 := by kernel_rfl
  a3 := by intro w; kernel_rfl
  z3 := by intro w; kernel_rfl
  v3 := by intro w; kernel_rfl
  t4 := by kernel_rfl
  a4 := by intro w; kernel_rfl
  z4 := by intro w; kernel_rfl
  v4 := by intro w; kernel_rfl
  t5 := by kernel_rfl
  a5 := by intro w; kernel_rfl
  z5 := by intro w; kernel_rfl
  v5 := by intro w; kernel_rfl
  t9 := by kernel_rfl
  a9 := by intro w; kernel_rfl
  z9 := by intro w; kernel_rfl
  v9 := by intro w; kernel_rfl
  t20 := by kernel_rfl
  a20 := by intro w; kernel_rfl
  z20 := by intro w; kernel_rfl
  v20 := by intro w; kernel_rfl
  t37 := by kernel_rfl
  a37 := by intro w; kernel_rfl
  z37 := by intro w; kernel_rfl
  v37 := by intro w; kernel_rfl
  t46 := by kernel_rfl
  a46 := by intro w; kernel_rfl
  z46 := by intro w; kernel_rfl
  v46 := by intro w; kernel_rfl
  t51 := by kernel_rfl
  a51 := by intro w; kernel_rfl
  z51 := by intro w; kernel_rfl
  v51 := by intro w; kernel_rfl
  t53 := by kernel_rfl
  a53 := by intro w; kernel_rfl
  z53 := by intro w; kernel_rfl
  v53 := by intro w; kernel_rfl
  t70 := by kernel_rfl
  a70 := by intro w; kernel_rfl
  z70 := by intro w; kernel_rfl
  v70 := by intro w; kernel_rfl
  t72 := by kernel_rfl
  a72 := by intro w; kernel_rfl
  z72 := by intro w; kernel_rfl
  v72 := by intro w; kernel_rfl
  t75 := by kernel_rfl
  a75 := by intro w; kernel_rfl
  z75 := by intro w; kernel_rfl
  v75 := by intro w; kernel_rfl
  t76 := by kernel_rfl
  a76 := by intro w; kernel_rfl
  z76 := by intro w; kernel_rfl
  v76 := by intro w; kernel_rfl
  t109 := by kernel_rfl
  a109 := by intro w; kernel_rfl
  z109 := by intro w; kernel_rfl
  v109 := by intro w; kernel_rfl
  t127 := by kernel_rfl
  a127 := by intro w; kernel_rfl
  z127 := by intro w; kernel_rfl
  v127 := by intro w; kernel_rfl
  t146 := by kernel_rfl
  a146 := by intro w; kernel_rfl
  z146 := by intro w; kernel_rfl
  v146 := by intro w; kernel_rfl
  t148 := by kernel_rfl
  a148 := by intro w; kernel_rfl
  z148 := by intro w; kernel_rfl
  v148 := by intro w; kernel_rfl
  t164 := by kernel_rfl
  a164 := by intro w; kernel_rfl
  z164 := by intro w; kernel_rfl
  v164 := by intro w; kernel_rfl }
theorem extraR : Builder.Extra Tryd.prog shRenR := {
  t5 := by kernel_rfl
  a5 := by intro w; kernel_rfl
  z5 := by intro w; kernel_rfl
  v5 := by intro w; kernel_rfl
  infoByte := by kernel_rfl
  cellsByte := by kernel_rfl
  sizeByte := by kernel_rfl
  neB5 := by decide
  sizeBuilder := by kernel_rfl
  liesBuilder := by kernel_rfl }
theorem repeatL_byte (b : UInt8) : ∀ c : Nat, Lib.repeatL [b] c = List.replicate c b
  | 0 => rfl
  | c + 1 => by rw [Lib.repeatL, repeatL_byte b c, List.replicate_succ]; rfl
noncomputable def g_repeat : List D → Option D := encSpec (fun x : UInt8 × Nat => [.str [x.1], i64 x.2]) (fun x => x.2 ≤ 1099511627776) (fun x => .str (List.replicate x.2 x.1))
theorem f_repeat_ok : PureOK Tryd.prog 25 true g_repeat := pure_calls Tryd.func25 (by kernel_rfl) (by kernel_rfl) (fun _ => ⟨rfl, rfl⟩) fun x hs w =>
  (Any.strings_Repeat lay105 extraR ⟨([x.1] : List UInt8).toArray⟩ x.2 w (by omega) (by simp [ByteArray.size]; omega)).mono fun e w' h => ⟨by rw [h.1]; rw [show (Lib.repeatL (([x.1] : List UInt8).toArray.toList) x.2) = List.replicate x.2 x.1 from repeatL_byte _ _]; rfl, h.2⟩
theorem g_repeat_eq {b : UInt8} {c : Nat} (h : c ≤ 1099511627776) : g_repeat [.str [b], .int .i64 c] = some (.str (List.replicate c b)) := encSpec_eq (x := (b, c)) h fun y hy => by
  obtain ⟨y0, y1⟩ := y
  simp only [List.cons.injEq, and_true, D.str.injEq, D.int.injEq, true_and, Int.natCast_inj] at hy
  obtain ⟨rfl, rfl⟩ := hy
  rfl
end Go.Ab
namespace Go.Ab
open Go Go.RowKit Go.Proofs
set_option maxRecDepth 10000
set_option maxHeartbeats 16000000
theorem xA_bd : xA.Bd 1099511627776 := bd_leaf (by decide) (by decide) (by decide)
noncomputable def g_law7 : List D → Option D := encSpec (fun x : Nat => [u8 x]) (fun x : Nat => x ≤ 255) (fun x : Nat => .bool true)
theorem f_law7_ok : PureOK Tryd.prog 7 true g_law7 := by
  have hΓ := Γp f_awake_ok (Γp f_repeat_ok (Γp f_parseP_ok (Γp (f_equalP_ok 1099511627776) (Γn))))
  refine pure_enc (n := 68) (rs := [.tmp 2]) Tryd.func7 (by kernel_rfl) rfl (by kernel_rfl) (by kernel_rfl) ?_
  rintro n hd
  (try dsimp only at hd ⊢)
  refine ⟨fun _ => by (repeat (first | exact .int _ _ | exact .bool _ | exact .str _ | (refine .tup _ (fun d hd => ?_); simp only [List.mem_cons, List.not_mem_nil, or_false] at hd; rcases hd with rfl | hd))), fun k hz0 => ?_⟩
  have e0 := g_awake_eq
  have q1 := g_equalP_eq (h := 1099511627776) (a := xA) (b := xA) ⟨by decide, xA_bd, xA_bd⟩
  rw [eqX_refl] at q1
  have hk : (n : Int).tmod 40 = ((n % 40 : Nat) : Int) := by
    rw [Int.tmod_eq_emod_of_nonneg (by omega)]
    omega
  have hk2 : n % 40 < 40 := Nat.mod_lt _ (by decide)
  rw [start_frame (by simp)]; simp only [enumV, go_sem, emptyH]
  generalize hkk : n % 40 = k at *
  have r1 := g_repeat_eq (b := 40) (c := k) (by omega)
  have r2 := g_repeat_eq (b := 41) (c := k) (by omega)
  have r3 := g_repeat_eq (b := 41) (c := k + 1) (by omega)
  have hl1 := nest_len k k
  have hl2 := nest_len k (k + 1)
  have p1 := g_parseP_eq (s := nest k k) (by omega)
  have p2 := g_parseP_eq (s := nest k (k + 1)) (by omega)
  by_cases h24 : k ≤ 24
  · rw [nest_ok h24] at p1
    rw [nest_more h24] at p2
    have hd1 : decide ((k : Int) > 24) = false := decide_eq_false (by omega)
    have hb : (((2 * k + 1 : Nat) : Int) == 2 * (k : Int) + 1) = true := by simp
    simp only [ePr, nest, eX_eq, show x0.kind = 0 from rfl, show x0.name = [] from rfl, show x0.exc = [] from rfl, show x0.kids = [] from rfl, show xA.kind = 0 from rfl, show xA.name = [97] from rfl, show xA.exc = [] from rfl, show xA.kids = [] from rfl, List.map_nil] at p1 p2 q1
    simp only [Int.natCast_add, Int.natCast_mul, Int.natCast_one, Int.cast_ofNat_Int] at r3 p2 hb
    (repeat (first | (apply axJ; (focus ((with_reducible constructor) <;> rfl))) | ((first | apply awR hΓ | apply awG | apply ovE rfl); (simp (disch := omega) only [go_sem, ↓reduceIte, dk, ↓lk, Int.reduceBEq, Int.reduceBNe, Bool.true_bne, Bool.false_bne, Bool.not_true, Bool.not_false, ↓ty_build25, hk, hd1, hb, e0, r1, r2, r3, p1, p2, q1] <;> with_reducible rfl); exact trivial) | rfl))
    try rfl
  · rw [nest_deep (by omega) (by omega)] at p1
    have hd1 : decide ((k : Int) > 24) = true := decide_eq_true (by omega)
    simp only [ePr, nest, eX_eq, show x0.kind = 0 from rfl, show x0.name = [] from rfl, show x0.exc = [] from rfl, show x0.kids = [] from rfl, List.map_nil] at p1
    (repeat (first | (apply axJ; (focus ((with_reducible constructor) <;> rfl))) | ((first | apply awR hΓ | apply awG | apply ovE rfl); (simp (disch := omega) only [go_sem, ↓reduceIte, dk, ↓lk, Int.reduceBEq, Int.reduceBNe, Bool.true_bne, Bool.false_bne, Bool.not_true, Bool.not_false, ↓ty_build25, hk, hd1, e0, r1, r2, p1] <;> with_reducible rfl); exact trivial) | rfl))
    try rfl
end Go.Ab
