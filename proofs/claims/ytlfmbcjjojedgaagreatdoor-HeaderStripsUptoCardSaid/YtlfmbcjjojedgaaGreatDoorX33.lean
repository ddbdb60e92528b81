/-
  One text of the proof (own work): contracts of functions of the program, by the abstract machine.
-/
import Derived.RangeFuncNested
import Derived.RangeFuncBound
import Derived.RangeFuncCalls
import Derived.RangeFuncLeaves
import Derived.Shelf.Abstract
import Derived.OwnWalkIn
import Derived.TacticsInMore
import Derived.LoopNIn
import Derived.LoopIn
import Derived.Test.YtlfmbcjjojedgaaGreatDoorX19
import Derived.Test.YtlfmbcjjojedgaaGreatDoorX32
import Derived.Test.YtlfmbcjjojedgaaGreatDoorX27
import Derived.Test.YtlfmbcjjojedgaaGreatDoorX23
import Derived.Test.YtlfmbcjjojedgaaGreatDoorX26
set_option linter.unusedVariables false
set_option linter.unusedSimpArgs false
namespace Go.Ab
open Go Go.RowKit Go.Proofs
set_option maxRecDepth 10000
set_option maxHeartbeats 8000000
noncomputable def g_textP (h : Nat) : List D → Option D := encSpec (fun x : LX => [eX x]) (fun x : LX => x.hgt ≤ h ∧ x.Bd 1099511627776 ∧ TxOK x) (fun x : LX => .str (textX x))
theorem g_textP_eq {h : Nat} {x : LX} (hd : x.hgt ≤ h ∧ x.Bd 1099511627776 ∧ TxOK x) : g_textP h [.agg [.int .i64 x.kind, .str x.name, .str x.exc, .list (x.kids.map eX)]] = some (.str (textX x)) := by
  have e : g_textP h [eX x] = some (.str (textX x)) := encSpec_eq (x := x) hd fun y hy => by
    simp only [List.cons.injEq, and_true, true_and, D.str.injEq, D.int.injEq, D.list.injEq, D.bool.injEq, D.agg.injEq, D.clo.injEq, Int.natCast_inj, inj_ie, lx_ie] at hy
    rw [hy]
  exact (congrArg (g_textP h) (by rw [← eX_eq x])).trans e
theorem f_textP_ok : ∀ h : Nat, PureOK Tryz.prog 67 true (g_textP h)
 | 0 => pure_void (by
    rintro x ⟨hx, _⟩
    (try dsimp only at hx)
    have := x.hgt_pos
    omega)
 | h + 1 => by
  have ih := f_textP_ok h
  have hΓ := Γp ih (Γp f_join_ok (Γn))
  refine pure_enc (n := 66) (rs := [.tmp 2]) Tryz.func67 (by kernel_rfl) rfl (by kernel_rfl) (by kernel_rfl) ?_
  rintro x hd
  (try dsimp only at hd ⊢)
  refine ⟨fun _ => by (repeat (first | exact .int _ _ | exact .bool _ | exact .str _ | (refine .tup _ (fun d hd => ?_); simp only [List.mem_cons, List.not_mem_nil, or_false] at hd; rcases hd with rfl | hd))), fun k hz0 => ?_⟩
  have hbd := hd.2.1
  have hn := hbd.n
  have hee := hbd.e
  have hz := hbd.z
  have hl := x.len_le
  have hkc := node_cases (formE_node hd.2.2.2)
  rw [textX_eq]
  rw [start_frame (by simp)]; simp only [enumV, go_sem, emptyH]
  rcases hkc with ⟨hk, h1, h2, h3⟩ | ⟨hk, h1, h2, h3⟩
  · have hl := isNameB_len h2
    rcases hk with hk | hk
    · rw [hk]
      have he : x.exc.length ≤ 32 := by
        rcases h3 with h3 | h3
        · rw [h3]; exact Nat.zero_le _
        · exact isNameB_len h3.2
      have hl2 : (x.name ++ [32, 119, 105, 116, 104, 32]).length ≤ 64 := by simp only [List.length_append, List.length_cons, List.length_nil]; omega
      generalize hc : (x.exc == []) = c
      cases c
      · repeat (first
        | (apply axJ; (focus ((with_reducible constructor) <;> rfl)))
        | (apply awT mixedOK hΓ (by kernel_rfl); (simp (disch := omega) only [go_sem, ↓reduceIte, dk, Int.reduceBEq, Int.reduceBNe, Bool.true_bne, Bool.false_bne, Bool.not_true, Bool.not_false, hk, hc] <;> with_reducible rfl))
        | ((first | apply awR hΓ | apply awG | apply awH mixedOK hΓ rfl (by kernel_rfl) | apply ovE rfl); (simp (disch := omega) only [go_sem, ↓reduceIte, dk, Int.reduceBEq, Int.reduceBNe, Bool.true_bne, Bool.false_bne, Bool.not_true, Bool.not_false, hk, hc] <;> with_reducible rfl); exact trivial)
        | rfl)
        try rfl
      · repeat (first
        | (apply axJ; (focus ((with_reducible constructor) <;> rfl)))
        | (apply awT mixedOK hΓ (by kernel_rfl); (simp (disch := omega) only [go_sem, ↓reduceIte, dk, Int.reduceBEq, Int.reduceBNe, Bool.true_bne, Bool.false_bne, Bool.not_true, Bool.not_false, hk, hc] <;> with_reducible rfl))
        | ((first | apply awR hΓ | apply awG | apply awH mixedOK hΓ rfl (by kernel_rfl) | apply ovE rfl); (simp (disch := omega) only [go_sem, ↓reduceIte, dk, Int.reduceBEq, Int.reduceBNe, Bool.true_bne, Bool.false_bne, Bool.not_true, Bool.not_false, hk, hc] <;> with_reducible rfl); exact trivial)
        | rfl)
        try rfl
    · rw [hk]
      repeat (first
        | (apply axJ; (focus ((with_reducible constructor) <;> rfl)))
        | (apply awT mixedOK hΓ (by kernel_rfl); (simp (disch := omega) only [go_sem, ↓reduceIte, dk, Int.reduceBEq, Int.reduceBNe, Bool.true_bne, Bool.false_bne, Bool.not_true, Bool.not_false, hk] <;> with_reducible rfl))
        | ((first | apply awR hΓ | apply awG | apply awH mixedOK hΓ rfl (by kernel_rfl) | apply ovE rfl); (simp (disch := omega) only [go_sem, ↓reduceIte, dk, Int.reduceBEq, Int.reduceBNe, Bool.true_bne, Bool.false_bne, Bool.not_true, Bool.not_false, hk] <;> with_reducible rfl); exact trivial)
        | rfl)
      try rfl
  · obtain ⟨hk0, hk1, hk23⟩ : (x.kind == 0) = false ∧ (x.kind == 1) = false ∧ sepX x.kind = (if x.kind == 3 then [32, 111, 114, 32] else [32, 97, 110, 100, 32]) := by
      rcases hk with hk | hk <;> (rw [hk]; exact ⟨rfl, rfl, rfl⟩)
    rw [hk0, hk1]
    generalize hc2 : (x.kind == 3) = c2 at *
    repeat (first
      | (apply axJ; (focus ((with_reducible constructor) <;> rfl)))
      | (apply awT mixedOK hΓ (by kernel_rfl); (simp (disch := omega) only [go_sem, ↓reduceIte, dk, Int.reduceBEq, Int.reduceBNe, Bool.true_bne, Bool.false_bne, Bool.not_true, Bool.not_false, hk0, hk1, hc2] <;> with_reducible rfl))
      | ((first | apply awR hΓ | apply awG | apply awH mixedOK hΓ rfl (by kernel_rfl) | apply ovE rfl); (simp (disch := omega) only [go_sem, ↓reduceIte, dk, Int.reduceBEq, Int.reduceBNe, Bool.true_bne, Bool.false_bne, Bool.not_true, Bool.not_false, hk0, hk1, hc2] <;> with_reducible rfl); exact trivial)
      | rfl)
    refine awp_mid (fun _ : Unit => (frame 66 [(1, .ptr 0 0), (3, .data (.str (sepX x.kind)))])) (fun _ => [(0, .box [.data (.int .i64 x.kind), .data (.str x.name), .data (.str x.exc), .data (.list (x.kids.map eX))])]) 40 (fun _ => True) ?_ ?_
    · cases c2
      · rw [if_neg (by decide)] at hk23
        repeat (first
          | (apply axJ; (focus ((with_reducible constructor) <;> rfl)))
          | (apply awT mixedOK hΓ (by kernel_rfl); (simp (disch := omega) only [go_sem, ↓reduceIte, dk, Int.reduceBEq, Int.reduceBNe, Bool.true_bne, Bool.false_bne, Bool.not_true, Bool.not_false] <;> with_reducible rfl))
          | ((first | apply awR hΓ | apply awG | apply awH mixedOK hΓ rfl (by kernel_rfl) | apply ovE rfl); (simp (disch := omega) only [go_sem, ↓reduceIte, dk, Int.reduceBEq, Int.reduceBNe, Bool.true_bne, Bool.false_bne, Bool.not_true, Bool.not_false] <;> with_reducible rfl); exact trivial)
          | rfl)
        exact ⟨(), trivial, Weak.v (by (simp [ConvF, lookV, Conv, ints, hk23]; done)) (by (simp (disch := omega) only [TabSub, look, if_pos, if_neg, Obj.refsOK, refsOKs, AV.refsOK, decide_eq_true_eq, Bool.and_true, Bool.and_self, hk23] ) <;> ((repeat' apply And.intro) <;> first | exact True.intro | omega | (simp; done) | rfl))⟩
      · rw [if_pos rfl] at hk23
        repeat (first
          | (apply axJ; (focus ((with_reducible constructor) <;> rfl)))
          | (apply awT mixedOK hΓ (by kernel_rfl); (simp (disch := omega) only [go_sem, ↓reduceIte, dk, Int.reduceBEq, Int.reduceBNe, Bool.true_bne, Bool.false_bne, Bool.not_true, Bool.not_false] <;> with_reducible rfl))
          | ((first | apply awR hΓ | apply awG | apply awH mixedOK hΓ rfl (by kernel_rfl) | apply ovE rfl); (simp (disch := omega) only [go_sem, ↓reduceIte, dk, Int.reduceBEq, Int.reduceBNe, Bool.true_bne, Bool.false_bne, Bool.not_true, Bool.not_false] <;> with_reducible rfl); exact trivial)
          | rfl)
        exact ⟨(), trivial, Weak.v (by (simp [ConvF, lookV, Conv, ints, hk23]; done)) (by (simp (disch := omega) only [TabSub, look, if_pos, if_neg, Obj.refsOK, refsOKs, AV.refsOK, decide_eq_true_eq, Bool.and_true, Bool.and_self, hk23] ) <;> ((repeat' apply And.intro) <;> first | exact True.intro | omega | (simp; done) | rfl))⟩
    intro _ _
    repeat (first
      | (apply axJ; (focus ((with_reducible constructor) <;> rfl)))
      | (apply awT mixedOK hΓ (by kernel_rfl); (simp (disch := omega) only [go_sem, ↓reduceIte, dk, Int.reduceBEq, Int.reduceBNe, Bool.true_bne, Bool.false_bne, Bool.not_true, Bool.not_false, ↓lk] <;> with_reducible rfl))
      | ((first | apply awR hΓ | apply awG | apply awH mixedOK hΓ rfl (by kernel_rfl) | apply ovE rfl); (simp (disch := omega) only [go_sem, ↓reduceIte, dk, Int.reduceBEq, Int.reduceBNe, Bool.true_bne, Bool.false_bne, Bool.not_true, Bool.not_false, ↓lk] <;> with_reducible rfl); exact trivial)
      | rfl)
    refine awp_weak (Weak.nilrowF (i := 4) 9 (sz := 1) (by omega) (by omega) rfl) ?_
    have hsl : (sepX x.kind).length ≤ 5 := by unfold sepX; split <;> simp
    refine awp_loop_at (X := Nat) (fun i => (frame 66 [(1, .ptr 0 0), (3, .data (.str (sepX x.kind))), (4, .row 45 (textXs x.kind (x.kids.take i)).length), (32, .data (.list (x.kids.map eX))), (33, .data (i64 x.kids.length)), (34, .data (i64 i))])) (fun i => [(0, .box [.data (.int .i64 x.kind), .data (.str x.name), .data (.str x.exc), .data (.list (x.kids.map eX))]), (45, .row 9 1 ((textXs x.kind (x.kids.take i)).map .str))]) 46
      (fun i => i ≤ x.kids.length) (fun i => x.kids.length - i) 0 (Nat.zero_le _) (Weak.v (by (simp [ConvF, lookV, Conv, ints, textXs]; done)) (by (simp (disch := omega) only [TabSub, look, if_pos, if_neg, Obj.refsOK, refsOKs, AV.refsOK, decide_eq_true_eq, Bool.and_true, Bool.and_self, textXs] ) <;> ((repeat' apply And.intro) <;> first | exact True.intro | omega | (simp; done) | rfl))) ?_
    intro i hi
    have hln : (textXs x.kind (x.kids.take i)).length = i := by rw [textXs_map, List.length_map, List.length_take]; omega
    by_cases hi2 : i < x.kids.length
    · have e := g_textP_eq (h := h) (x := x.kids[i]) ⟨(kid_at hi2 ⟨hd.1, hbd⟩).1, (kid_at hi2 ⟨hd.1, hbd⟩).2, hd.2.2.kid hi2⟩
      have htn := text_len x.kids[i] (hd.2.2.kid hi2).2
      have htz := (hd.2.2.kid hi2).1
      have hnx := textXs_take hi2
      have hpar : pText x.kind x.kids[i] = if ((x.kids[i]).kind == x.kind) || (((x.kids[i]).kind == 3) && (x.kind == 2)) then [40] ++ textX x.kids[i] ++ [41] else textX x.kids[i] := rfl
      generalize hy : x.kids[i] = y at *
      generalize textXs x.kind (x.kids.take i) = ts at *
      generalize hts : textXs x.kind (x.kids.take (i + 1)) = ts' at *
      have htx : (textX y).length ≤ 104857600 := by omega
      generalize textX y = tx at *
      have hlen1 : ([40] ++ tx).length ≤ 104857701 := by rw [List.length_append]; simp; omega
      generalize hb1 : (y.kind == x.kind) = b1 at *
      generalize hb3 : (y.kind == 3) = b3 at *
      generalize hb2 : (x.kind == 2) = b2 at *
      cases hp : (b1 || (b3 && b2)) with
      | true =>
        rw [if_pos hp] at hpar
        rw [hpar] at hnx
        cases b1
        · cases b3
          · cases hp
          · cases b2
            · cases hp
            · repeat (first
              | (apply axJ; (focus ((with_reducible constructor) <;> rfl)))
              | (apply awT mixedOK hΓ (by kernel_rfl); (simp (disch := omega) only [go_sem, ↓reduceIte, dk, Int.reduceBEq, Int.reduceBNe, Bool.true_bne, Bool.false_bne, Bool.not_true, Bool.not_false, ↓lk, hy, hb1, hb2, hb3, e] <;> with_reducible rfl))
              | ((first | apply awR hΓ | apply awG | apply awH mixedOK hΓ rfl (by kernel_rfl) | apply ovE rfl); (simp (disch := omega) only [go_sem, ↓reduceIte, dk, Int.reduceBEq, Int.reduceBNe, Bool.true_bne, Bool.false_bne, Bool.not_true, Bool.not_false, ↓lk, hy, hb1, hb2, hb3, e] <;> with_reducible rfl); exact trivial)
              | rfl)
              exact ⟨i + 1, by omega, by omega, Weak.v (by (simp [ConvF, lookV, Conv, ints, hts, hnx, hln]; done)) (by (simp (disch := omega) only [TabSub, look, if_pos, if_neg, Obj.refsOK, refsOKs, AV.refsOK, decide_eq_true_eq, Bool.and_true, Bool.and_self, hts, hnx, hln] ) <;> ((repeat' apply And.intro) <;> first | exact True.intro | omega | (simp; done) | rfl))⟩
        · repeat (first
          | (apply axJ; (focus ((with_reducible constructor) <;> rfl)))
          | (apply awT mixedOK hΓ (by kernel_rfl); (simp (disch := omega) only [go_sem, ↓reduceIte, dk, Int.reduceBEq, Int.reduceBNe, Bool.true_bne, Bool.false_bne, Bool.not_true, Bool.not_false, ↓lk, hy, hb1, hb2, hb3, e] <;> with_reducible rfl))
          | ((first | apply awR hΓ | apply awG | apply awH mixedOK hΓ rfl (by kernel_rfl) | apply ovE rfl); (simp (disch := omega) only [go_sem, ↓reduceIte, dk, Int.reduceBEq, Int.reduceBNe, Bool.true_bne, Bool.false_bne, Bool.not_true, Bool.not_false, ↓lk, hy, hb1, hb2, hb3, e] <;> with_reducible rfl); exact trivial)
          | rfl)
          exact ⟨i + 1, by omega, by omega, Weak.v (by (simp [ConvF, lookV, Conv, ints, hts, hnx, hln]; done)) (by (simp (disch := omega) only [TabSub, look, if_pos, if_neg, Obj.refsOK, refsOKs, AV.refsOK, decide_eq_true_eq, Bool.and_true, Bool.and_self, hts, hnx, hln] ) <;> ((repeat' apply And.intro) <;> first | exact True.intro | omega | (simp; done) | rfl))⟩
      | false =>
        rw [if_neg (by rw [hp]; decide)] at hpar
        rw [hpar] at hnx
        cases b1
        · cases b3
          · repeat (first
            | (apply axJ; (focus ((with_reducible constructor) <;> rfl)))
            | (apply awT mixedOK hΓ (by kernel_rfl); (simp (disch := omega) only [go_sem, ↓reduceIte, dk, Int.reduceBEq, Int.reduceBNe, Bool.true_bne, Bool.false_bne, Bool.not_true, Bool.not_false, ↓lk, hy, hb1, hb2, hb3, e] <;> with_reducible rfl))
            | ((first | apply awR hΓ | apply awG | apply awH mixedOK hΓ rfl (by kernel_rfl) | apply ovE rfl); (simp (disch := omega) only [go_sem, ↓reduceIte, dk, Int.reduceBEq, Int.reduceBNe, Bool.true_bne, Bool.false_bne, Bool.not_true, Bool.not_false, ↓lk, hy, hb1, hb2, hb3, e] <;> with_reducible rfl); exact trivial)
            | rfl)
            exact ⟨i + 1, by omega, by omega, Weak.v (by (simp [ConvF, lookV, Conv, ints, hts, hnx, hln]; done)) (by (simp (disch := omega) only [TabSub, look, if_pos, if_neg, Obj.refsOK, refsOKs, AV.refsOK, decide_eq_true_eq, Bool.and_true, Bool.and_self, hts, hnx, hln] ) <;> ((repeat' apply And.intro) <;> first | exact True.intro | omega | (simp; done) | rfl))⟩
          · cases b2
            · repeat (first
              | (apply axJ; (focus ((with_reducible constructor) <;> rfl)))
              | (apply awT mixedOK hΓ (by kernel_rfl); (simp (disch := omega) only [go_sem, ↓reduceIte, dk, Int.reduceBEq, Int.reduceBNe, Bool.true_bne, Bool.false_bne, Bool.not_true, Bool.not_false, ↓lk, hy, hb1, hb2, hb3, e] <;> with_reducible rfl))
              | ((first | apply awR hΓ | apply awG | apply awH mixedOK hΓ rfl (by kernel_rfl) | apply ovE rfl); (simp (disch := omega) only [go_sem, ↓reduceIte, dk, Int.reduceBEq, Int.reduceBNe, Bool.true_bne, Bool.false_bne, Bool.not_true, Bool.not_false, ↓lk, hy, hb1, hb2, hb3, e] <;> with_reducible rfl); exact trivial)
              | rfl)
              exact ⟨i + 1, by omega, by omega, Weak.v (by (simp [ConvF, lookV, Conv, ints, hts, hnx, hln]; done)) (by (simp (disch := omega) only [TabSub, look, if_pos, if_neg, Obj.refsOK, refsOKs, AV.refsOK, decide_eq_true_eq, Bool.and_true, Bool.and_self, hts, hnx, hln] ) <;> ((repeat' apply And.intro) <;> first | exact True.intro | omega | (simp; done) | rfl))⟩
            · cases hp
        · cases hp
    · have hi' : i = x.kids.length := by omega
      subst hi'
      have htl := tails_len hd.2.2 x.kids.length
      rw [List.take_length] at htl hln ⊢
      have ej := g_join_eq (l := textXs x.kind x.kids) (s := sepX x.kind) ⟨by omega, by omega⟩
      refine awp_weak (Weak.freeze (o := 45) rfl) ?_
      repeat (first
        | (apply axJ; (focus ((with_reducible constructor) <;> rfl)))
        | (apply awT mixedOK hΓ (by kernel_rfl); (simp (disch := omega) only [go_sem, ↓reduceIte, dk, ↓lk, hln, ej] <;> with_reducible rfl))
        | ((first | apply awR hΓ | apply awG | apply awH mixedOK hΓ rfl (by kernel_rfl) | apply ovE rfl); (simp (disch := omega) only [go_sem, ↓reduceIte, dk, ↓lk, hln, ej] <;> with_reducible rfl); exact trivial)
        | rfl)
      try rfl
end Go.Ab
namespace Go.Ab
open Go Go.RowKit Go.Proofs Go.Shelf
set_option maxRecDepth 100000
set_option maxHeartbeats 4000000
attribute [local go_sem] Oper.semAt_some
mutual
def preX : LX → List LX
  | .mk k n e l => .mk k n e l :: preXs l
def preXs : List LX → List LX
  | [] => []
  | x :: l => preX x ++ preXs l
end
theorem preX_eq (x : LX) : preX x = x :: preXs x.kids := by cases x; rw [preX]; rfl
theorem preXs_append : ∀ a b : List LX, preXs (a ++ b) = preXs a ++ preXs b
  | [], b => by simp [preXs]
  | x :: a, b => by simp only [List.cons_append, preXs, preXs_append a b, List.append_assoc]
theorem preX_len (x : LX) : (preX x).length = x.size := by
  refine LX.ind (p := fun x => (preX x).length = x.size) (fun k n e l ih => ?_) x
  rw [preX, LX.size, List.length_cons]
  congr 1
  induction l with
  | nil => rfl
  | cons y l il => rw [preXs, List.length_append, LX.size.sizes, ih y (by simp), il (fun z hz => ih z (by simp [hz]))]
structure Kp (cb N1 : Nat) (W W' : World) : Prop where
  b : Below N1 W W'
  c : ∀ b o, b ≠ cb → W.heap[b]? = some o → o.isCells = true → W'.heap[b]? = some o
theorem Kp.size {cb N1 : Nat} {W W' : World} (h : Kp cb N1 W W') : W.heap.size ≤ W'.heap.size := h.b.size
theorem Kp.refl (cb N1 : Nat) (W : World) : Kp cb N1 W W := ⟨.refl _ _, fun _ _ _ h _ => h⟩
theorem Kp.trans {cb N1 : Nat} {A B C : World} (h : Kp cb N1 A B) (k : Kp cb N1 B C) : Kp cb N1 A C := ⟨h.b.trans k.b, fun b o hb ho hc => k.c b o hb (h.c b o hb ho hc) hc⟩
theorem Kp.alloc {cb N1 : Nat} {A B : World} (h : Kp cb N1 A B) (hn : N1 ≤ A.heap.size) (o : Go.Obj) : Kp cb N1 A (B.alloc o) := ⟨h.b.alloc (Nat.le_trans hn h.size) o, fun b o' hb ho hc => (Below.heap_alloc B o b (heap_lt (h.c b o' hb ho hc))).trans (h.c b o' hb ho hc)⟩
theorem Kp.putObj {cb N1 : Nat} {A B : World} (h : Kp cb N1 A B) {l : Nat} (hl : N1 ≤ l) {o : Go.Obj} (ho : B.heap[l]? = some o) (hc : o.isCells = false) (o' : Go.Obj) : Kp cb N1 A (B.putObj l o') :=
  ⟨h.b.grown (grownBy_putObj' B l o') (by have := heap_lt ho; omega) (fun k e => by cases e; exact hl), fun b o2 hb ho2 hc2 => by
    have h1 := h.c b o2 hb ho2 hc2
    by_cases e : b = l
    · subst e
      rw [ho] at h1
      cases h1
      rw [hc] at hc2
      cases hc2
    · exact ((grownBy_putObj' B l o').block b (heap_lt h1) (fun e2 => e (by cases e2; rfl))).trans h1⟩
theorem Kp.setCell {cb N1 : Nat} {A B : World} (h : Kp cb N1 A B) (hn : N1 ≤ cb) (o : Nat) (u : Value) : Kp cb N1 A (B.setCell ⟨cb, o, none⟩ u) :=
  ⟨h.b.setCell hn u, fun b o2 hb ho2 hc2 => (Below.heap_setCell _ _ _ _ hb).trans (h.c b o2 hb ho2 hc2)⟩
theorem Kp.below {cb N1 n : Nat} {A B : World} (h : Below n A B) (hn : A.heap.size ≤ n) (h1 : N1 ≤ n) : Kp cb N1 A B := ⟨h.mono h1, fun b o _ ho _ => (h.block b (by have := heap_lt ho; omega)).trans ho⟩
theorem Kp.cell {cb N1 : Nat} {A B : World} (h : Kp cb N1 A B) {a : Addr} {v : Value} (hb : a.block ≠ cb) (hc : A.cell? a = some v) : B.cell? a = some v := by
  obtain ⟨o, ho, hoc⟩ := cells_of_cell hc
  rw [World.cell?_of_block (w := A) (w' := B) (a := a) (by rw [h.c a.block o hb ho hoc, ho])]
  exact hc
def intV : Value → Int
  | .int _ n => n
  | _ => 0
structure Nd (W0 : World) (B : Nat → Prop) where
  x : LX
  v : Value
  h : DR W0 B (eX x) v
  bd : x.Bd 1099511627776
theorem add_off (a : Addr) (k j : Nat) : a.add (k + (j + 1)) = ⟨(a.add k).block, (a.add k).off + (j + 1), none⟩ := by
  rw [← add_add]
  unfold Addr.add
  rw [if_neg (by omega)]
theorem eX_cells (y : LX) : (eX y).cells = [.int .i64 y.kind, .str y.name, .str y.exc, .list (y.kids.map eX)] := by rw [eX_eq]; rfl
abbrev nodeV (x : LX) (ao : Option Addr) (cap : Nat) : Value := .agg #[.int .i64 x.kind, .string ⟨x.name.toArray⟩, .string ⟨x.exc.toArray⟩, .slice ao x.kids.length cap]
theorem node_inv {W0 : World} {B : Nat → Prop} {x : LX} {v : Value} (h : DR W0 B (eX x) v) : ∃ ao cap, v = nodeV x ao cap ∧ (x.kids = [] ∨ ∃ a, ao = some a ∧ B a.block ∧ x.kids.length ≤ cap ∧ ∀ i (hi : i < x.kids.length), ∃ ao' cap',
    W0.cell? (a.add (i * 4)) = some (.int .i64 (x.kids[i]).kind) ∧ W0.cell? ⟨(a.add (i * 4)).block, (a.add (i * 4)).off + 1, none⟩ = some (.string ⟨(x.kids[i]).name.toArray⟩) ∧ W0.cell? ⟨(a.add (i * 4)).block, (a.add (i * 4)).off + 2, none⟩ = some (.string ⟨(x.kids[i]).exc.toArray⟩) ∧
    W0.cell? ⟨(a.add (i * 4)).block, (a.add (i * 4)).off + 3, none⟩ = some (.slice ao' (x.kids[i]).kids.length cap') ∧ DR W0 B (eX x.kids[i]) (nodeV x.kids[i] ao' cap')) := by
  rw [eX_eq] at h
  obtain ⟨vs, u, rfl, hz, _, hv, hh⟩ := h.agg_inv
  simp only [List.length_cons, List.length_nil] at hz
  have h0 := hh 0 (by simp)
  have h1 := hh 1 (by simp)
  have h2 := hh 2 (by simp)
  have h3 := hh 3 (by simp)
  simp only [List.getElem_cons_zero, List.getElem_cons_succ] at h0 h1 h2 h3
  have v0 := hv 0 (by simp)
  have v1 := hv 1 (by simp)
  have v2 := hv 2 (by simp)
  have v3 := hv 3 (by simp)
  rw [h0.int_eq] at v0
  rw [h1.str_eq] at v1
  rw [h2.str_eq] at v2
  obtain ⟨ao, cap, e3, hl⟩ := h3.list_inv
  rw [e3] at v3
  rw [List.length_map] at v3
  refine ⟨ao, cap, ?_, ?_⟩
  · congr 1
    apply Array.ext_getElem?
    intro i
    match i with
    | 0 => rw [v0]; rfl
    | 1 => rw [v1]; rfl
    | 2 => rw [v2]; rfl
    | 3 => rw [v3]; rfl
    | i + 4 => rw [Array.getElem?_eq_none (by omega), Array.getElem?_eq_none (by simp)]
  · rcases hl with hl | ⟨a, sz, u', rfl, hb, hc, hs, ho, hm, hd⟩
    · exact .inl (List.map_eq_nil_iff.1 hl)
    · by_cases hk : x.kids = []
      · exact .inl hk
      refine .inr ⟨a, rfl, hb, by simpa using hc, fun i hi => ?_⟩
      have hsz : sz = 4 := by
        have := hs (eX x.kids[i]) (List.mem_map.2 ⟨_, List.getElem_mem hi, rfl⟩)
        rw [eX_cells] at this
        simpa using this.symm
      subst hsz
      have hg : ∀ j (hj : j < 4), ∃ hlt : i * 4 + j < (Ab.flat (x.kids.map eX)).length, (Ab.flat (x.kids.map eX))[i * 4 + j] = ([.int .i64 (x.kids[i]).kind, .str (x.kids[i]).name, .str (x.kids[i]).exc, .list ((x.kids[i]).kids.map eX)] : List D)[j]'(by simpa using hj) := fun j hj => by
        have h1 := flat_get hs (i := i) (j := j) (d := eX x.kids[i]) (by simp [hi]) hj
        rw [eX_cells] at h1
        exact List.getElem?_eq_some_iff.1 (h1.trans (List.getElem?_eq_getElem (by simpa using hj)))
      obtain ⟨l0, g0⟩ := hg 0 (by omega)
      obtain ⟨l1, g1⟩ := hg 1 (by omega)
      obtain ⟨l2, g2⟩ := hg 2 (by omega)
      obtain ⟨l3, g3⟩ := hg 3 (by omega)
      have d0 := hd _ l0
      have d1 := hd _ l1
      have d2 := hd _ l2
      have d3 := hd _ l3
      rw [g0] at d0
      rw [g1] at d1
      rw [g2] at d2
      rw [g3] at d3
      simp only [eX_cells, List.getElem_cons_zero, List.getElem_cons_succ] at d0 d1 d2 d3
      have m0 := hm _ l0
      have m1 := hm _ l1
      have m2 := hm _ l2
      have m3 := hm _ l3
      rw [d0.int_eq] at m0
      rw [d1.str_eq, add_off] at m1
      rw [d2.str_eq, add_off] at m2
      obtain ⟨ao', cap', e3', _⟩ := d3.list_inv
      rw [e3', add_off, List.length_map] at m3
      refine ⟨ao', cap', m0, m1, m2, m3, ?_⟩
      rw [eX_eq]
      rw [e3', List.length_map] at d3
      refine .agg _ _ (fun j => (#[.int .i64 (x.kids[i]).kind, .string ⟨(x.kids[i]).name.toArray⟩, .string ⟨(x.kids[i]).exc.toArray⟩, .slice ao' (x.kids[i]).kids.length cap'] : Array Value).getD j undef) (by simp) (by simp [D.one]) (fun j hj => ?_) (fun j hj => ?_)
      · match j, hj with
        | 0, _ => rfl
        | 1, _ => rfl
        | 2, _ => rfl
        | 3, _ => rfl
      · match j, hj with
        | 0, _ => exact .int _ _
        | 1, _ => exact .str _
        | 2, _ => exact .str _
        | 3, _ => exact d3
theorem visit {W0 : World} {B : Nat → Prop} {cb N1 l sb N : Nat} (hB : ∀ b, B b → b ≠ cb) (hcb : cb < W0.heap.size) (hN1 : N1 ≤ W0.heap.size) (hsb : sb ≠ cb) (hself : W0.cell? ⟨sb, 0, none⟩ = some (.func (.func 101) #[] #[.pointer (some ⟨sb, 0, none⟩)])) (J Jx : List (Nd W0 B) → World → Prop)
    (hJa : ∀ s W o, J s W → J s (W.alloc o))
    (hY : ∀ m pre (p : Nd W0 B) W, Kp cb N1 W0 W → J pre W → pre.length < N → YieldAt Fence.wide m Tryz.prog l #[p.v] W fun e W' => (e = .returned (.bool true) ∧ J (pre ++ [p]) W' ∧ Kp cb N1 W W') ∨ (e = .returned (.bool false) ∧ Jx (pre ++ [p]) W')) (x : LX) :
    ∀ (v : Value) (_ : DR W0 B (eX x) v) (pre : List (Nd W0 B)) (W : World), x.Bd 1099511627776 → Kp cb N1 W0 W → J pre W → pre.length + x.size ≤ N →
      Calls Tryz.prog 101 #[v, .func (.yield l) #[] #[], .pointer (some ⟨sb, 0, none⟩)] W fun e W' =>
        (e = .returned (.bool true) ∧ (∃ q : List (Nd W0 B), q.map Nd.x = preX x ∧ J (pre ++ q) W') ∧ Kp cb N1 W W') ∨ (e = .returned (.bool false) ∧ ∃ q : List (Nd W0 B), q.map Nd.x <+: preX x ∧ Jx (pre ++ q) W') := by
  refine LX.ind (p := fun x => ∀ (v : Value) (_ : DR W0 B (eX x) v) (pre : List (Nd W0 B)) (W : World), x.Bd 1099511627776 → Kp cb N1 W0 W → J pre W → pre.length + x.size ≤ N →
      Calls Tryz.prog 101 #[v, .func (.yield l) #[] #[], .pointer (some ⟨sb, 0, none⟩)] W fun e W' =>
        (e = .returned (.bool true) ∧ (∃ q : List (Nd W0 B), q.map Nd.x = preX x ∧ J (pre ++ q) W') ∧ Kp cb N1 W W') ∨ (e = .returned (.bool false) ∧ ∃ q : List (Nd W0 B), q.map Nd.x <+: preX x ∧ Jx (pre ++ q) W')) (fun k0 n0 e0 l0 ih => ?_) x
  clear x
  generalize hx : LX.mk k0 n0 e0 l0 = x
  have hkids : x.kids = l0 := by rw [← hx]; rfl
  rw [← hkids] at ih
  clear hx hkids
  intro v h pre W hbig h0 hJ hN
  obtain ⟨ao, cap, rfl, hk⟩ := node_inv h
  have hbd := hbig
  replace hbig := hbd.z
  have hlen := x.len_le
  refine (callsIn_wide (n := 6)).1 ?_
  obtain ⟨fn, tmps, assign, body, hy, hR⟩ := hY 5 pre ⟨x, _, h, hbd⟩ (W.alloc (.cells #[.int .i64 x.kind, .string ⟨x.name.toArray⟩, .string ⟨x.exc.toArray⟩, .slice ao x.kids.length cap] 33)) (h0.alloc hN1 _) (hJa _ _ _ hJ) (by have := x.size_pos; omega)
  dsimp only at hy
  refine callsIn_of_wp Tryz.func101 rfl trivial ?_ rfl
  simp only [Tryz.ntmps101, List.size_toArray, List.length_cons, List.length_nil, Nat.reduceAdd, Nat.reduceSub, Array.replicate_succ, Array.replicate_zero, List.push_toArray, List.append_toArray, List.nil_append, List.cons_append]
  gi_wp2
  refine hR.mono ?_
  rintro e W1 (⟨rfl, hJ1, hk1⟩ | ⟨rfl, hx1⟩)
  · have hc3 : W1.cell? ⟨W.heap.size, 3, none⟩ = some (.slice ao x.kids.length cap) := hk1.cell (a := ⟨W.heap.size, 3, none⟩) (by have := h0.size; simp only; omega) (by rw [World.cell?]; simp only [heap_alloc_new]; rfl)
    have hk0 : Kp cb N1 W0 W1 := (h0.alloc hN1 _).trans hk1
    have hkW : Kp cb N1 W W1 := ((Kp.refl cb N1 W).alloc (Nat.le_trans hN1 h0.size) _).trans hk1
    rcases hk with hk | ⟨a, rfl, hab, hcap, hk⟩
    · rw [hk] at hc3
      simp only [List.length_nil] at hc3
      gi_wp2
      gi_loopw [15] (fun p wr => p = .int .i64 0 ∧ wr = W1) (fun p wr => 0)
      case atStart => exact ⟨rfl, rfl⟩
      case round =>
        obtain ⟨rfl, rfl⟩ := hrel
        gi_wp2
        exact bodyPost_ret (results_tmp rfl _ _ _) rfl (.inl ⟨rfl, ⟨[⟨x, _, h, hbd⟩], by rw [preX_eq, hk]; rfl, hJ1⟩, hkW⟩)
    · gi_wp2
      gi_loopw [15] (fun p wr => ∃ (i : Nat) (q : List (Nd W0 B)), p = .int .i64 i ∧ i ≤ x.kids.length ∧ q.map Nd.x = x :: preXs (x.kids.take i) ∧ J (pre ++ q) wr ∧ Kp cb N1 W wr) (fun p wr => x.kids.length - (intV p).toNat)
      case atStart => exact ⟨0, [⟨x, _, h, hbd⟩], rfl, Nat.zero_le _, rfl, hJ1, hkW⟩
      case round =>
        obtain ⟨i, q, rfl, hi, hq, hJi, hki⟩ := hrel
        have hk0i : Kp cb N1 W0 wr := h0.trans hki
        by_cases hi2 : i < x.kids.length
        · obtain ⟨ao', cap', c0, c1, c2, c3, hdr⟩ := hk i hi2
          have hne : (a.add (i * 4)).block ≠ cb := by rw [block_add]; exact hB _ hab
          have q0 := hk0i.cell hne c0
          have q1 := hk0i.cell (a := ⟨(a.add (i * 4)).block, (a.add (i * 4)).off + 1, none⟩) hne c1
          have q2 := hk0i.cell (a := ⟨(a.add (i * 4)).block, (a.add (i * 4)).off + 2, none⟩) hne c2
          have q3 := hk0i.cell (a := ⟨(a.add (i * 4)).block, (a.add (i * 4)).off + 3, none⟩) hne c3
          have hs1 := (hk0i.alloc hN1 (.cells #[.int .i64 (x.kids[i]).kind, .string ⟨(x.kids[i]).name.toArray⟩, .string ⟨(x.kids[i]).exc.toArray⟩, .slice ao' (x.kids[i]).kids.length cap'] 33)).cell (a := ⟨sb, 0, none⟩) hsb hself
          have hql : q.length = 1 + LX.size.sizes (x.kids.take i) := by
            have h1 := congrArg List.length hq
            rw [List.length_map, List.length_cons] at h1
            have h2 : ∀ l : List LX, (preXs l).length = LX.size.sizes l := fun l => by
              induction l with
              | nil => rfl
              | cons y l il => rw [preXs, List.length_append, LX.size.sizes, preX_len, il]
            rw [h2] at h1
            omega
          have ih1 := ih x.kids[i] (List.getElem_mem hi2) _ hdr (pre ++ q) (wr.alloc (.cells #[.int .i64 (x.kids[i]).kind, .string ⟨(x.kids[i]).name.toArray⟩, .string ⟨(x.kids[i]).exc.toArray⟩, .slice ao' (x.kids[i]).kids.length cap'] 33)) (hbd.k (List.getElem_mem hi2)) (hk0i.alloc hN1 _) (hJa _ _ _ hJi) (by
            have h1 := LX.sizes_take hi2
            have h2 := LX.sizes_le (l := x.kids) (i + 1)
            have h3 := x.size_eq
            simp only [List.length_append]
            omega)
          generalize hyy : x.kids[i] = y at *
          gi_wp2
          refine ⟨trivial, ?_⟩
          refine (callsIn_wide.2 ih1).mono ?_
          rintro e W2 (⟨rfl, ⟨q2', hq2, hJ2⟩, hk2⟩ | ⟨rfl, q2', hq2, hx2⟩)
          · gi_wp2
            go_roundw
            case rel => exact ⟨i + 1, q ++ q2', by rfl, hi2, by rw [List.map_append, hq, hq2, List.take_add_one, List.getElem?_eq_getElem hi2, hyy, preXs_append]; simp [preXs], by rw [← List.append_assoc]; exact hJ2, (hki.alloc (Nat.le_trans hN1 h0.size) _).trans hk2⟩
            case measure => exact Nat.sub_lt_sub_left hi2 (Nat.lt_succ_self i)
          · gi_wp2
            exact bodyPost_ret (results_tmp rfl _ _ _) rfl (.inr ⟨rfl, q ++ q2', by
              rw [List.map_append, hq, preX_eq x, ← List.take_append_drop i x.kids, preXs_append, List.take_append_drop, List.cons_append, List.cons_prefix_cons]
              refine ⟨rfl, (List.prefix_append_right_inj _).2 ?_⟩
              rw [List.drop_eq_getElem_cons hi2, hyy, preXs]
              exact hq2.trans (List.prefix_append _ _), by rw [← List.append_assoc]; exact hx2⟩)
        · gi_wp2
          exact bodyPost_ret (results_tmp rfl _ _ _) rfl (.inl ⟨rfl, ⟨q, by rw [hq, preX_eq, List.take_of_length_le (by omega)], hJi⟩, hki⟩)
  · gi_wp2
    exact bodyPost_ret (results_tmp rfl _ _ _) rfl (.inr ⟨rfl, [⟨x, _, h, hbd⟩], by rw [preX_eq]; exact ⟨preXs x.kids, rfl⟩, hx1⟩)
end Go.Ab
namespace Go.Ab
open Go Go.RowKit Go.Proofs Go.Shelf
set_option maxRecDepth 100000
set_option maxHeartbeats 4000000
attribute [local go_sem] Oper.semAt_some
theorem RoundIn.anyDepth2 {F : Fence} (hd : F.depth = none) {m m' : Nat} {P : Program} {l : Nat} {f : FuncId} {tmps : Array Value} {assign body : Code} {w : World} {R : Ending → World → Prop}
    (h : RoundIn F m P l f tmps assign body w R) : RoundIn F m' P l f tmps assign body w R := ⟨h.1, fun c cs _ => h.2 c cs (fun d h => by rw [hd] at h; cases h)⟩
theorem YieldAt.anyDepth2 {F : Fence} (hd : F.depth = none) {m : Nat} (m' : Nat) {P : Program} {l : Nat} {args : Array Value} {W : World} {R : Ending → World → Prop} (h : YieldAt F m P l args W R) : YieldAt F m' P l args W R := by
  obtain ⟨fn, tmps, assign, body, hy, hR⟩ := h
  exact ⟨fn, tmps, assign, body, hy, RoundIn.anyDepth2 hd hR⟩
structure Bx (W : World) (b : Nat) (x : LX) (ao : Option Addr) (cap : Nat) : Prop where
  c0 : W.cell? ⟨b, 0, none⟩ = some (.int .i64 x.kind)
  c1 : W.cell? ⟨b, 1, none⟩ = some (.string ⟨x.name.toArray⟩)
  c2 : W.cell? ⟨b, 2, none⟩ = some (.string ⟨x.exc.toArray⟩)
  c3 : W.cell? ⟨b, 3, none⟩ = some (.slice ao x.kids.length cap)
theorem Bx.kp {cb N1 : Nat} {A B : World} {b : Nat} {x : LX} {ao : Option Addr} {cap : Nat} (h : Bx A b x ao cap) (k : Kp cb N1 A B) (hb : b ≠ cb) : Bx B b x ao cap := ⟨k.cell hb h.c0, k.cell hb h.c1, k.cell hb h.c2, k.cell hb h.c3⟩
theorem nodes2_calls {W0 : World} {B : Nat → Prop} {cb N1 l sb eb : Nat} {x : LX} {ao : Option Addr} {cap : Nat} (hB : ∀ b, B b → b ≠ cb) (hcb : cb < W0.heap.size) (hN1 : N1 ≤ W0.heap.size) (hsb : sb ≠ cb) (heb : eb ≠ cb) (hself : W0.cell? ⟨sb, 0, none⟩ = some (.func (.func 101) #[] #[.pointer (some ⟨sb, 0, none⟩)])) (hbx : Bx W0 eb x ao cap) (hd : DR W0 B (eX x) (nodeV x ao cap)) (hbig : x.Bd 1099511627776) (J Jx : List (Nd W0 B) → World → Prop)
    (hJa : ∀ s W o, J s W → J s (W.alloc o))
    (hY : ∀ m pre (p : Nd W0 B) W, Kp cb N1 W0 W → J pre W → pre.length < x.size → YieldAt Fence.wide m Tryz.prog l #[p.v] W fun e W' => (e = .returned (.bool true) ∧ J (pre ++ [p]) W' ∧ Kp cb N1 W W') ∨ (e = .returned (.bool false) ∧ Jx (pre ++ [p]) W')) (W : World) (h0 : Kp cb N1 W0 W) (hJ : J [] W) :
    Calls Tryz.prog 102 #[.func (.yield l) #[] #[], .pointer (some ⟨sb, 0, none⟩), .pointer (some ⟨eb, 0, none⟩)] W fun e W' => (∃ v, e = .returned v) ∧
      ((∃ xs : List (Nd W0 B), xs.map Nd.x = preX x ∧ J xs W') ∨ (∃ pre : List (Nd W0 B), pre.map Nd.x <+: preX x ∧ Jx pre W')) := by
  have hv := visit (N := x.size) hB hcb hN1 hsb hself J Jx hJa hY x _ hd [] W hbig h0 hJ (by simp)
  have hs := h0.cell (a := ⟨sb, 0, none⟩) hsb hself
  obtain ⟨c0, c1, c2, c3⟩ := hbx.kp h0 heb
  refine (callsIn_wide (n := 6)).1 ?_
  refine callsIn_of_wp Tryz.func102 rfl trivial ?_ rfl
  simp only [Tryz.ntmps102, List.size_toArray, List.length_cons, List.length_nil, Nat.reduceAdd, Nat.reduceSub, Array.replicate_succ, Array.replicate_zero, List.push_toArray, List.append_toArray, List.nil_append, List.cons_append]
  gi_wp2
  refine ⟨trivial, ?_⟩
  refine (callsIn_wide.2 hv).mono ?_
  rintro e W1 (⟨rfl, ⟨q, hq, hJ1⟩, hk1⟩ | ⟨rfl, q, hq, hx1⟩)
  · gi_wp2
    go_end0
    exact ⟨⟨_, rfl⟩, .inl ⟨q, hq, hJ1⟩⟩
  · gi_wp2
    go_end0
    exact ⟨⟨_, rfl⟩, .inr ⟨q, hq, hx1⟩⟩
theorem nodes_stops {W0 : World} {B : Nat → Prop} {cb N1 sb eb : Nat} {x : LX} {ao : Option Addr} {cap n : Nat} (hB : ∀ b, B b → b ≠ cb) (hcb : cb < W0.heap.size) (hN1 : N1 ≤ W0.heap.size) (hsb : sb ≠ cb) (heb : eb ≠ cb) (hself : W0.cell? ⟨sb, 0, none⟩ = some (.func (.func 101) #[] #[.pointer (some ⟨sb, 0, none⟩)])) (hbx : Bx W0 eb x ao cap) (hd : DR W0 B (eX x) (nodeV x ao cap)) (hbig : x.Bd 1099511627776) :
    SeqStopsK Fence.wide n Tryz.prog 102 #[.pointer (some ⟨sb, 0, none⟩), .pointer (some ⟨eb, 0, none⟩)] (fun p : Nd W0 B => #[p.v]) (Kp cb N1) (fun xs => xs.map Nd.x = preX x) (fun pre => pre.map Nd.x <+: preX x) x.size W0 := by
  intro l J Jx W hW hJ hJx hY h0
  refine callsIn_wide.2 ?_
  exact nodes2_calls hB hcb hN1 hsb heb hself hbx hd hbig J Jx (fun s W' o hs => hJ s W' _ none hs (World.grownBy_alloc W' o none) (fun r e => by cases e)) (fun m pre p W1 _ hj hl => YieldAt.anyDepth2 rfl m (hY pre p W1 hj hl)) W (.below hW (Nat.le_refl _) hN1) h0
theorem cell_fresh (W : World) (v : Value) (t : TypeId) : (W.alloc (.cells #[v] t)).cell? ⟨W.heap.size, 0, none⟩ = some v ∧ (W.alloc (.cells #[v] t)).frozen? ⟨W.heap.size, 0, none⟩ = false := by
  have h := World.alloc_heap_new W (.cells #[v] t)
  exact ⟨by unfold World.cell?; rw [h]; rfl, by unfold World.frozen?; rw [h]; rfl⟩
theorem run_store_func2 {P : Program} {w : World} {a : Addr} {m : Mode} (f : Fn) (ts : Array Value) (c : Array Value) : (store a (.func f ts c) m).run P w = stored P w a (.func f ts c) m := run_store P w a _ m rfl
attribute [local go_sem] run_store_func2
theorem nodes_calls {W : World} {x : LX} {ao : Option Addr} {cap : Nat} : Calls Tryz.prog 66 #[nodeV x ao cap] W fun e W' =>
    e = .returned (.func (.func 102) #[] #[.pointer (some ⟨W.heap.size + 1, 0, none⟩), .pointer (some ⟨W.heap.size, 0, none⟩)]) ∧ W' = (W.alloc (.cells #[.int .i64 x.kind, .string ⟨x.name.toArray⟩, .string ⟨x.exc.toArray⟩, .slice ao x.kids.length cap] 33)).alloc (.cells #[.func (.func 101) #[] #[.pointer (some ⟨W.heap.size + 1, 0, none⟩)]] 125) := by
  obtain ⟨hb1, hb2⟩ := cell_fresh (W.alloc (.cells #[.int .i64 x.kind, .string ⟨x.name.toArray⟩, .string ⟨x.exc.toArray⟩, .slice ao x.kids.length cap] 33)) .nilFunc 125
  rw [World.size_alloc] at hb1 hb2
  refine (callsIn_wide (n := 6)).1 ?_
  refine callsIn_of_wp Tryz.func66 rfl trivial ?_ rfl
  simp only [Tryz.ntmps66, List.size_toArray, List.length_cons, List.length_nil, Nat.reduceAdd, Nat.reduceSub, Array.replicate_succ, Array.replicate_zero, List.push_toArray, List.append_toArray, List.nil_append, List.cons_append]
  gi_wp2
  go_ret
  exact ⟨rfl, rfl⟩
end Go.Ab
