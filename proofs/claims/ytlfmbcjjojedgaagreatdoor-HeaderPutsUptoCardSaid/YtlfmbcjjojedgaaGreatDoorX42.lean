/-
  One text of the proof (own work): contracts of functions of the program, by the abstract machine.
-/
import Derived.Shelf.Sort.Plain
import Derived.Shelf.Slices.In.SortNone
import Derived.Shelf.Slices.CompactS
import Derived.Sort.OwnSorted
import Derived.Test.YtlfmbcjjojedgaaGreatDoorX19
import Derived.Test.YtlfmbcjjojedgaaGreatDoorX39
import Derived.Test.YtlfmbcjjojedgaaGreatDoorX41
import Derived.Test.YtlfmbcjjojedgaaGreatDoorX33
import Derived.Test.YtlfmbcjjojedgaaGreatDoorX22
import Derived.Test.YtlfmbcjjojedgaaGreatDoorX27
import Derived.Test.YtlfmbcjjojedgaaGreatDoorX23
set_option linter.unusedVariables false
set_option linter.unusedSimpArgs false
namespace Go.Ab
open Go Go.RowKit Go.Proofs
set_option maxRecDepth 10000
set_option maxHeartbeats 16000000
theorem and_bd {kids : List LX} (h : ∀ k ∈ kids, checkE k = 0 ∧ k.Bd 1099511627776) (hl : kids.length ≤ 1000) : (LX.mk 2 [] [] kids).Bd 1099511627776 := by
  refine .mk _ (Nat.zero_le _) (Nat.zero_le _) ?_ (fun z hz => (h z hz).2)
  have key : ∀ l : List LX, (∀ k ∈ l, checkE k = 0) → LX.size.sizes l ≤ 64 * l.length := by
    intro l
    induction l with
    | nil => intro _; exact Nat.le_refl _
    | cons k l ih =>
      intro hk
      have h1 := ih fun z hz => hk z (by simp [hz])
      have h2 := (check_ok (hk k (by simp))).1
      rw [LX.size.sizes, List.length_cons]
      omega
  have := key kids fun k hk => (h k hk).1
  rw [LX.size]
  omega
theorem decl_drop {kids : List LX} {l : List Hd} {i : Nat} (hi : i < l.length) : declGo kids (l.drop i) = if isK 0 l[i] then (if (pParse l[i].text).2.2 == 0 then declGo (kidStep kids (pParse l[i].text).1) (l.drop (i + 1)) else (x0, l[i].line, (pParse l[i].text).2.2)) else declGo kids (l.drop (i + 1)) := by
  rw [List.drop_eq_getElem_cons hi, declGo]
noncomputable def g_declP : List D → Option D := encSpec (fun x : (List Hd) => [.list (x.map eHd)]) (fun x : (List Hd) => x.length ≤ 1000 ∧ ∀ h ∈ x, h.text.length ≤ 1099511627776) (fun x : (List Hd) => ePr (declGo [] x))
theorem g_declP_eq {l : List Hd} (hd : l.length ≤ 1000 ∧ ∀ h ∈ l, h.text.length ≤ 1099511627776) : g_declP [.list (l.map eHd)] = some (ePr (declGo [] l)) := encSpec_eq (x := l) hd fun y hy => by
    simp only [List.cons.injEq, and_true, true_and, D.str.injEq, D.int.injEq, D.list.injEq, D.bool.injEq, D.agg.injEq, D.clo.injEq, Int.natCast_inj, inj_ie, lx_ie, eHd_ie] at hy
    rw [hy]
theorem f_declP_ok : PureOK Tryz.prog 18 false g_declP := by
  have hΓ := Γp f_parseP_ok (Γp f_anyDc_ok (Γp f_checkP_ok (Γn)))
  refine pure_enc (n := 63) (rs := [.cell 2 33, .tmp 3, .tmp 4]) Tryz.func18 (by kernel_rfl) rfl (by kernel_rfl) (by kernel_rfl) ?_
  rintro l hd
  (try dsimp only at hd ⊢)
  refine ⟨fun h => (by cases h), fun k hz0 => ?_⟩
  obtain ⟨hl, ht⟩ := hd
  rw [start_frame (by simp)]; simp only [enumV, go_sem, emptyH]
  repeat (first
    | (apply axJ; (focus ((with_reducible constructor) <;> rfl)))
    | (apply awT mixedOK hΓ (by kernel_rfl); (simp (disch := omega) only [go_sem, ↓reduceIte, dk, ↓lk] <;> with_reducible rfl))
    | ((first | apply awR hΓ | apply awG | apply awH mixedOK hΓ rfl (by kernel_rfl) | apply ovE rfl); (simp (disch := omega) only [go_sem, ↓reduceIte, dk, ↓lk] <;> with_reducible rfl); exact trivial)
    | rfl)
  refine awp_weak (Weak.nilrowF (i := 5) 33 (sz := 4) (by omega) (by omega) rfl) ?_
  refine awp_loop_at (X := Nat × List LX) (fun y => (frame 63 [(2, .ptr 0 0), (5, .row 7 y.2.length), (13, .data (.list (l.map eHd))), (14, .data (i64 l.length)), (15, .data (i64 y.1))])) (fun y => [(0, .box [.data (.int .i64 0), .data (.str []), .data (.str []), .nils]), (7, .row 33 4 (y.2.map eX))]) 8
    (fun y => y.1 ≤ l.length ∧ y.2.length ≤ y.1 ∧ (∀ k ∈ y.2, checkE k = 0 ∧ k.Bd 1099511627776) ∧ declGo [] l = declGo y.2 (l.drop y.1)) (fun y => l.length - y.1) (0, []) ⟨Nat.zero_le _, Nat.zero_le _, fun k (hk : k ∈ ([] : List LX)) => (by cases hk), rfl⟩ (Weak.v (by (simp [ConvF, lookV, Conv, ints, upd]; done)) (by (simp (disch := omega) only [TabSub, look, if_pos, if_neg, Obj.refsOK, refsOKs, AV.refsOK, decide_eq_true_eq, Bool.and_true, Bool.and_self, upd] ) <;> ((repeat' apply And.intro) <;> first | exact True.intro | omega | (simp; done) | rfl))) ?_
  rintro ⟨i, kids⟩ ⟨h1, h2, h3, h4⟩
  dsimp only at h1 h2 h3 h4 ⊢
  by_cases hi : i < l.length
  · rw [decl_drop hi] at h4
    have htx := ht _ (List.getElem_mem hi)
    generalize hy : l[i] = y at *
    have hk : (y.kind != 0) = !isK 0 y := rfl
    generalize isK 0 y = c at *
    cases c
    · rw [if_neg (by decide)] at h4
      repeat (first
        | (apply axJ; (focus ((with_reducible constructor) <;> rfl)))
        | (apply awT mixedOK hΓ (by kernel_rfl); (simp (disch := omega) only [go_sem, ↓reduceIte, dk, ↓lk, Int.reduceBEq, Int.reduceBNe, Bool.true_bne, Bool.false_bne, Bool.not_true, Bool.not_false, hy, hk, eHd_eq] <;> with_reducible rfl))
        | ((first | apply awR hΓ | apply awG | apply awH mixedOK hΓ rfl (by kernel_rfl) | apply ovE rfl); (simp (disch := omega) only [go_sem, ↓reduceIte, dk, ↓lk, Int.reduceBEq, Int.reduceBNe, Bool.true_bne, Bool.false_bne, Bool.not_true, Bool.not_false, hy, hk, eHd_eq] <;> with_reducible rfl); exact trivial)
        | rfl)
      exact ⟨(i + 1, kids), ⟨by dsimp only; omega, by dsimp only; omega, h3, h4⟩, by dsimp only; omega, Weak.w⟩
    · rw [if_pos rfl] at h4
      have e1 := g_parseP_eq (s := y.text) htx
      have hpf := @parse_form y.text
      generalize pParse y.text = p at *
      obtain ⟨x, a, e⟩ := p
      obtain ⟨p1, p2⟩ := hpf rfl
      dsimp only at h4
      rw [show ePr (x, a, e) = .tup [eX x, .int .i64 a, .int .i64 e] from rfl, eX_eq] at e1
      by_cases he : e = 0
      · subst he
        obtain ⟨q1, q2⟩ := p2 rfl
        rw [if_pos (by rfl)] at h4
        have e2 := g_anyDc_eq (l := kids) (x := x) (by omega) (fun z hz => (h3 z hz).2) q2
        have hks : kidStep kids x = if kids.any (eqX x) then kids else kids ++ [x] := rfl
        have hkl := kid_len kids x
        have hko := kid_ok (p := fun k => checkE k = 0 ∧ k.Bd 1099511627776) h3 ⟨q1, q2⟩
        rw [hks] at h4 hkl hko
        generalize kids.any (eqX x) = b at *
        cases b
        · rw [if_neg (by decide)] at h4 hkl hko
          have hm : (kids ++ [x]).map eX = kids.map eX ++ [.agg [.int .i64 x.kind, .str x.name, .str x.exc, .list (x.kids.map eX)]] := by rw [List.map_append, List.map_cons, List.map_nil, eX_eq]
          repeat (first
            | (apply axJ; (focus ((with_reducible constructor) <;> rfl)))
            | (apply awT mixedOK hΓ (by kernel_rfl); (simp (disch := omega) only [go_sem, ↓reduceIte, dk, ↓lk, Int.reduceBEq, Int.reduceBNe, Bool.true_bne, Bool.false_bne, Bool.not_true, Bool.not_false, hy, hk, e1, e2, eHd_eq] <;> with_reducible rfl))
            | ((first | apply awR hΓ | apply awG | apply awH mixedOK hΓ rfl (by kernel_rfl) | apply ovE rfl); (simp (disch := omega) only [go_sem, ↓reduceIte, dk, ↓lk, Int.reduceBEq, Int.reduceBNe, Bool.true_bne, Bool.false_bne, Bool.not_true, Bool.not_false, hy, hk, e1, e2, eHd_eq] <;> with_reducible rfl); exact trivial)
            | rfl)
          exact ⟨(i + 1, kids ++ [x]), ⟨by dsimp only; omega, by dsimp only; omega, hko, h4⟩, by dsimp only; omega, Weak.v (by (simp [ConvF, lookV, Conv, ints, hm]; done)) (by (simp (disch := omega) only [TabSub, look, if_pos, if_neg, Obj.refsOK, refsOKs, AV.refsOK, decide_eq_true_eq, Bool.and_true, Bool.and_self, hm] ) <;> ((repeat' apply And.intro) <;> first | exact True.intro | omega | (simp; done) | rfl))⟩
        · rw [if_pos rfl] at h4
          repeat (first
            | (apply axJ; (focus ((with_reducible constructor) <;> rfl)))
            | (apply awT mixedOK hΓ (by kernel_rfl); (simp (disch := omega) only [go_sem, ↓reduceIte, dk, ↓lk, Int.reduceBEq, Int.reduceBNe, Bool.true_bne, Bool.false_bne, Bool.not_true, Bool.not_false, hy, hk, e1, e2, eHd_eq] <;> with_reducible rfl))
            | ((first | apply awR hΓ | apply awG | apply awH mixedOK hΓ rfl (by kernel_rfl) | apply ovE rfl); (simp (disch := omega) only [go_sem, ↓reduceIte, dk, ↓lk, Int.reduceBEq, Int.reduceBNe, Bool.true_bne, Bool.false_bne, Bool.not_true, Bool.not_false, hy, hk, e1, e2, eHd_eq] <;> with_reducible rfl); exact trivial)
            | rfl)
          exact ⟨(i + 1, kids), ⟨by dsimp only; omega, by dsimp only; omega, h3, h4⟩, by dsimp only; omega, Weak.w⟩
      · obtain rfl := p1 he
        have hb : (e == 0) = false := by simpa using he
        have hb2 : (e != 0) = true := by simpa [bne] using he
        rw [if_neg (by rw [hb]; decide)] at h4
        rw [h4]
        (repeat (first | (apply axJ; (focus ((with_reducible constructor) <;> rfl))) | ((first | apply awR hΓ | apply awG | apply ovE rfl); (simp (disch := omega) only [go_sem, ↓reduceIte, dk, ↓lk, Int.reduceBEq, Int.reduceBNe, Bool.true_bne, Bool.false_bne, Bool.not_true, Bool.not_false, hy, hk, e1, hb2, eHd_eq] <;> with_reducible rfl); exact trivial) | rfl))
        (apply awp_lane3 (nst := false) (nst' := false) [false, false, false, false, true, false] mixedOK hΓ (n1 := 6) (by kernel_rfl) (by kernel_rfl); (focus (dsimp only [List.take_succ_cons, List.take_zero, Array.toList]; (repeat (first | (apply lane3_loud; (focus rfl); (focus rfl); (simp (disch := omega) only [go_sem, ↓reduceIte, dk, ↓lk, ↓ty_build33, Int.reduceBEq, Int.reduceBNe, Bool.true_bne, Bool.false_bne, Bool.not_true, Bool.not_false, look_upd] <;> with_reducible rfl); (focus (first | (simp (disch := omega) only [go_sem, ↓reduceIte, dk, ↓lk, ↓ty_build33, Int.reduceBEq, Int.reduceBNe, Bool.true_bne, Bool.false_bne, Bool.not_true, Bool.not_false, look_upd]; done) | (simp (disch := omega) only [go_sem, ↓reduceIte, dk, ↓lk, ↓ty_build33, Int.reduceBEq, Int.reduceBNe, Bool.true_bne, Bool.false_bne, Bool.not_true, Bool.not_false, look_upd]; omega)))) | (apply lane3_quiet; (simp (disch := omega) only [go_sem, ↓reduceIte, dk, ↓lk, ↓ty_build33, Int.reduceBEq, Int.reduceBNe, Bool.true_bne, Bool.false_bne, Bool.not_true, Bool.not_false, look_upd] <;> with_reducible rfl)))); exact lane3_nil)); (focus ((repeat' (first | exact True.intro | refine And.intro ?_ ?_)); all_goals (first | (left; decide) | (left; rfl) | (right; simp (disch := omega) only [go_sem, ↓reduceIte, dk, ↓lk, ↓ty_build33, Int.reduceBEq, Int.reduceBNe, Bool.true_bne, Bool.false_bne, Bool.not_true, Bool.not_false, look_upd]; try with_reducible rfl)))); (simp (disch := omega) only [go_sem, ↓reduceIte, dk, ↓lk, ↓ty_build33, Int.reduceBEq, Int.reduceBNe, Bool.true_bne, Bool.false_bne, Bool.not_true, Bool.not_false, look_upd] <;> with_reducible rfl))
        repeat (first
          | (apply axJ; (focus ((with_reducible constructor) <;> rfl)))
          | (apply awT mixedOK hΓ (by kernel_rfl); (simp (disch := omega) only [go_sem, ↓reduceIte, dk, ↓lk, Int.reduceBEq, Int.reduceBNe, Bool.true_bne, Bool.false_bne, Bool.not_true, Bool.not_false] <;> with_reducible rfl))
          | ((first | apply awR hΓ | apply awG | apply awH mixedOK hΓ rfl (by kernel_rfl) | apply ovE rfl); (simp (disch := omega) only [go_sem, ↓reduceIte, dk, ↓lk, Int.reduceBEq, Int.reduceBNe, Bool.true_bne, Bool.false_bne, Bool.not_true, Bool.not_false] <;> with_reducible rfl); exact trivial)
          | rfl)
        try rfl
  · have hi2 : i = l.length := by omega
    subst hi2
    rw [List.drop_length, declGo] at h4
    rw [h4]
    match kids, h2, h3 with
    | [], _, _ =>
      rw [show sumX [] = (x0, -1, 7) from rfl]
      have hn0 : (((0 : Nat) : Int) == 0) = true := rfl
      repeat (first
        | (apply axJ; (focus ((with_reducible constructor) <;> rfl)))
        | (apply awT mixedOK hΓ (by kernel_rfl); (simp (disch := omega) only [go_sem, ↓reduceIte, dk, ↓lk, Int.reduceBEq, Int.reduceBNe, Bool.true_bne, Bool.false_bne, Bool.not_true, Bool.not_false, ↓ty_build33, hn0] <;> with_reducible rfl))
        | ((first | apply awR hΓ | apply awG | apply awH mixedOK hΓ rfl (by kernel_rfl) | apply ovE rfl); (simp (disch := omega) only [go_sem, ↓reduceIte, dk, ↓lk, Int.reduceBEq, Int.reduceBNe, Bool.true_bne, Bool.false_bne, Bool.not_true, Bool.not_false, ↓ty_build33, hn0] <;> with_reducible rfl); exact trivial)
        | rfl)
      try rfl
    | [x], h2, h3 =>
      rw [show sumX [x] = (x, 0, 0) from rfl]
      have hn0 : (((1 : Nat) : Int) == 0) = false := rfl
      have hn1 : (((1 : Nat) : Int) == 1) = true := rfl
      have hl1 : ([x] : List LX).length = 1 := rfl
      have hx0 : ∀ h, ([x] : List LX)[0]'h = x := fun _ => rfl
      generalize [x] = kids at *
      repeat (first
        | (apply axJ; (focus ((with_reducible constructor) <;> rfl)))
        | (apply awT mixedOK hΓ (by kernel_rfl); (simp (disch := omega) only [go_sem, ↓reduceIte, dk, ↓lk, Int.reduceBEq, Int.reduceBNe, Bool.true_bne, Bool.false_bne, Bool.not_true, Bool.not_false, Int.reduceToNat, List.getElem?_cons_zero, List.getElem?_cons_succ, hn0, hn1, hl1, hx0, Int.reduceToNat] <;> with_reducible rfl))
        | ((first | apply awR hΓ | apply awG | apply awH mixedOK hΓ rfl (by kernel_rfl) | apply ovE rfl); (simp (disch := omega) only [go_sem, ↓reduceIte, dk, ↓lk, Int.reduceBEq, Int.reduceBNe, Bool.true_bne, Bool.false_bne, Bool.not_true, Bool.not_false, Int.reduceToNat, List.getElem?_cons_zero, List.getElem?_cons_succ, hn0, hn1, hl1, hx0, Int.reduceToNat] <;> with_reducible rfl); exact trivial)
        | rfl)
      simp only [ePr, eX_eq]
    | x :: y :: r, h2, h3 =>
      have hbd := and_bd h3 (by omega)
      have hs : sumX (x :: y :: r) = if checkE (.mk 2 [] [] (x :: y :: r)) == 0 then (.mk 2 [] [] (x :: y :: r), 0, 0) else (x0, -1, checkE (.mk 2 [] [] (x :: y :: r))) := rfl
      rw [hs]
      have e1 := g_checkP_eq hbd
      have hn0 : (((x :: y :: r).length : Int) == 0) = false := by rw [beq_eq_false_iff_ne, List.length_cons]; omega
      have hn1 : (((x :: y :: r).length : Int) == 1) = false := by rw [beq_eq_false_iff_ne, List.length_cons, List.length_cons]; omega
      simp only [lx_kind, lx_name, lx_exc, lx_kids] at e1
      generalize checkE (.mk 2 [] [] (x :: y :: r)) = e at *
      generalize x :: y :: r = kids at *
      by_cases he : e = 0
      · subst he
        repeat (first
          | (apply axJ; (focus ((with_reducible constructor) <;> rfl)))
          | (apply awT mixedOK hΓ (by kernel_rfl); (simp (disch := omega) only [go_sem, ↓reduceIte, dk, ↓lk, Int.reduceBEq, Int.reduceBNe, Bool.true_bne, Bool.false_bne, Bool.not_true, Bool.not_false, ↓ty_build33, hn0, hn1, e1] <;> with_reducible rfl))
          | ((first | apply awR hΓ | apply awG | apply awH mixedOK hΓ rfl (by kernel_rfl) | apply ovE rfl); (simp (disch := omega) only [go_sem, ↓reduceIte, dk, ↓lk, Int.reduceBEq, Int.reduceBNe, Bool.true_bne, Bool.false_bne, Bool.not_true, Bool.not_false, ↓ty_build33, hn0, hn1, e1] <;> with_reducible rfl); exact trivial)
          | rfl)
        rw [if_pos (by rfl)]
        simp only [ePr, eX_eq, lx_kind, lx_name, lx_exc, lx_kids]
      · have hb : (e == 0) = false := by simpa using he
        have hb2 : (e != 0) = true := by simpa [bne] using he
        rw [hb]
        repeat (first
          | (apply axJ; (focus ((with_reducible constructor) <;> rfl)))
          | (apply awT mixedOK hΓ (by kernel_rfl); (simp (disch := omega) only [go_sem, ↓reduceIte, dk, ↓lk, Int.reduceBEq, Int.reduceBNe, Bool.true_bne, Bool.false_bne, Bool.not_true, Bool.not_false, ↓ty_build33, hn0, hn1, e1, hb2] <;> with_reducible rfl))
          | ((first | apply awR hΓ | apply awG | apply awH mixedOK hΓ rfl (by kernel_rfl) | apply ovE rfl); (simp (disch := omega) only [go_sem, ↓reduceIte, dk, ↓lk, Int.reduceBEq, Int.reduceBNe, Bool.true_bne, Bool.false_bne, Bool.not_true, Bool.not_false, ↓ty_build33, hn0, hn1, e1, hb2] <;> with_reducible rfl); exact trivial)
          | rfl)
        try rfl
end Go.Ab
namespace Go.Ab
open Go Go.RowKit
theorem flat_scalar {l : List D} (h : l.all D.scalar = true) : flat l = l := by
  induction l with
  | nil => rfl
  | cons d l ih =>
    rw [List.all_cons, Bool.and_eq_true] at h
    rw [flat_cons, ih h.2]
    cases d <;> first | rfl | (exact absurd h.1 (by simp [D.scalar]))
theorem scalar_one {l : List D} (h : l.all D.scalar = true) : (∀ d ∈ l, d.cells.length = 1) ∧ ∀ d ∈ l, d.one = true := by
  rw [List.all_eq_true] at h
  refine ⟨fun d hd => ?_, fun d hd => ?_⟩
  · have := h d hd
    cases d <;> first | rfl | (exact absurd this (by simp [D.scalar]))
  · have := h d hd
    cases d <;> first | rfl | (exact absurd this (by simp [D.scalar]))
structure RowTurn (w w' : World) (e : TypeId) (v v' : Value) (xs : List Value) : Prop where
  own : ownsM w' 0 e 1 v' xs.length xs
  os : w'.os = w.os
  tape : w'.tape = w.tape
  output : w'.output = w.output
  size : w.heap.size ≤ w'.heap.size
  blk' : ∀ b, blk v' = some b → blk v = some b
  block : ∀ b, b < w.heap.size → blk v ≠ some b → w'.heap[b]? = w.heap[b]?
section
variable {P : Program} {f : FuncId} {fn : Func} {e : TypeId} {dom : List D → Prop} {out : List D → List D}
theorem row1_arg {c : Ctx} {l : List D} {θ : Nat → Value} {w : World} {vs : Array Value} (hsc : l.all D.scalar = true) (hsim : HSim c ⟨enumO 0 [.row e 1 l], 1⟩ θ w) (hvs : vs.size = 1)
    (hv : ∀ i (hi : i < [AV.row 0 l.length].length) u, vs[i]? = some u → VR ⟨enumO 0 [.row e 1 l], 1⟩ θ w (vis c ⟨enumO 0 [.row e 1 l], 1⟩ θ w) ([AV.row 0 l.length][i]) u) :
    vs = #[θ 0] ∧ ownsM w 0 e 1 (θ 0) l.length (l.map D.val) ∧ (∀ b, blk (θ 0) = some b → c.n0 ≤ b ∨ c.Init b) := by
  have hg : (⟨enumO 0 [.row e 1 l], 1⟩ : Heap).get 0 = some (.row e 1 l) := rfl
  have h0 := hv 0 (by simp) (vs[0]'(by omega)) (Array.getElem?_eq_getElem _)
  obtain ⟨he, _⟩ := row_val hsim h0 hg rfl
  have e1 : vs = #[vs[0]'(by omega)] := Array.ext hvs fun i i1 i2 => by
    match i, i2 with
    | 0, _ => rfl
  obtain ⟨h1, h2, h3, us, h4, h5, h6⟩ := hsim.objs 0 _ hg
  have hus : us = l.map D.val := by
    have hlen := h4.1
    apply List.ext_getElem?
    intro i
    by_cases hi : i < l.length
    · have hi2 : i < us.length := by omega
      have := h6 i (by rw [flat_scalar hsc]; exact hi) us[i] (List.getElem?_eq_getElem hi2)
      rw [List.getElem?_eq_getElem hi2, scalar_val (List.all_eq_true.1 (by rw [flat_scalar hsc]; exact hsc) _ (List.getElem_mem _)) this, List.getElem?_map, List.getElem?_eq_getElem hi]
      simp only [flat_scalar hsc, Option.map_some]
    · rw [List.getElem?_eq_none (by omega), List.getElem?_eq_none (by simp; omega)]
  rw [hus] at h4
  exact ⟨by rw [e1, he], h4, h5⟩
theorem loc_row1 (hf : P.funcs[f]? = some fn) (hname : (fn.name == "runtime.NumGoroutine") = false) (hb : fn.body.isNone = false)
    (hd : ∀ l, dom l → l.all D.scalar = true ∧ (out l).all D.scalar = true ∧ (out l).length = l.length)
    (h : ∀ l, dom l → ∀ (w : World) (v : Value), ownsM w 0 e 1 v l.length (l.map D.val) → Calls P f #[v] w fun ex w' => (∃ u, ex = .returned u) ∧ RowTurn w w' e v v ((out l).map D.val)) :
    LocOK P f (locSpec (fun l => [.row 0 l.length]) (fun l => [.row e 1 l]) dom (fun l => (.junk, [.row e 1 (out l)]))) := by
  intro xs os r os' hg _ c θ w vs hbase hsim hvs hvals
  unfold locSpec at hg
  split at hg
  · rename_i hh
    obtain ⟨h1, h2, h3⟩ := hh.choose_spec
    generalize hh.choose = l at h1 h2 h3 hg
    simp only [Option.some.injEq, Prod.mk.injEq] at hg
    obtain ⟨rfl, rfl⟩ := hg
    subst h1 h2
    obtain ⟨s1, s2, s3⟩ := hd l h3
    obtain ⟨e1, e2, e3⟩ := row1_arg s1 hsim hvs hvals
    rw [e1]
    refine ⟨⟨fn, hf, hname, hb⟩, (h l h3 w (θ 0) e2).mono ?_⟩
    rintro ex w' ⟨⟨u, rfl⟩, ht⟩
    obtain ⟨o1, o2⟩ := scalar_one s2
    have hg' : ∀ o x, (⟨enumO 0 [.row e 1 (out l)], 1⟩ : Heap).get o = some x → o = 0 ∧ x = .row e 1 (out l) := fun o x hx => by
      rw [get_enumO] at hx
      match o, hx with
      | 0, hx => exact ⟨rfl, by simpa using hx.symm⟩
      | n + 1, hx => simp at hx
    refine ⟨u, rfl, θ, ⟨Nat.le_trans hsim.size ht.size, fun o x hx => ?_, fun o o' x x' hx hx' _ _ hne => ?_⟩, .junk _, ⟨ht.os, ht.tape, ht.output, ht.size, fun b b1 b2 => ht.block b (Nat.lt_of_lt_of_le b1 hsim.size) fun hbl => ?_⟩, ?_⟩
    · obtain ⟨rfl, rfl⟩ := hg' o x hx
      refine ⟨by decide, o1, by rw [flat_scalar s2]; exact o2, (out l).map D.val, by have := ht.own; rwa [List.length_map] at this, e3, fun i hi u hu => ?_⟩
      rw [flat_scalar s2] at hi
      simp only [flat_scalar s2]
      rw [List.getElem?_map, List.getElem?_eq_getElem hi] at hu
      simp only [Option.map_some, Option.some.injEq] at hu
      subst hu
      exact scalar_reads (List.all_eq_true.1 s2 _ (List.getElem_mem hi))
    · exact absurd ((hg' o x hx).1.trans (hg' o' x' hx').1.symm) hne
    · rcases e3 b hbl with h4 | h4
      · omega
      · exact b2 h4
    · intro o x' _ hx
      obtain ⟨rfl, rfl⟩ := hg' o x' hx
      exact ⟨.row e 1 l, rfl, by simp [Obj.evo, s3], fun _ => rfl⟩
  · cases hg
theorem loc_row1c (hf : P.funcs[f]? = some fn) (hname : (fn.name == "runtime.NumGoroutine") = false) (hb : fn.body.isNone = false)
    (hd : ∀ l, dom l → l.all D.scalar = true ∧ (out l).all D.scalar = true)
    (h : ∀ l, dom l → ∀ (w : World) (v : Value), ownsM w 0 e 1 v l.length (l.map D.val) → Calls P f #[v] w fun ex w' => ∃ v', ex = .returned v' ∧ RowTurn w w' e v v' ((out l).map D.val)) :
    LocOK P f (locSpec (fun l => [.row 0 l.length]) (fun l => [.row e 1 l]) dom (fun l => (.row 1 (out l).length, [.dead, .row e 1 (out l)]))) := by
  intro xs os r os' hg _ c θ w vs hbase hsim hvs hvals
  unfold locSpec at hg
  split at hg
  · rename_i hh
    obtain ⟨h1, h2, h3⟩ := hh.choose_spec
    generalize hh.choose = l at h1 h2 h3 hg
    simp only [Option.some.injEq, Prod.mk.injEq] at hg
    obtain ⟨rfl, rfl⟩ := hg
    subst h1 h2
    obtain ⟨s1, s2⟩ := hd l h3
    obtain ⟨e1, e2, e3⟩ := row1_arg s1 hsim hvs hvals
    rw [e1]
    refine ⟨⟨fn, hf, hname, hb⟩, (h l h3 w (θ 0) e2).mono ?_⟩
    rintro ex w' ⟨v', rfl, ht⟩
    obtain ⟨o1, o2⟩ := scalar_one s2
    have hown := ht.own
    rw [List.length_map] at hown
    have hnr : ¬ (⟨enumO 0 [.row e 1 l], 1⟩ : Heap).ref 1 := by
      rintro (h | h)
      · exact absurd h (Nat.lt_irrefl _)
      · rw [get_enumO] at h
        simp at h
    have hset : ((⟨enumO 0 [.row e 1 l], 1⟩ : Heap).set 0 .dead).set 1 (.row e 1 (out l)) = ⟨enumO 0 [.dead, .row e 1 (out l)], 1⟩ := rfl
    obtain ⟨q1, _, q3⟩ := hsim.shift (w' := w') (o := 0) (k := 1) (x0 := .row e 1 l) (x := .row e 1 (out l)) (val := v') hnr rfl rfl ht.block ht.size ht.blk' fun hvr => by
      refine ⟨by decide, o1, by rw [flat_scalar s2]; exact o2, (out l).map D.val, hown, fun b hb2 => e3 b (ht.blk' b hb2), fun i hi u hu => ?_⟩
      rw [flat_scalar s2] at hi
      simp only [flat_scalar s2]
      rw [List.getElem?_map, List.getElem?_eq_getElem hi] at hu
      simp only [Option.map_some, Option.some.injEq] at hu
      subst hu
      exact scalar_reads (List.all_eq_true.1 s2 _ (List.getElem_mem hi))
    replace q1 : HSim c ⟨enumO 0 [.dead, .row e 1 (out l)], 1⟩ (updθ θ 1 v') w' := q1
    replace q3 : HLe ⟨enumO 0 [.row e 1 l], 1⟩ θ ⟨enumO 0 [.dead, .row e 1 (out l)], 1⟩ (updθ θ 1 v') := q3
    have hsl : ∃ ao cap, v' = .slice ao (out l).length cap := by
      rcases hown.2 with ⟨h1, h2⟩ | ⟨g, cap, cur, h1, _⟩
      · exact ⟨none, 0, by rw [h1, h2]⟩
      · exact ⟨_, _, h1⟩
    refine ⟨v', rfl, updθ θ 1 v', q1.bump (n := 2) (Nat.le_succ 1), ?_, ⟨ht.os, ht.tape, ht.output, ht.size, fun b b1 b2 => ht.block b (Nat.lt_of_lt_of_le b1 hsim.size) fun hbl => ?_⟩, ?_⟩
    · refine .row 1 _ _ (by obtain ⟨ao, cap, rfl⟩ := hsl; cases ao <;> rfl) (.inl (Nat.lt_succ_self 1)) fun x m hx hm => ?_
      rw [get_enumO] at hx
      simp only [List.getElem?_cons_succ, List.getElem?_cons_zero, Option.some.injEq] at hx
      subst hx
      simp only [Obj.rlen, Option.some.injEq] at hm
      subst hm
      exact ⟨Nat.le_refl _, fun _ => by simp [updθ]⟩
    · rcases e3 b hbl with h4 | h4
      · omega
      · exact b2 h4
    · intro o x' ho hx
      exact q3.evo (Nat.le_refl 1) o x' ho hx
  · cases hg
end
end Go.Ab
namespace Go.Ab
open Go Go.RowKit Go.Proofs Go.Shelf Go.Sort
set_option maxRecDepth 10000
set_option maxHeartbeats 4000000
theorem comp_lib (l : List Bs) : compB l = Lib.compact l := by
  have key : ∀ m, m ≤ l.length → (l.take m).foldl cpStep [] = Lib.compactUpTo l.toArray m ∧ (0 < m → (Lib.compactUpTo l.toArray m).getLast? = some l[m - 1]!) := by
    intro m
    induction m with
    | zero => intro _; exact ⟨rfl, fun h => absurd h (Nat.lt_irrefl _)⟩
    | succ m ih =>
      intro hm
      obtain ⟨h1, h2⟩ := ih (by omega)
      have hget : l[m]! = l[m] := getElem!_pos l m hm
      rw [List.take_add_one, List.getElem?_eq_getElem (by omega), List.foldl_append, h1, Lib.compactUpTo_succ]
      show cpStep _ l[m] = _ ∧ _
      have ha : l.toArray[m]! = l[m] := by rw [getElem!_pos _ m (by simp; omega)]; simp
      by_cases h0 : m = 0
      · subst h0
        rw [Lib.keeps_lt_one _ 0 (by omega), if_pos rfl, ha]
        refine ⟨?_, fun _ => ?_⟩
        · unfold cpStep
          rw [if_neg (by simp [Lib.compactUpTo])]
        · rw [List.getLast?_concat, hget]
      · have h3 := h2 (by omega)
        have hget2 : l[m - 1]! = l[m - 1] := getElem!_pos l (m - 1) (by omega)
        have ha2 : l.toArray[m - 1]! = l[m - 1] := by rw [getElem!_pos _ (m - 1) (by simp; omega)]; simp
        rw [hget2] at h3
        by_cases he : l[m] = l[m - 1]
        · rw [Lib.keeps_neg (by omega) (by rw [ha, ha2, he]), if_neg (by decide), List.append_nil]
          refine ⟨?_, fun _ => ?_⟩
          · unfold cpStep
            rw [h3, if_pos (by rw [he]; simp)]
          · rw [h3, show m + 1 - 1 = m from rfl, hget, he]
        · rw [Lib.keeps_pos (by rw [ha, ha2]; exact he), if_pos rfl, ha]
          refine ⟨?_, fun _ => ?_⟩
          · unfold cpStep
            rw [h3, if_neg (by simpa using fun e => he e.symm)]
          · rw [List.getLast?_concat, show m + 1 - 1 = m from rfl, hget]
  have := (key l.length (Nat.le_refl _)).1
  rw [List.take_length] at this
  exact this
def unS : D → Bs
  | .str s => s
  | _ => []
theorem unS_map (l : List Bs) : (l.map D.str).map unS = l := by
  rw [List.map_map]
  exact (List.map_congr_left fun _ _ => rfl).trans (List.map_id _)
theorem strs_scalar (l : List Bs) : (l.map D.str).all D.scalar = true := by
  rw [List.all_map]
  simp [D.scalar]
theorem strs_val (l : List Bs) : (l.map D.str).map D.val = l.map encStr := by
  rw [List.map_map]
  rfl
def strsD (l : List D) : Prop := ∃ ss : List Bs, l = ss.map .str ∧ ss.length ≤ 1000000000
theorem holds_soft {w : World} {g : Nat} {cur : Array Value} {e : TypeId} {fr : Nat × Nat} {ss : List Bs} (hb : w.heap[g]? = some (.cells cur e fr)) (hs : Soft fr cur.size) (hl : ss.length ≤ cur.size) (ht : cur.toList.take ss.length = ss.map encStr) : Holds encStr w g 0 ss.toArray := by
  intro j hj
  have hj' : j < ss.length := by simpa using hj
  refine ⟨?_, ?_⟩
  · have h1 : (cur.toList.take ss.length)[j]? = (ss.map encStr)[j]? := by rw [ht]
    rw [List.getElem?_take_of_lt hj'] at h1
    simp only [World.cell?, hb, Nat.zero_add]
    simp only [Option.isSome_none, Bool.false_eq_true, if_false]
    rw [← Array.getElem?_toList, h1]
    simp [hj']
  · have := hs j (by omega)
    obtain ⟨lo, hi⟩ := fr
    simp only [World.frozen?, hb, Nat.zero_add, Bool.and_eq_false_iff, decide_eq_false_iff_not]
    exact Classical.not_and_iff_not_or_not.1 this
theorem turn_put {w : World} {g n cap : Nat} {cur : Array Value} {e : TypeId} {fr : Nat × Nat} {ds ts : List Bs} {q : Nat} {os : Array Go.Obj} (hb : w.heap[g]? = some (.cells cur e fr)) (hs : Soft fr cur.size) (hl : ds.length ≤ cur.size) (hc : cap ≤ maxLen) (hz : cur.size = cap * 1) (hp : ts <+: ds) :
    RowTurn w (grow (putRow encStr (Sort.ahead w q) g 0 ds.toArray) os) e (.slice (some ⟨g, 0, none⟩) n cap) (.slice (some ⟨g, 0, none⟩) ts.length cap) (ts.map encStr) := by
  have hgr := grownBy_sorted (w := w) (g := g) (n := q) (os := os) ds.toArray
  refine ⟨?_, hgr.os, hgr.tape, hgr.output, hgr.size, fun b h => h, fun b h1 h2 => hgr.block b h1 (fun e => h2 e.symm)⟩
  rw [List.length_map]
  have hlen := hp.length_le
  have hsz : (putCells encStr 0 ds.toArray cur).size = cur.size := by simp [putCells]
  refine ⟨by simp, .inr ⟨g, cap, _, rfl, Nat.zero_le _, ⟨fr, heap_sorted _ hb, by rw [hsz]; exact hs⟩, by omega, hc, by rw [hsz]; exact hz, ?_⟩⟩
  have h1 := take_putCells cur ds hl
  obtain ⟨t, rfl⟩ := hp
  have h2 := congrArg (List.take ts.length) h1
  rw [List.take_take, Nat.min_eq_left hlen, List.map_append, List.take_left' (by simp)] at h2
  rw [Nat.mul_one]
  exact h2
theorem turn_refl (w : World) (e : TypeId) (v : Value) (hv : v = .slice none 0 0 ∨ ∃ a cap, v = .slice a 0 cap) (h : ownsM w 0 e 1 v 0 []) : RowTurn w w e v v [] := ⟨h, rfl, rfl, rfl, Nat.le_refl _, fun _ h => h, fun _ _ _ => rfl⟩
noncomputable def g_sortS := locSpec (fun l : List D => [.row 0 l.length]) (fun l => [.row 9 1 l]) strsD (fun l => (.junk, [.row 9 1 ((sortB (l.map unS)).map .str)]))
theorem f_sortS_ok : LocOK Tryz.prog 57 g_sortS := loc_row1 Tryz.func57 (by kernel_rfl) (by kernel_rfl)
  (fun l hl => by
    obtain ⟨ss, rfl, _⟩ := hl
    rw [unS_map]
    exact ⟨strs_scalar _, strs_scalar _, by simp [sortB]⟩)
  fun l hl w v hv => by
    obtain ⟨ss, rfl, hs⟩ := hl
    rw [unS_map, strs_val, List.length_map] at *
    rcases hv.2 with ⟨rfl, h0⟩ | ⟨g, cap, cur, rfl, _, ⟨fr, hb, hso⟩, hnc, hcm, hcz, ht⟩
    · have : ss = [] := List.eq_nil_of_length_eq_zero h0
      subst this
      refine (Any.slices_Sort_string_none lay190 none 0 w).mono ?_
      rintro e w' ⟨rfl, rfl⟩
      exact ⟨⟨_, rfl⟩, by rw [show sortB [] = [] from by simp [sortB]]; exact turn_refl _ _ _ (.inl rfl) hv⟩
    · rw [Nat.mul_one] at ht
      refine (Any.slices_Sort_string lay190 g 0 cap ss w (holds_soft hb hso (by omega) ht) (heap_lt hb) (by omega)).mono ?_
      rintro e w' ⟨rfl, n, os, rfl⟩
      have hls : (sortB ss).length = ss.length := by simp [sortB]
      have h := turn_put (w := w) (n := ss.length) (ds := sortB ss) (ts := sortB ss) (q := n) (os := os) hb hso (by omega) hcm hcz (List.prefix_refl _)
      rw [hls] at h
      exact ⟨⟨_, rfl⟩, h⟩
theorem g_sortS_eq {ss : List Bs} (h : ss.length ≤ 1000000000) : g_sortS [.row 0 ss.length] [.row 9 1 (ss.map .str)] = some (.junk, [.row 9 1 ((sortB ss).map .str)]) := by
  have := locSpec_eq (enc := fun l : List D => [AV.row 0 l.length]) (eno := fun l => [Obj.row 9 1 l]) (dom := strsD) (out := fun l => (AV.junk, [Obj.row 9 1 ((sortB (l.map unS)).map .str)])) (x := ss.map .str) ⟨ss, rfl, h⟩ (fun y _ hy => by
    simp only [List.cons.injEq, Obj.row.injEq, and_true, true_and] at hy
    rw [hy])
  rw [unS_map, List.length_map] at this
  exact this
noncomputable def g_compS := locSpec (fun l : List D => [.row 0 l.length]) (fun l => [.row 9 1 l]) strsD (fun l => (.row 1 ((compB (l.map unS)).map D.str).length, [.dead, .row 9 1 ((compB (l.map unS)).map .str)]))
theorem comp_len (l : List Bs) : (compB l).length ≤ l.length := by
  have key : ∀ (l acc : List Bs), (l.foldl cpStep acc).length ≤ acc.length + l.length := by
    intro l
    induction l with
    | nil => intro acc; exact Nat.le_refl _
    | cons x l ih =>
      intro acc
      rw [List.foldl_cons, List.length_cons]
      have := ih (cpStep acc x)
      have h2 : (cpStep acc x).length ≤ acc.length + 1 := by
        unfold cpStep
        split
        · omega
        · simp
      omega
  have := key l []
  rw [List.length_nil] at this
  unfold compB
  omega
theorem f_compS_ok : LocOK Tryz.prog 58 g_compS := loc_row1c Tryz.func58 (by kernel_rfl) (by kernel_rfl)
  (fun l hl => by
    obtain ⟨ss, rfl, _⟩ := hl
    rw [unS_map]
    exact ⟨strs_scalar _, strs_scalar _⟩)
  fun l hl w v hv => by
    obtain ⟨ss, rfl, hs⟩ := hl
    rw [unS_map, strs_val, List.length_map] at *
    have hcl := comp_len ss
    rcases hv.2 with ⟨rfl, h0⟩ | ⟨g, cap, cur, rfl, _, ⟨fr, hb, hso⟩, hnc, hcm, hcz, ht⟩
    · have : ss = [] := List.eq_nil_of_length_eq_zero h0
      subst this
      refine (Any.slices_Compact_string_empty lay194 none 0 w).mono ?_
      rintro e w' ⟨rfl, rfl⟩
      exact ⟨_, rfl, turn_refl _ _ _ (.inl rfl) hv⟩
    · rw [Nat.mul_one] at ht
      refine (Any.slices_Compact_string lay194 g 0 cap ss w (holds_soft hb hso (by omega) ht) (by omega) hnc).mono ?_
      rw [← comp_lib]
      rintro e w' ⟨rfl, n, rfl⟩
      have h := turn_put (w := w) (n := ss.length) (ds := compB ss ++ List.replicate (ss.length - (compB ss).length) []) (ts := compB ss) (q := n) (os := #[]) hb hso (by simp; omega) hcm hcz (List.prefix_append _ _)
      rw [grow_empty] at h
      exact ⟨_, rfl, h⟩
theorem g_compS_eq {ss : List Bs} (h : ss.length ≤ 1000000000) : g_compS [.row 0 ss.length] [.row 9 1 (ss.map .str)] = some (.row 1 (compB ss).length, [.dead, .row 9 1 ((compB ss).map .str)]) := by
  have := locSpec_eq (enc := fun l : List D => [AV.row 0 l.length]) (eno := fun l => [Obj.row 9 1 l]) (dom := strsD) (out := fun l => (AV.row 1 ((compB (l.map unS)).map D.str).length, [Obj.dead, Obj.row 9 1 ((compB (l.map unS)).map .str)])) (x := ss.map .str) ⟨ss, rfl, h⟩ (fun y _ hy => by
    simp only [List.cons.injEq, Obj.row.injEq, and_true, true_and] at hy
    rw [hy])
  rw [unS_map, List.length_map, List.length_map] at this
  exact this
end Go.Ab
