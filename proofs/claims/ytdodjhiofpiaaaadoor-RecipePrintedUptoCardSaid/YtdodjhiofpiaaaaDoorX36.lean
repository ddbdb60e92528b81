/-
  One text of the proof (own work): contracts of functions of the program, by the abstract machine.
-/
import Derived.Shelf.Spec.SlicesGrow
import Derived.Test.YtdodjhiofpiaaaaDoorX19
import Derived.Test.YtdodjhiofpiaaaaDoorX34
import Derived.Test.YtdodjhiofpiaaaaDoorX35
import Derived.Test.YtdodjhiofpiaaaaDoorX17
set_option linter.unusedVariables false
set_option linter.unusedSimpArgs false
namespace Go.Ab
open Go Go.RowKit Go.Proofs Go.Shelf
set_option maxRecDepth 10000
set_option maxHeartbeats 16000000
theorem stepP_line (i : Int) (s : Bs) : stepP i (splitB 32 s) = moveL i (lineR s) := step_law (splitB_ne 32 s) (splitB_no 32 s)
noncomputable def g_parseP : List D → Option D := encSpec (fun x : Bs => [.str x]) (fun x : Bs => x.length ≤ 100000) (fun x : Bs => ePs (parseR x))
theorem g_parseP_eq {s : Bs} (hd : s.length ≤ 100000) : g_parseP [.str s] = some (ePs (parseR s)) := encSpec_eq (x := s) hd fun y hy => by
    simp only [List.cons.injEq, and_true, true_and, D.str.injEq, D.int.injEq, D.list.injEq, D.bool.injEq, D.agg.injEq, D.clo.injEq, Int.natCast_inj, inj_ie, eSt_ie, eSts_ie] at hy
    rw [hy]
theorem f_parseP_ok : PureOK Tryd.prog 9 false g_parseP := by
  have hΓ := Γp f_linesP_ok (Γp f_split_ok (Γp f_stepPr_ok (Γn)))
  refine pure_enc (n := 56) (rs := [.tmp 2, .tmp 3, .tmp 4]) Tryd.func9 (by kernel_rfl) rfl (by kernel_rfl) (by kernel_rfl) ?_
  rintro s hd
  (try dsimp only at hd ⊢)
  refine ⟨fun h => (by cases h), fun k hz0 => ?_⟩
  have e1 := g_linesP_eq (s := s) (Nat.le_trans hd (by decide))
  obtain ⟨b1, b2⟩ := lines_bd s
  unfold parseR
  generalize linesE s = p at *
  obtain ⟨ls, e⟩ := p
  replace e1 : g_linesP [.str s] = some (.tup [.list (ls.map .str), .int .i64 e]) := e1
  dsimp only at b1 b2 ⊢
  rw [start_frame (by simp)]; simp only [enumV, go_sem, emptyH]
  generalize he : (e == 0) = b
  cases b
  · have he2 : (e != 0) = true := by simp [bne, he]
    repeat (first
      | (apply axJ; (focus ((with_reducible constructor) <;> rfl)))
      | (apply awT mixedOK hΓ (by kernel_rfl); (simp (disch := omega) only [go_sem, ↓reduceIte, dk, ↓lk, e1, he2] <;> with_reducible rfl))
      | ((first | apply awR hΓ | apply awG | apply awH mixedOK hΓ rfl (by kernel_rfl) | apply ovE rfl); (simp (disch := omega) only [go_sem, ↓reduceIte, dk, ↓lk, e1, he2] <;> with_reducible rfl); exact trivial)
      | rfl)
    try rfl
  have he2 : (e != 0) = false := by simp [bne, he]
  repeat (first
    | (apply axJ; (focus ((with_reducible constructor) <;> rfl)))
    | (apply awT mixedOK hΓ (by kernel_rfl); (simp (disch := omega) only [go_sem, ↓reduceIte, dk, ↓lk, e1, he2] <;> with_reducible rfl))
    | ((first | apply awR hΓ | apply awG | apply awH mixedOK hΓ rfl (by kernel_rfl) | apply ovE rfl); (simp (disch := omega) only [go_sem, ↓reduceIte, dk, ↓lk, e1, he2] <;> with_reducible rfl); exact trivial)
    | rfl)
  refine awp_weak (Weak.nilrowF (i := 7) 34 (sz := 6) (by omega) (by omega) rfl) ?_
  refine awp_loop_at (X := Nat × List Stp) (fun y => (frame 56 [(5, .data (.list (ls.map .str))), (7, .row 16 y.2.length), (20, .data (i64 ls.length)), (21, .data (i64 y.1))])) (fun y => [(16, .row 34 6 (y.2.map eSt))]) 17
    (fun y => y.1 ≤ ls.length ∧ y.2.length ≤ y.1 ∧ y.2.length ≤ 64 ∧ parseGo 0 [] ls = parseGo y.1 y.2 (ls.drop y.1)) (fun y => ls.length - y.1) (0, [])
    ⟨Nat.zero_le _, Nat.zero_le _, Nat.zero_le _, rfl⟩ (Weak.v (by (simp [ConvF, lookV, Conv, ints, upd]; done)) (by (simp (disch := omega) only [TabSub, look, if_pos, if_neg, Obj.refsOK, refsOKs, AV.refsOK, decide_eq_true_eq, Bool.and_true, Bool.and_self, upd] ) <;> ((repeat' apply And.intro) <;> first | exact True.intro | omega | (simp; done) | rfl))) ?_
  rintro ⟨i, acc⟩ ⟨h1, h3, h5, h4⟩
  dsimp only at h1 h3 h4 h5 ⊢
  simp only [if_true]
  by_cases hi : i < ls.length
  · have hsl : (ls[i]).length ≤ 100000 := Nat.le_trans (b2 _ (List.getElem_mem hi)) hd
    have e3 := g_split_eq (s := ls[i]) (c := 32) (Nat.le_trans hsl (by decide))
    have e4 := g_stepPr_eq (line := (i : Int)) (ws := splitB 32 ls[i]) ⟨splitB_ne _ _, by have := splitB_len 32 ls[i]; omega, fun w hw => by have := splitB_mem_len 32 ls[i] w hw; omega⟩
    rw [stepP_line] at e4
    rw [parseGo_drop hi] at h4
    generalize hy : ls[i] = y at *
    generalize splitB 32 y = ws at *
    generalize hc : (y == []) = c at *
    rcases hl : lineR y with ⟨x, e2⟩
    rw [hl] at e4 h4
    obtain ⟨xl, xk, xi, xu, xw, xo⟩ := x
    unfold moveL at e4
    dsimp only at h4 e4
    cases c
    · simp only [Bool.false_eq_true, if_false] at h4
      unfold addE at h4
      generalize hz : (e2 == 0) = z at *
      have hq1 : decide ((acc.length : Int) ≥ 64) = ((acc.length : Int) == 64) := by
        rw [Bool.eq_iff_iff]
        simp only [decide_eq_true_eq, beq_iff_eq]
        omega
      rw [hq1] at h4
      generalize hq : ((acc.length : Int) == 64) = q at *
      cases z
      · have hz2 : (e2 != 0) = true := by simp [bne, hz]
        simp only [Bool.false_eq_true, if_false, hz] at h4 e4
        replace e4 : g_stepPr [.int .i64 (i : Int), .list (ws.map .str)] = some (.tup [.agg [.int .i64 0, .int .i64 0, .list [], .list [], .list [], .str []], .int .i64 e2]) := e4
        rw [h4]
        repeat (first
          | (apply axJ; (focus ((with_reducible constructor) <;> rfl)))
          | (apply awT mixedOK hΓ (by kernel_rfl); (simp (disch := omega) only [go_sem, ↓reduceIte, dk, ↓lk, hy, hc, e3, e4, hz, hz2, Int.reduceBEq, Int.reduceBNe, Bool.true_bne, Bool.false_bne, Bool.not_true, Bool.not_false] <;> with_reducible rfl))
          | ((first | apply awR hΓ | apply awG | apply awH mixedOK hΓ rfl (by kernel_rfl) | apply ovE rfl); (simp (disch := omega) only [go_sem, ↓reduceIte, dk, ↓lk, hy, hc, e3, e4, hz, hz2, Int.reduceBEq, Int.reduceBNe, Bool.true_bne, Bool.false_bne, Bool.not_true, Bool.not_false] <;> with_reducible rfl); exact trivial)
          | rfl)
        try rfl
      · simp only [if_true] at e4
        replace e4 : g_stepPr [.int .i64 (i : Int), .list (ws.map .str)] = some (.tup [.agg [.int .i64 (i : Int), .int .i64 xk, .list (xi.map .str), .list (xu.map .str), .list (xw.map .str), .str xo], .int .i64 0]) := e4
        cases q
        · simp only [Bool.false_eq_true, if_false, if_true, Int.reduceBEq] at h4
          repeat (first
            | (apply axJ; (focus ((with_reducible constructor) <;> rfl)))
            | (apply awT mixedOK hΓ (by kernel_rfl); (simp (disch := omega) only [go_sem, ↓reduceIte, dk, ↓lk, hy, hc, e3, e4, hq, Int.reduceBEq, Int.reduceBNe, Bool.true_bne, Bool.false_bne, Bool.not_true, Bool.not_false] <;> with_reducible rfl))
            | ((first | apply awR hΓ | apply awG | apply awH mixedOK hΓ rfl (by kernel_rfl) | apply ovE rfl); (simp (disch := omega) only [go_sem, ↓reduceIte, dk, ↓lk, hy, hc, e3, e4, hq, Int.reduceBEq, Int.reduceBNe, Bool.true_bne, Bool.false_bne, Bool.not_true, Bool.not_false] <;> with_reducible rfl); exact trivial)
            | rfl)
          refine ⟨(i + 1, acc ++ [atL ⟨xl, xk, xi, xu, xw, xo⟩ i]), ⟨by dsimp only; omega, by dsimp only; rw [List.length_append]; simp only [List.length_cons, List.length_nil]; omega, ?_, h4⟩, by dsimp only; omega, ?_⟩
          · dsimp only
            rw [List.length_append]
            simp only [List.length_cons, List.length_nil]
            have : ¬ ((acc.length : Int) = 64) := by simpa using hq
            omega
          have hm : (acc ++ [atL ⟨xl, xk, xi, xu, xw, xo⟩ i]).map eSt = acc.map eSt ++ [.agg [.int .i64 i, .int .i64 xk, .list (xi.map .str), .list (xu.map .str), .list (xw.map .str), .str xo]] := by rw [List.map_append]; rfl
          exact Weak.v (by (simp [ConvF, lookV, Conv, ints, hm]; done)) (by (simp (disch := omega) only [TabSub, look, if_pos, if_neg, Obj.refsOK, refsOKs, AV.refsOK, decide_eq_true_eq, Bool.and_true, Bool.and_self, hm] ) <;> ((repeat' apply And.intro) <;> first | exact True.intro | omega | (simp; done) | rfl))
        · simp only [Bool.false_eq_true, if_false, if_true, Int.reduceBEq] at h4
          rw [h4]
          repeat (first
            | (apply axJ; (focus ((with_reducible constructor) <;> rfl)))
            | (apply awT mixedOK hΓ (by kernel_rfl); (simp (disch := omega) only [go_sem, ↓reduceIte, dk, ↓lk, hy, hc, e3, e4, hq, Int.reduceBEq, Int.reduceBNe, Bool.true_bne, Bool.false_bne, Bool.not_true, Bool.not_false] <;> with_reducible rfl))
            | ((first | apply awR hΓ | apply awG | apply awH mixedOK hΓ rfl (by kernel_rfl) | apply ovE rfl); (simp (disch := omega) only [go_sem, ↓reduceIte, dk, ↓lk, hy, hc, e3, e4, hq, Int.reduceBEq, Int.reduceBNe, Bool.true_bne, Bool.false_bne, Bool.not_true, Bool.not_false] <;> with_reducible rfl); exact trivial)
            | rfl)
          try rfl
    · simp only [if_true] at h4
      repeat (first
        | (apply axJ; (focus ((with_reducible constructor) <;> rfl)))
        | (apply awT mixedOK hΓ (by kernel_rfl); (simp (disch := omega) only [go_sem, ↓reduceIte, dk, ↓lk, hy, hc] <;> with_reducible rfl))
        | ((first | apply awR hΓ | apply awG | apply awH mixedOK hΓ rfl (by kernel_rfl) | apply ovE rfl); (simp (disch := omega) only [go_sem, ↓reduceIte, dk, ↓lk, hy, hc] <;> with_reducible rfl); exact trivial)
        | rfl)
      exact ⟨(i + 1, acc), ⟨by dsimp only; omega, by dsimp only; omega, h5, h4⟩, by dsimp only; omega, Weak.w⟩
  · have hi2 : i = ls.length := by omega
    subst hi2
    rw [List.drop_length] at h4
    rw [h4]
    repeat (first
      | (apply axJ; (focus ((with_reducible constructor) <;> rfl)))
      | (apply awT mixedOK hΓ (by kernel_rfl); (simp (disch := omega) only [go_sem, ↓reduceIte, dk, ↓lk] <;> with_reducible rfl))
      | ((first | apply awR hΓ | apply awG | apply awH mixedOK hΓ rfl (by kernel_rfl) | apply ovE rfl); (simp (disch := omega) only [go_sem, ↓reduceIte, dk, ↓lk] <;> with_reducible rfl); exact trivial)
      | rfl)
    try rfl
end Go.Ab
namespace Go.Ab
open Go Go.RowKit
noncomputable def locSpec {X : Type} (enc : X → List AV) (eno : X → List Obj) (dom : X → Prop) (out : X → AV × List Obj) (xs : List AV) (os : List Obj) : Option (AV × List Obj) :=
  open Classical in if h : ∃ x, enc x = xs ∧ eno x = os ∧ dom x then some (out h.choose) else none
theorem locSpec_eq {X : Type} {enc : X → List AV} {eno : X → List Obj} {dom : X → Prop} {out : X → AV × List Obj} {x : X} (hx : dom x) (inj : ∀ y, enc y = enc x → eno y = eno x → out y = out x) : locSpec enc eno dom out (enc x) (eno x) = some (out x) := by
  have h : ∃ y, enc y = enc x ∧ eno y = eno x ∧ dom y := ⟨x, rfl, rfl, hx⟩
  unfold locSpec
  rw [dif_pos h, inj _ h.choose_spec.1 h.choose_spec.2.1]
theorem loc_enc {P : Program} {X : Type} {enc : X → List AV} {eno : X → List Obj} {dom : X → Prop} {out : X → AV × List Obj} {f : FuncId} {fn : Func} {code : Code} {n : Nat} {rs : List ResultVar} (hf : P.funcs[f]? = some fn) (hname : (fn.name == "runtime.NumGoroutine") = false)
    (hb : fn.body = some code) (hn : fn.ntmps = n) (hrs : fn.results.toList = rs)
    (h : ∀ x, dom x → ∀ c : Ctx, c.base = (eno x).length → awp P c code (RetL P rs (eno x).length (out x).1 (out x).2) (enc x ++ List.replicate (n - (enc x).length) .junk) ⟨enumO 0 (eno x), (eno x).length⟩) : LocOK P f (locSpec enc eno dom out) := by
  refine loc_of_awp hf hname hb hn hrs fun xs os r os' hg _ c hcb => ?_
  unfold locSpec at hg
  split at hg
  · rename_i hh
    obtain ⟨h1, h2, h3⟩ := hh.choose_spec
    simp only [Option.some.injEq] at hg
    have := h _ h3 c (by rw [h2]; exact hcb)
    rw [hg, h1, h2] at this
    exact this
  · cases hg
theorem retL_x {P : Program} {rs : List ResultVar} {b : Nat} {e : Exit} {sl : List AV} {H : Heap} {r x : AV} {os : List Obj} (he : Exit.over e = true) (hx : resA P rs sl H = some x) (hw : Weak b [x] H [r] ⟨enumO 0 os, os.length⟩) : RetL P rs b r os e sl H := ⟨he, x, hx, hw⟩
end Go.Ab
namespace Go.Ab
open Go Go.RowKit Go.Proofs Go.Shelf
set_option maxRecDepth 100000
set_option maxHeartbeats 8000000
def renGr : Ren := ⟨fun | 4 => 59 | n => n, fun | 22 => 32 | 25 => 9 | n => n, fun n => n⟩
theorem layGr : Lays8.n4 Tryd.prog renGr := {
  mixed := by kernel_rfl
  f4 := ⟨"slices.Grow[[]string,string]", by decide, by kernel_rfl⟩
  t0 := by kernel_rfl
  a0 := by intro w; kernel_rfl
  z0 := by intro w; kernel_rfl
  v0 := by intro w; kernel_rfl
  t3 := by kernel_rfl
  a3 := by intro w; kernel_rfl
  z3 := by intro w; kernel_rfl
  v3 := by intro w; kernel_rfl
  t4 := by kernel_rfl
  a4 := by intro w; kernel_rfl
  z4 := by intro w; kernel_rfl
  v4 := by intro w; kernel_rfl
  t9 := by kernel_rfl
  a9 := by intro w; kernel_rfl
  z9 := by intro w; kernel_rfl
  v9 := by intro w; kernel_rfl
  t20 := by kernel_rfl
  a20 := by intro w; kernel_rfl
  z20 := by intro w; kernel_rfl
  v20 := by intro w; kernel_rfl
  t22 := by kernel_rfl
  a22 := by intro w; kernel_rfl
  z22 := by intro w; kernel_rfl
  v22 := by intro w; kernel_rfl }
noncomputable def strInfo : TypeInfo := (Tryd.prog.info? 9).get (by kernel_rfl)
theorem strInfo_eq : Tryd.prog.info? (renGr.t 25) = some strInfo := (Option.some_get _).symm
theorem strInfo_zero : strInfo.zero = some (.string ⟨#[]⟩) := by kernel_rfl
theorem strInfo_size : strInfo.size = 1 := by kernel_rfl
theorem strInfo_bytes : strInfo.bytes = 16 := by kernel_rfl
noncomputable def g_grow := locSpec (fun n : Nat => [.nils, .data (i64 n)]) (fun _ => []) (fun n => n ≤ 1000000000) (fun _ => (.row 0 0, [.row 9 1 []]))
theorem g_grow_eq {n : Nat} (h : n ≤ 1000000000) : g_grow [.nils, .data (.int .i64 n)] [] = some (.row 0 0, [.row 9 1 []]) := locSpec_eq (x := n) h fun _ _ _ => rfl
theorem grow_own (n : Nat) (hn : n ≤ 1000000000) (w : World) : Calls Tryd.prog 59 #[.slice none 0 0, .int .i64 n] w fun e w' => ∃ v, e = .returned v ∧ ownsM w' w.heap.size 9 1 v 0 [] ∧ Below w.heap.size w w' := by
  by_cases h0 : n = 0
  · subst h0
    refine (Any8.slices_Grow_room layGr none 0 0 0 w (Nat.le_refl _) (by decide) (by decide) (Nat.le_refl _)).mono ?_
    rintro e w' ⟨rfl, rfl⟩
    exact ⟨_, rfl, ⟨rfl, .inl ⟨rfl, rfl⟩⟩, Below.refl _ _⟩
  · refine (Any8.slices_Grow_grow layGr strInfo (.string ⟨#[]⟩) strInfo_eq strInfo_zero (by rw [strInfo_size]; decide) none 0 0 n [] w (Nat.le_refl _) (by omega) (by rw [strInfo_bytes]; omega) (by omega) rfl (fun _ => rfl) (fun a h => by cases h)).mono ?_
    rintro e w' ⟨rfl, rfl⟩
    have hcm := grownCap_le_maxLen w (0 + n) 0 (renGr.t 25) (by unfold maxLen; omega)
    have hge := grownCap_ge w (0 + n) 0 (renGr.t 25)
    generalize grownCap w (0 + n) 0 (renGr.t 25) = cap at *
    refine ⟨_, rfl, .of ⟨rfl, .inr ⟨w.heap.size, cap, _, rfl, Nat.le_refl _, heap_alloc_new w.drew _, Nat.zero_le _, hcm, ?_, ?_⟩⟩, ?_⟩
    · simp only [Array.size_append, size_zeroCells]
      show 0 + (0 + n - 0) * 1 + (cap - (0 + n)) * 1 = cap * 1
      omega
    · rw [Nat.zero_mul, List.take_zero]
    · exact (Below.refl _ w).drew.alloc (Nat.le_refl _) _
theorem f_grow_ok : LocOK Tryd.prog 59 g_grow := by
  intro xs os r os' hg _ c θ w vs hbase hsim hvs hvals
  unfold g_grow locSpec at hg
  split at hg
  · rename_i hh
    obtain ⟨h1, h2, h3⟩ := hh.choose_spec
    generalize hh.choose = n at h1 h2 h3
    simp only [Option.some.injEq, Prod.mk.injEq] at hg
    obtain ⟨rfl, rfl⟩ := hg
    subst h1 h2
    have hz : vs.size = 2 := hvs
    have v0 := hvals 0 (by simp) (vs[0]'(by omega)) (Array.getElem?_eq_getElem _)
    have v1 := hvals 1 (by simp) (vs[1]'(by omega)) (Array.getElem?_eq_getElem _)
    have e : vs = #[vs[0]'(by omega), vs[1]'(by omega)] := Array.ext hz fun i i1 i2 => by
      match i, i2 with
      | 0, _ => rfl
      | 1, _ => rfl
    have e0 : vs[0]'(by omega) = .slice none 0 0 := by
      generalize vs[0]'(by omega) = u at v0
      cases v0
      rfl
    have e1 : vs[1]'(by omega) = .int .i64 n := by
      generalize vs[1]'(by omega) = u at v1
      cases (show VR _ _ _ _ (.data (i64 n)) u from v1) with
      | data _ _ h => exact h.int_eq
    rw [e, e0, e1]
    refine ⟨⟨Tryd.f59, Tryd.func59, by kernel_rfl, by kernel_rfl⟩, (grow_own n h3 w).mono ?_⟩
    rintro e w' ⟨v, rfl, hown, hb⟩
    refine ⟨v, rfl, ?_⟩
    have hst : St c ⟨enumO 0 [], 0⟩ θ w [] ⟨#[], []⟩ := ⟨hsim, rfl, rfl, fun i x v hx _ => by simp at hx⟩
    obtain ⟨θ', q1, q2, q3⟩ := add_row' (k := 0) (l := []) hst (fun h => by rcases h with h | h; exact absurd h (Nat.not_lt_zero _); cases (show (none : Option Obj).isSome = true from h)) (by decide) (fun d hd => by simp at hd) (fun d hd => by simp [Ab.flat] at hd) hown (fun i hi => by simp [Ab.flat] at hi) hb.block hb.size
    refine ⟨θ', ?_, ?_, ⟨hb.os, hb.tape, hb.output, hb.size, fun b h1 _ => hb.block b (Nat.lt_of_lt_of_le h1 hsim.size)⟩, ?_⟩
    · exact q2.sim.bump (n := 1) (Nat.zero_le _)
    · exact vr_bump (n := 1) (Nat.zero_le _) q1
    · intro o x' ho _
      simp at ho
  · cases hg
end Go.Ab
namespace Go.Ab
open Go Go.RowKit Go.Proofs Go.Shelf
set_option maxRecDepth 10000
set_option maxHeartbeats 8000000
def eWd (l : List Bs) : D := .list (l.map .str)
@[go_sem] theorem eWd_eq (l : List Bs) : eWd l = .list (l.map .str) := rfl
theorem eWd_inj (a b : List Bs) (h : eWd a = eWd b) : a = b := by
  simp only [eWd, D.list.injEq, strs_ie] at h
  exact h
theorem eWs_ie (a b : List (List Bs)) : (a.map eWd = b.map eWd) = (a = b) := map_ie eWd_inj a b
@[go_sem] theorem elemsOK_wd (l : List (List Bs)) : elemsOK 1 (l.map eWd) = true := elemsOK_map (f := eWd) (fun _ => ⟨by rfl, by rfl⟩) l
theorem call_grow (k n : Nat) (m : Nat) (h : m ≤ 1000000000) : callLoc k ⟨[], n⟩ g_grow [.nils, .data (.int .i64 m)] = some (.row k 0, ⟨[(k, .row 9 1 [])], k + 1⟩) :=
  (callLoc_of (fp := []) rfl rfl rfl (g_grow_eq h) (Nat.zero_le _)).trans (by simp [ren, backTo, putAll, upd, renO, Heap.get, look])
theorem flat_step {ps : List (List Bs)} {i : Nat} (hi : i < ps.length) : (ps.take (i + 1)).flatten = (ps.take i).flatten ++ ps[i] := by
  rw [List.take_add_one, List.getElem?_eq_getElem hi, List.flatten_append]
  simp
theorem flat_le (ps : List (List Bs)) (i : Nat) : (ps.take i).flatten.length ≤ ps.flatten.length := by
  conv => rhs; rw [← List.take_append_drop i ps, List.flatten_append]
  rw [List.length_append]
  omega
noncomputable def g_concat : List D → Option D := encSpec (fun x : (List (List Bs)) => [.list (x.map eWd)]) (fun x : (List (List Bs)) => x.length ≤ 1000000 ∧ x.flatten.length ≤ 1000000000) (fun x : (List (List Bs)) => .list (x.flatten.map .str))
theorem g_concat_eq {ps : List (List Bs)} (hd : ps.length ≤ 1000000 ∧ ps.flatten.length ≤ 1000000000) : g_concat [.list (ps.map eWd)] = some (.list (ps.flatten.map .str)) := encSpec_eq (x := ps) hd fun y hy => by
    simp only [List.cons.injEq, and_true, true_and, D.str.injEq, D.int.injEq, D.list.injEq, D.bool.injEq, D.agg.injEq, D.clo.injEq, Int.natCast_inj, inj_ie, eWs_ie] at hy
    rw [hy]
theorem f_concat_ok : PureOK Tryd.prog 36 false g_concat := by
  have hΓ := Γq f_grow_ok (Γn)
  refine pure_enc (n := 36) (rs := [.tmp 2]) Tryd.func36 (by kernel_rfl) rfl (by kernel_rfl) (by kernel_rfl) ?_
  rintro ps hd
  (try dsimp only at hd ⊢)
  refine ⟨fun h => (by cases h), fun k hz0 => ?_⟩
  obtain ⟨h1, h2⟩ := hd
  rw [start_frame (by simp)]; simp only [enumV, go_sem, emptyH]
  repeat (first
    | (apply axJ; (focus ((with_reducible constructor) <;> rfl)))
    | (apply awT mixedOK hΓ (by kernel_rfl); (simp (disch := omega) only [go_sem, ↓reduceIte, dk, ↓lk] <;> with_reducible rfl))
    | ((first | apply awR hΓ | apply awG | apply awH mixedOK hΓ rfl (by kernel_rfl) | apply ovE rfl); (simp (disch := omega) only [go_sem, ↓reduceIte, dk, ↓lk] <;> with_reducible rfl); exact trivial)
    | rfl)
  refine awp_loop_at (X := Nat) (fun i => (frame 36 [(0, .data (.list (ps.map eWd))), (3, .data (i64 (ps.take i).flatten.length)), (9, .data (.list (ps.map eWd))), (10, .data (i64 ps.length)), (11, .data (i64 i))])) (fun _ => []) 6
    (fun i => i ≤ ps.length) (fun i => ps.length - i) 0 (Nat.zero_le _) (Weak.v (by (simp [ConvF, lookV, Conv, ints, List.take_zero, List.flatten_nil]; done)) (by (simp (disch := omega) only [TabSub, look, if_pos, if_neg, Obj.refsOK, refsOKs, AV.refsOK, decide_eq_true_eq, Bool.and_true, Bool.and_self, List.take_zero, List.flatten_nil] ) <;> ((repeat' apply And.intro) <;> first | exact True.intro | omega | (simp; done) | rfl))) ?_
  intro i hi
  (try dsimp only at hi ⊢)
  by_cases hi2 : i < ps.length
  · have hst := flat_step hi2
    have hle := flat_le ps (i + 1)
    rw [hst, List.length_append] at hle
    generalize hy : ps[i] = y at *
    have hlt : decide (((ps.take i).flatten.length : Int) + y.length < 0) = false := decide_eq_false (by omega)
    repeat (first
      | (apply axJ; (focus ((with_reducible constructor) <;> rfl)))
      | (apply awT mixedOK hΓ (by kernel_rfl); (simp (disch := omega) only [go_sem, ↓reduceIte, dk, ↓lk, hy, hlt] <;> with_reducible rfl))
      | ((first | apply awR hΓ | apply awG | apply awH mixedOK hΓ rfl (by kernel_rfl) | apply ovE rfl); (simp (disch := omega) only [go_sem, ↓reduceIte, dk, ↓lk, hy, hlt] <;> with_reducible rfl); exact trivial)
      | rfl)
    exact ⟨i + 1, by omega, by omega, by rw [hst]; exact Weak.v (by (simp [ConvF, lookV, Conv, ints, List.length_append, Int.natCast_add]; done)) (by (simp (disch := omega) only [TabSub, look, if_pos, if_neg, Obj.refsOK, refsOKs, AV.refsOK, decide_eq_true_eq, Bool.and_true, Bool.and_self, List.length_append, Int.natCast_add] ) <;> ((repeat' apply And.intro) <;> first | exact True.intro | omega | (simp; done) | rfl))⟩
  · have hi3 : i = ps.length := by omega
    subst hi3
    rw [List.take_length]
    have e1 := fun k n => call_grow k n ps.flatten.length h2
    repeat (first
      | (apply axJ; (focus ((with_reducible constructor) <;> rfl)))
      | (apply awT mixedOK hΓ (by kernel_rfl); (simp (disch := omega) only [go_sem, ↓reduceIte, dk, ↓lk, ↓e1] <;> with_reducible rfl))
      | ((first | apply awR hΓ | apply awG | apply awH mixedOK hΓ rfl (by kernel_rfl) | apply ovE rfl); (simp (disch := omega) only [go_sem, ↓reduceIte, dk, ↓lk, ↓e1] <;> with_reducible rfl); exact trivial)
      | rfl)
    refine awp_loop_at (X := Nat) (fun i => (frame 36 [(6, .row 8 (ps.take i).flatten.length), (25, .data (.list (ps.map eWd))), (26, .data (i64 ps.length)), (27, .data (i64 i))])) (fun i => [(8, .row 9 1 ((ps.take i).flatten.map .str))]) 9
      (fun i => i ≤ ps.length) (fun i => ps.length - i) 0 (Nat.zero_le _) (Weak.v (by (simp [ConvF, lookV, Conv, ints, List.take_zero, List.flatten_nil]; done)) (by (simp (disch := omega) only [TabSub, look, if_pos, if_neg, Obj.refsOK, refsOKs, AV.refsOK, decide_eq_true_eq, Bool.and_true, Bool.and_self, List.take_zero, List.flatten_nil] ) <;> ((repeat' apply And.intro) <;> first | exact True.intro | omega | (simp; done) | rfl))) ?_
    intro i hi
    (try dsimp only at hi ⊢)
    by_cases hi2 : i < ps.length
    · have hst := flat_step hi2
      have hle := flat_le ps (i + 1)
      rw [hst, List.length_append] at hle
      generalize hy : ps[i] = y at *
      repeat (first
        | (apply axJ; (focus ((with_reducible constructor) <;> rfl)))
        | (apply awT mixedOK hΓ (by kernel_rfl); (simp (disch := omega) only [go_sem, ↓reduceIte, dk, ↓lk, hy] <;> with_reducible rfl))
        | ((first | apply awR hΓ | apply awG | apply awH mixedOK hΓ rfl (by kernel_rfl) | apply ovE rfl); (simp (disch := omega) only [go_sem, ↓reduceIte, dk, ↓lk, hy] <;> with_reducible rfl); exact trivial)
        | rfl)
      exact ⟨i + 1, by omega, by omega, by rw [hst]; exact Weak.v (by (simp [ConvF, lookV, Conv, ints, List.length_append, List.map_append]; done)) (by (simp (disch := omega) only [TabSub, look, if_pos, if_neg, Obj.refsOK, refsOKs, AV.refsOK, decide_eq_true_eq, Bool.and_true, Bool.and_self, List.length_append, List.map_append] ) <;> ((repeat' apply And.intro) <;> first | exact True.intro | omega | (simp; done) | rfl))⟩
    · have hi3 : i = ps.length := by omega
      subst hi3
      rw [List.take_length]
      repeat (first
        | (apply axJ; (focus ((with_reducible constructor) <;> rfl)))
        | (apply awT mixedOK hΓ (by kernel_rfl); (simp (disch := omega) only [go_sem, ↓reduceIte, dk, ↓lk] <;> with_reducible rfl))
        | ((first | apply awR hΓ | apply awG | apply awH mixedOK hΓ rfl (by kernel_rfl) | apply ovE rfl); (simp (disch := omega) only [go_sem, ↓reduceIte, dk, ↓lk] <;> with_reducible rfl); exact trivial)
        | rfl)
      try rfl
end Go.Ab
namespace Go.Ab
open Go Go.RowKit
section
variable {P : Program} {c : Ctx} {H : Heap} {θ : Nat → Value} {w : World} {sl : List AV} {a : Act} {o : Oper} {Γ : FuncId → Option CSpec}
theorem y_allocF (hs : St c H θ w sl a) {k : Nat} (hk : ¬ H.ref k) {e : TypeId} (ho : o.op = .alloc e) (hz : tzero P e = some .nilFunc) : Yields P c o a w sl H θ (.ptr k 0) (H.set k (.box [.junk])) := by
  have h := hs.add (w' := w.alloc (.cells #[.nilFunc] e)) (k := k) (x := .box [.junk]) (val := .pointer (some ⟨w.heap.size, 0, none⟩)) hk
    (fun b hb => Below.heap_alloc w _ b hb) (by simp) (fun b hb => by simp [blk] at hb; omega)
    (fun hvr => ⟨w.heap.size, e, #[.nilFunc], rfl, heap_alloc_new w _, rfl, .inl hs.sim.size, fun i hi u hu => by
      obtain rfl : i = 0 := by simpa using hi
      simp only [List.getElem?_toArray, List.getElem?_cons_zero, Option.some.injEq] at hu
      subst hu
      exact ⟨.junk _, rfl⟩⟩)
  refine .value ?_ (.ptr k 0 _ rfl (.inr (by rw [Heap.get_set, if_pos rfl]; rfl)) fun cs' hcs' => ⟨w.heap.size, by simp [updθ], rfl⟩) h.1 ⟨rfl, rfl, rfl, by simp, fun b hb _ => Below.heap_alloc w _ b (Nat.lt_of_lt_of_le hb hs.sim.size)⟩ h.2.2
  simp only [tzero, Option.bind_eq_some_iff] at hz
  obtain ⟨i, hi, hzz⟩ := hz
  simp [execOp, ho, Instr.alloc, zeroValue, typeInfo, hi, hzz, newVar, newRow, Value.cells]
theorem awp_regF {ops : Array Oper} {id n k1 m1 : Nat} {nst : Bool} (i : Nat) {e : TypeId} (hz : tzero P e = some .nilFunc) {sl sl1 : List AV} {tab tab1 : List (Nat × Obj)} {Q : Exit → List AV → Heap → Prop}
    (hΓ : ∀ f s, Γ f = some s → SpecOK P f s) (ho : ops.toList = ops.toList.take i ++ o :: ops.toList.drop (i + 1)) (hop : o.op = .alloc e) (hg : o.guard = none)
    (h1 : runTill P Γ nst ops n (ops.toList.take i) sl ⟨tab, n⟩ = some (k1, sl1, ⟨tab1, m1⟩))
    (hrest : ∃ sl' H', runOps P Γ nst ops (nextK k1 ⟨upd tab1 k1 (.box [.junk]), m1⟩) (ops.toList.drop (i + 1)) (putA sl1 o.dst (.ptr k1 0)) ⟨upd tab1 k1 (.box [.junk]), m1⟩ = some (sl', H') ∧ Q .normal sl' H') : awp P c (.region id ops false) Q sl ⟨tab, n⟩ := by
  intro θ w a hs
  refine wp_region_list ?_
  rw [ho]
  refine runTill_sound hΓ (ops.toList.take i) n k1 sl ⟨tab, n⟩ θ w a sl1 ⟨tab1, m1⟩ h1 hs.st hs.wf (Nat.le_refl _) fun a1 w1 θ1 hs1 hb1 hn1 hkk hk1 hl1 => ?_
  refine wpList_step fun K hK => ?_
  rw [if_pos (wanted_sound hs1 (b := true) (by unfold wantedA; rw [hg]))]
  have hfree : ¬ (⟨tab1, m1⟩ : Heap).ref k1 := fun h => by
    rcases h with h | h
    · exact absurd h (Nat.not_lt.2 hn1)
    · exact absurd (hb1 k1 h) (Nat.lt_irrefl _)
  refine y_allocF hs1 hfree hop hz K _ fun v w2 θ2 hv hs2 hk2 hl2 => hK _ _ ?_
  obtain ⟨sl', H', hrun, hQ⟩ := hrest
  have hkey := (KeyLe.set ⟨tab1, m1⟩ k1 (.box [.junk])).ok hb1
  refine runOps_sound hΓ _ _ _ _ θ2 w2 _ sl' H' hrun (hs2.putA hv _) hkey.2 (nextK_ge _ _) fun a' w' θ' hs' hb hn hk hl => ?_
  exact ⟨sl', _, θ', hQ, ⟨hs', hb, Nat.le_trans hs.base (by have := nextK_gt k1 ⟨upd tab1 k1 (.box [.junk]), m1⟩; show n ≤ _; omega)⟩, (hk1.trans hk2).trans hk, ((hl1.trans hl2).trans hl).evo hs.base⟩
end
end Go.Ab
namespace Go.Ab
open Go Go.RowKit Go.Proofs Go.Shelf
set_option maxRecDepth 10000
set_option maxHeartbeats 8000000
noncomputable def g_prJ : List D → Option D := encSpec (fun x : (List (List Bs)) => [.list (x.map eWd)]) (fun x : (List (List Bs)) => x.length ≤ 1000000 ∧ x.flatten.length ≤ 1000000000 ∧ (Lib.join x.flatten [32]).length ≤ 1099511627776) (fun x : (List (List Bs)) => .str (Lib.join x.flatten [32]))
theorem g_prJ_eq {ps : List (List Bs)} (hd : ps.length ≤ 1000000 ∧ ps.flatten.length ≤ 1000000000 ∧ (Lib.join ps.flatten [32]).length ≤ 1099511627776) : g_prJ [.list (ps.map eWd)] = some (.str (Lib.join ps.flatten [32])) := encSpec_eq (x := ps) hd fun y hy => by
    simp only [List.cons.injEq, and_true, true_and, D.str.injEq, D.int.injEq, D.list.injEq, D.bool.injEq, D.agg.injEq, D.clo.injEq, Int.natCast_inj, inj_ie, eWs_ie] at hy
    rw [hy]
theorem f_prJ_ok : PureOK Tryd.prog 34 true g_prJ := by
  have hΓ := Γp f_concat_ok (Γp f_join_ok (Γn))
  refine pure_enc (n := 6) (rs := [.tmp 2]) Tryd.func34 (by kernel_rfl) rfl (by kernel_rfl) (by kernel_rfl) ?_
  rintro ps hd
  (try dsimp only at hd ⊢)
  refine ⟨fun _ => by (repeat (first | exact .int _ _ | exact .bool _ | exact .str _ | (refine .tup _ (fun d hd => ?_); simp only [List.mem_cons, List.not_mem_nil, or_false] at hd; rcases hd with rfl | hd))), fun k hz0 => ?_⟩
  obtain ⟨h1, h2, h3⟩ := hd
  have e1 := g_concat_eq (ps := ps) ⟨h1, h2⟩
  have e2 := g_join_eq (l := ps.flatten) (s := [32]) ⟨by omega, h3⟩
  rw [start_frame (by simp)]; simp only [enumV, go_sem, emptyH]
  repeat (first
    | (apply axJ; (focus ((with_reducible constructor) <;> rfl)))
    | (apply awT mixedOK hΓ (by kernel_rfl); (simp (disch := omega) only [go_sem, ↓reduceIte, dk, ↓lk, e1, e2] <;> with_reducible rfl))
    | ((first | apply awR hΓ | apply awG | apply awH mixedOK hΓ rfl (by kernel_rfl) | apply ovE rfl); (simp (disch := omega) only [go_sem, ↓reduceIte, dk, ↓lk, e1, e2] <;> with_reducible rfl); exact trivial)
    | rfl)
  try rfl
noncomputable def g_wordD : List D → Option D := encSpec (fun x : (List Bs) => [.list (x.map .str)]) (fun x : (List Bs) => x.length ≤ 1099511627776) (fun x : (List Bs) => .list (x.map .str))
theorem g_wordD_eq {l : List Bs} (hd : l.length ≤ 1099511627776) : g_wordD [.list (l.map .str)] = some (.list (l.map .str)) := encSpec_eq (x := l) hd fun y hy => by
    simp only [List.cons.injEq, and_true, true_and, D.str.injEq, D.int.injEq, D.list.injEq, D.bool.injEq, D.agg.injEq, D.clo.injEq, Int.natCast_inj, inj_ie, eWs_ie] at hy
    rw [hy]
theorem f_wordD_ok : PureOK Tryd.prog 37 false g_wordD := by
  have hΓ := Γ0_ok
  refine pure_enc (n := 4) (rs := [.tmp 2]) Tryd.func37 (by kernel_rfl) rfl (by kernel_rfl) (by kernel_rfl) ?_
  rintro l hd
  (try dsimp only at hd ⊢)
  refine ⟨fun h => (by cases h), fun k hz0 => ?_⟩
  rw [start_frame (by simp)]; simp only [enumV, go_sem, emptyH]
  repeat (first
    | (apply axJ; (focus ((with_reducible constructor) <;> rfl)))
    | (apply awT mixedOK hΓ (by kernel_rfl); (simp (disch := omega) only [go_sem, ↓reduceIte, dk, ↓lk] <;> with_reducible rfl))
    | ((first | apply awR hΓ | apply awG | apply awH mixedOK hΓ rfl (by kernel_rfl) | apply ovE rfl); (simp (disch := omega) only [go_sem, ↓reduceIte, dk, ↓lk] <;> with_reducible rfl); exact trivial)
    | rfl)
  try rfl
noncomputable def g_wordL := locSpec (fun l : List Bs => [.row 0 l.length]) (fun l => [.row 9 1 (l.map .str)]) (fun l => l.length ≤ 1099511627776) (fun l => (.row 0 l.length, [.row 9 1 (l.map .str)]))
theorem g_wordL_eq {l : List Bs} (h : l.length ≤ 1099511627776) : g_wordL [.row 0 l.length] [.row 9 1 (l.map .str)] = some (.row 0 l.length, [.row 9 1 (l.map .str)]) := locSpec_eq (x := l) h fun y _ h2 => by
  simp only [List.cons.injEq, Obj.row.injEq, true_and, and_true, strs_ie] at h2
  subst h2
  rfl
theorem f_wordL_ok : LocOK Tryd.prog 37 g_wordL := by
  have hΓ := Γ0_ok
  refine loc_enc (n := 4) (rs := [.tmp 2]) Tryd.func37 (by kernel_rfl) rfl (by kernel_rfl) (by kernel_rfl) ?_
  intro l hd k hz0
  dsimp only at hz0 hd ⊢
  rw [start_frameA (by simp)]; simp only [enumA, enumO, List.length_cons, List.length_nil, Nat.reduceAdd, go_sem]
  repeat (first
    | (apply axJ; (focus ((with_reducible constructor) <;> rfl)))
    | (apply awT mixedOK hΓ (by kernel_rfl); (simp (disch := omega) only [go_sem, ↓reduceIte, dk] <;> with_reducible rfl))
    | ((first | apply awR hΓ | apply awG | apply awH mixedOK hΓ rfl (by kernel_rfl) | apply ovE rfl); (simp (disch := omega) only [go_sem, ↓reduceIte, dk] <;> with_reducible rfl); exact trivial)
    | rfl)
  exact retL_x rfl rfl (Weak.of (by simp) ⟨rfl, trivial⟩ (by simp [TabSub, enumO, look, Obj.refsOK, refsOKs, AV.refsOK]) rfl)
def behB (w : Bs) (l : List Bs) : List Bs := match l with
  | [] => []
  | v :: r => w :: v :: r
abbrev oWord : Obj := .box [.data (.clo 37 [])]
noncomputable def g_beh := locSpec (fun x : Bs × List Bs => [.data (.str x.1), .data (.list (x.2.map .str)), .ptr 0 0]) (fun _ => [oWord]) (fun x => x.2.length ≤ 1000000000) (fun x => (.data (.list ((behB x.1 x.2).map .str)), [oWord]))
theorem g_beh_eq {w : Bs} {l : List Bs} (h : l.length ≤ 1000000000) : g_beh [.data (.str w), .data (.list (l.map .str)), .ptr 0 0] [oWord] = some (.data (.list ((behB w l).map .str)), [oWord]) := locSpec_eq (x := (w, l)) h fun y h1 _ => by
  obtain ⟨y1, y2⟩ := y
  simp only [List.cons.injEq, AV.data.injEq, D.str.injEq, D.list.injEq, and_true, strs_ie] at h1
  obtain ⟨rfl, rfl⟩ := h1
  rfl
theorem call_word (k n r : Nat) (x : Obj) (l : List Bs) (hr : r ≠ 0) (h : l.length ≤ 1099511627776) : callLoc k ⟨[(0, x), (r, .row 9 1 (l.map .str))], n⟩ g_wordL [.row r l.length] = some (.row r l.length, ⟨[(0, x), (r, .row 9 1 (l.map .str))], k⟩) := by
  have hg : (⟨[(0, x), (r, .row 9 1 (l.map .str))], n⟩ : Heap).get r = some (.row 9 1 (l.map .str)) := by simp [Heap.get, look, hr, Ne.symm hr]
  refine (callLoc_of (fp := [r]) (objs := [.row 9 1 (l.map .str)]) (r := .row 0 l.length) (os' := [.row 9 1 (l.map .str)]) ?_ ?_ rfl ?_ (Nat.le_refl _)).trans ?_
  · simp [foot, hg]
  · simp [getAll, hg]
  · rw [← g_wordL_eq h]
    simp [rens, ren, hg, idxOf, renO]
  · simp [ren, backTo, putAll, upd, renO, Heap.get, look, hr, Ne.symm hr]
theorem f_beh_ok : LocOK Tryd.prog 38 g_beh := by
  have hΓ := (Γq f_wordL_ok (Γn))
  refine loc_enc (n := 15) (rs := [.tmp 5]) Tryd.func38 (by kernel_rfl) rfl (by kernel_rfl) (by kernel_rfl) ?_
  rintro ⟨w, l⟩ hd k hz0
  dsimp only at hz0 hd ⊢
  have hc : ∀ k n, callLoc k ⟨[(0, .box [.data (.clo 37 [])]), (7, .row 9 1 [.str w])], n⟩ g_wordL [.row 7 1] = some (.row 7 1, ⟨[(0, .box [.data (.clo 37 [])]), (7, .row 9 1 [.str w])], k⟩) := fun k n => call_word k n 7 oWord [w] (by decide) (by simp)
  have hl : (l.length : Int) == 0 ↔ l = [] := by simp
  rw [start_frameA (by simp)]; simp only [enumA, enumO, List.length_cons, List.length_nil, Nat.reduceAdd, go_sem]
  rcases hll : l with _ | ⟨v, q⟩
  · repeat (first
    | (apply axJ; (focus ((with_reducible constructor) <;> rfl)))
    | (apply awT mixedOK hΓ (by kernel_rfl); (simp (disch := omega) only [go_sem, ↓reduceIte, dk, ↓lk, Int.reduceBEq, Int.reduceBNe, Bool.true_bne, Bool.false_bne, Bool.not_true, Bool.not_false, List.length_nil, show (((0 : Nat) : Int) == 0) = true from rfl] <;> with_reducible rfl))
    | ((first | apply awR hΓ | apply awG | apply awH mixedOK hΓ rfl (by kernel_rfl) | apply ovE rfl); (simp (disch := omega) only [go_sem, ↓reduceIte, dk, ↓lk, Int.reduceBEq, Int.reduceBNe, Bool.true_bne, Bool.false_bne, Bool.not_true, Bool.not_false, List.length_nil, show (((0 : Nat) : Int) == 0) = true from rfl] <;> with_reducible rfl); exact trivial)
    | rfl)
    refine ⟨rfl, .nils, rfl, ?_⟩
    refine Weak.of (by simp) ?_ ?_ rfl
    · exact (by (repeat' (first | exact True.intro | apply And.intro | exact rfl | exact Or.inl rfl | exact Or.inr (Or.inl ⟨rfl, rfl⟩) | exact Or.inr (Or.inr ⟨_, _, rfl, rfl, by simp⟩))); done)
    · simp [TabSub, enumO, look, Obj.refsOK, refsOKs, AV.refsOK]
  · have hbe : behB w (v :: q) = w :: v :: q := rfl
    rw [hbe]
    rw [← hll]
    have hlp : 0 < l.length := by rw [hll]; simp
    have h0 : ((l.length : Int) == 0) = false := by rw [beq_eq_false_iff_ne]; omega
    repeat (first
      | (apply axJ; (focus ((with_reducible constructor) <;> rfl)))
      | (apply awT mixedOK hΓ (by kernel_rfl); (simp (disch := omega) only [go_sem, ↓reduceIte, dk, ↓lk, Int.reduceBEq, Int.reduceBNe, Bool.true_bne, Bool.false_bne, Bool.not_true, Bool.not_false, h0, ↓hc] <;> with_reducible rfl))
      | ((first | apply awR hΓ | apply awG | apply awH mixedOK hΓ rfl (by kernel_rfl) | apply ovE rfl); (simp (disch := omega) only [go_sem, ↓reduceIte, dk, ↓lk, Int.reduceBEq, Int.reduceBNe, Bool.true_bne, Bool.false_bne, Bool.not_true, Bool.not_false, h0, ↓hc] <;> with_reducible rfl); exact trivial)
      | rfl)
    refine ⟨rfl, .row 7 (1 + l.length), rfl, ?_⟩
    rw [Nat.add_comm 1 l.length]
    refine (Weak.freeze (o := 7) rfl).trans ?_
    refine Weak.of (by simp [Heap.set]) ?_ ?_ rfl
    · exact (by (repeat' (first | exact True.intro | apply And.intro | exact rfl | exact Or.inl rfl | exact Or.inr (Or.inl ⟨rfl, rfl⟩) | exact Or.inr (Or.inr ⟨_, _, rfl, rfl, by simp⟩))); done)
    · simp [TabSub, enumO, look, Obj.refsOK, refsOKs, AV.refsOK, upd, Heap.set]
def wordsP (x : Stp) : List (List Bs) × Bool :=
  if x.kind == 1 then ([[kCompile], x.inn, [kTo, x.out], behB kWith x.wds], true)
  else if x.kind == 2 then ([[kArchive], x.inn, [kTo, x.out]], true)
  else if x.kind == 3 then ([[kShare], x.inn, [kTo, x.out]], true)
  else if x.kind == 4 then ([[kLink], x.wds, x.inn, behB kUsing x.usg, [kTo, x.out]], (x.wds.length : Int) == 1)
  else if x.kind == 5 then (if (x.inn.length : Int) == 2 then ([[kRun, x.inn.headD []], behB kUsing x.usg, [kOn, (x.inn.drop 1).headD [], kTo, x.out]], true) else ([], false))
  else if x.kind == 6 then (if (x.inn.length : Int) == 2 then ([[kPatch, x.inn.headD [], kWith, (x.inn.drop 1).headD [], kTo, x.out]], true) else ([], false))
  else if x.kind == 7 then ([[kCopy], x.inn, [kTo, x.out]], true)
  else if x.kind == 8 then ([[kInstall], x.inn, [kAs, x.out]], true)
  else ([], false)
def printP (x : Stp) : Bs × Bool := (Lib.join (wordsP x).1.flatten [32], (wordsP x).2)
end Go.Ab
