/-
  One text of the proof (own work): contracts of functions of the program, by the abstract machine.
-/
import Derived.Shelf.Strings.OnBuilder
import Derived.Test.YtabenhkajabaeaaDoorX23
import Derived.Test.YtabenhkajabaeaaDoorX39
import Derived.Test.YtabenhkajabaeaaDoorX41
import Derived.Test.YtabenhkajabaeaaDoorX24
import Derived.Test.YtabenhkajabaeaaDoorX28
import Derived.Test.YtabenhkajabaeaaDoorX31
set_option linter.unusedVariables false
set_option linter.unusedSimpArgs false
namespace Go.Ab
open Go Go.RowKit Go.Proofs
set_option maxRecDepth 10000
set_option maxHeartbeats 8000000
def ePr (p : LX × Int × Int) : D := .tup [eX p.1, i64 p.2.1, i64 p.2.2]
theorem pEnd_bd {s : List UInt8} (h : s.length ≤ 1024) (he : (pEnd s (pOrsD s 24 ⟨0, 0, 0, 0⟩)).2.e = 0) : (pOrsD s 24 ⟨0, 0, 0, 0⟩).1.Bd 1099511627776 := by
  obtain ⟨h1, h2, h3⟩ := end_rel h
  have hg := good_ors (s := s) (a := 0) (fun a ha => good_atom 24 ha) (Nat.zero_le _)
  by_cases hr : (rOrs s (rAtom s 24) 0).err = 0
  · by_cases hl : (rOrs s (rAtom s 24) 0).at' < s.length
    · have := (h2 hr hl).1
      rw [he] at this
      exact absurd this (by decide)
    · have := (h3 hr hl).2
      rw [show (pOrsD s 24 ⟨0, 0, 0, 0⟩).1 = (pEnd s (pOrsD s 24 ⟨0, 0, 0, 0⟩)).1 from rfl, this]
      exact bd_mono (by omega) (hg.bd hr)
  · have := (h1 hr).1
    rw [he] at this
    exact absurd this.symm hr
noncomputable def g_parseP : List D → Option D := encSpec (fun x : (List UInt8) => [.str x]) (fun x : (List UInt8) => x.length ≤ 1099511627776) (fun x : (List UInt8) => ePr (pParse x))
theorem g_parseP_eq {s : List UInt8} (hd : s.length ≤ 1099511627776) : g_parseP [.str s] = some (ePr (pParse s)) := encSpec_eq (x := s) hd fun y hy => by
    simp only [List.cons.injEq, and_true, true_and, D.str.injEq, D.int.injEq, D.list.injEq, D.bool.injEq, D.agg.injEq, D.clo.injEq, Int.natCast_inj, inj_ie] at hy
    rw [hy]
theorem f_parseP_ok : PureOK Tryd.prog 10 false g_parseP := by
  have hΓ := Γq f_ptop_ok (Γq f_peek_ok (Γq f_fail_ok (Γp f_sizeP_ok (Γp (f_depthP_ok 1099511627776) (Γn)))))
  refine pure_enc (n := 54) (rs := [.cell 2 25, .tmp 3, .tmp 4]) Tryd.func10 (by kernel_rfl) rfl (by kernel_rfl) (by kernel_rfl) ?_
  rintro s hd
  (try dsimp only at hd ⊢)
  refine ⟨fun h => (by cases h), fun k hz0 => ?_⟩
  unfold pParse
  generalize hc0 : decide ((s.length : Int) > 1024) = c0
  cases c0
  case true =>
    rw [start_frame (by simp)]; simp only [enumV, go_sem, emptyH]
    repeat (first
      | (apply axJ; (focus ((with_reducible constructor) <;> rfl)))
      | (apply awT mixedOK hΓ (by kernel_rfl); (simp (disch := omega) only [go_sem, ↓reduceIte, ↓lk, ↓ty_build25, hc0] <;> with_reducible rfl))
      | ((first | apply awR hΓ | apply awG | apply awH mixedOK hΓ rfl (by kernel_rfl) | apply ovE rfl); (simp (disch := omega) only [go_sem, ↓reduceIte, ↓lk, ↓ty_build25, hc0] <;> with_reducible rfl); exact trivial)
      | rfl)
  have hs : s.length ≤ 1024 := by have := of_decide_eq_false hc0; omega
  have hI := pin0 hs
  have hbd0 := pEnd_bd hs
  have hou := ors_out (s := s) 24 _ hI
  have c1 : ∀ (k n : Nat) (B : Obj) (tab : List (Nat × Obj)), callLoc k ⟨(0, B) :: (8, .box [.data (.str s), .data (.int .i64 0), .data (.int .i64 0), .data (.int .i64 0), .data (.int .i64 0)]) :: (9, .box [.ptr 8 0]) :: tab, n⟩ (g_porsP 24) [.ptr 8 0, .data (.int .i64 3), .data (.str [111, 114]), .fn 29 [.ptr 9 0]] = some (.data (eX (pOrsD s 24 ⟨0, 0, 0, 0⟩).1), ⟨(0, B) :: (8, oRS s (pOrsD s 24 ⟨0, 0, 0, 0⟩).2) :: (9, .box [.ptr 8 0]) :: tab, k⟩) := fun k n B tab => (callLoc_of (fp := [8, 9]) rfl rfl rfl (g_porsP_eq 24 s ⟨0, 0, 0, 0⟩ hI) (Nat.le_refl _)).trans rfl
  have hle := hou.le
  have hok := hou.ok
  unfold pEnd at hbd0 ⊢
  generalize pOrsD s 24 ⟨0, 0, 0, 0⟩ = R at *
  obtain ⟨y, ⟨a1, o1, e1, h1⟩⟩ := R
  dsimp only at hle hok hbd0 ⊢
  have hor : a1 ≤ s.length ∨ e1 ≠ 0 := by
    by_cases h : e1 = 0
    · exact .inl (hok h)
    · exact .inr h
  have c2 : ∀ (k n : Nat) (B : Obj) (tab : List (Nat × Obj)), callLoc k ⟨(0, B) :: (8, .box [.data (.str s), .data (.int .i64 a1), .data (.int .i64 o1), .data (.int .i64 e1), .data (.int .i64 h1)]) :: tab, n⟩ g_peek [.ptr 8 0] = some (.data (.str (pPeek s ⟨a1, o1, e1, h1⟩).1), ⟨(0, B) :: (8, oRS s (pPeek s ⟨a1, o1, e1, h1⟩).2) :: tab, k⟩) := fun k n B tab => (callLoc_of (fp := [8]) rfl rfl rfl (g_peek_eq s ⟨a1, o1, e1, h1⟩ ⟨by omega, by dsimp only; omega, hor⟩) (Nat.le_refl _)).trans rfl
  generalize pPeek s ⟨a1, o1, e1, h1⟩ = P at *
  obtain ⟨t, ⟨a2, o2, e2, h2⟩⟩ := P
  have c3 : ∀ (k n : Nat) (B : Obj) (tab : List (Nat × Obj)), callLoc k ⟨(0, B) :: (8, .box [.data (.str s), .data (.int .i64 a2), .data (.int .i64 o2), .data (.int .i64 e2), .data (.int .i64 h2)]) :: tab, n⟩ g_fail [.ptr 8 0, .data (.int .i64 4), .data (.int .i64 a2)] = some (.tup [], ⟨(0, B) :: (8, oRS s (pFail ⟨a2, o2, e2, h2⟩ 4 a2)) :: tab, k⟩) := fun k n B tab => (callLoc_of (fp := [8]) rfl rfl rfl (g_fail_eq s ⟨a2, o2, e2, h2⟩ 4 a2) (Nat.le_refl _)).trans rfl
  dsimp only at c2 hbd0 ⊢
  simp only [oRS] at c1 c2 c3
  rw [start_frame (by simp)]; simp only [enumV, go_sem, emptyH]
  repeat (first
    | (apply axJ; (focus ((with_reducible constructor) <;> rfl)))
    | (apply awT mixedOK hΓ (by kernel_rfl); (simp (disch := omega) only [go_sem, ↓reduceIte, ↓lk, dk, ↓ty_build25, ↓ty_build52, hc0, ↓c1, ↓c2] <;> with_reducible rfl))
    | ((first | apply awR hΓ | apply awG | apply awH mixedOK hΓ rfl (by kernel_rfl) | apply ovE rfl); (simp (disch := omega) only [go_sem, ↓reduceIte, ↓lk, dk, ↓ty_build25, ↓ty_build52, hc0, ↓c1, ↓c2] <;> with_reducible rfl); exact trivial)
    | rfl)
  generalize hq : (if (t != []) = true then pFail ⟨a2, o2, e2, h2⟩ 4 ↑a2 else ⟨a2, o2, e2, h2⟩) = q at *
  obtain ⟨a3, o3, e3, h3⟩ := q
  dsimp only at hbd0 ⊢
  refine awp_mid (fun _ : Unit => (frame 54 [(2, .ptr 0 0), (3, .data (i64 0)), (4, .data (i64 0)), (5, .ptr 9 0), (6, .ptr 14 0)])) (fun _ => [(0, .box [.data (.int .i64 0), .data (.str []), .data (.str []), .nils]), (8, .box [.data (.str s), .data (.int .i64 a3), .data (.int .i64 o3), .data (.int .i64 e3), .data (.int .i64 h3)]), (9, .box [.ptr 8 0]), (14, .box [.data (.int .i64 y.kind), .data (.str y.name), .data (.str y.exc), .data (.list (y.kids.map eX))])]) 27 (fun _ => True) ?_ ?_
  · cases htk : (t != []) with
    | true =>
      have htk2 : (t == []) = false := by simpa [bne] using htk
      rw [htk] at hq
      simp only [if_true] at hq
      rw [hq] at c3
      simp only [oRS] at c3
      (repeat (first | (apply axJ; (focus ((with_reducible constructor) <;> rfl))) | ((first | apply awR hΓ | apply awG | apply ovE rfl); (simp (disch := omega) only [go_sem, ↓reduceIte, htk2] <;> with_reducible rfl); exact trivial) | rfl))
      (apply awp_lane3 (nst := false) (nst' := false) [false, false, false, false, false, true] mixedOK hΓ (n1 := 6) (by kernel_rfl) (by kernel_rfl); (focus (dsimp only [List.take_succ_cons, List.take_zero, Array.toList]; (repeat (first | (apply lane3_loud; (focus rfl); (focus rfl); (simp (disch := omega) only [go_sem, ↓reduceIte, dk, ↓c3, look_upd] <;> with_reducible rfl); (focus (first | (simp (disch := omega) only [go_sem, ↓reduceIte, dk, ↓c3, look_upd]; done) | (simp (disch := omega) only [go_sem, ↓reduceIte, dk, ↓c3, look_upd]; omega)))) | (apply lane3_quiet; (simp (disch := omega) only [go_sem, ↓reduceIte, dk, ↓c3, look_upd] <;> with_reducible rfl)))); exact lane3_nil)); (focus ((repeat' (first | exact True.intro | refine And.intro ?_ ?_)); all_goals (first | (left; decide) | (left; rfl) | (right; simp (disch := omega) only [go_sem, ↓reduceIte, dk, ↓c3, look_upd]; try with_reducible rfl)))); (simp (disch := omega) only [go_sem, ↓reduceIte, dk, ↓c3, look_upd] <;> with_reducible rfl))
      exact ⟨(), trivial, Weak.w⟩
    | false =>
      have htk2 : (t == []) = true := by simpa [bne] using htk
      rw [htk] at hq
      simp only [Bool.false_eq_true, if_false, RS.mk.injEq] at hq
      obtain ⟨rfl, rfl, rfl, rfl⟩ := hq
      (repeat (first | (apply axJ; (focus ((with_reducible constructor) <;> rfl))) | ((first | apply awR hΓ | apply awG | apply ovE rfl); (simp (disch := omega) only [go_sem, ↓reduceIte, htk2] <;> with_reducible rfl); exact trivial) | rfl))
      exact ⟨(), trivial, Weak.w⟩
  intro _ _
  clear c1 c2 c3 hq
  by_cases he : e3 = 0
  · have hbd := hbd0 he
    have hz := hbd.z
    have hh := y.hgt_le
    have e1 := g_sizeP_eq hbd
    have e2 := g_depthP_eq (h := 1099511627776) ⟨by omega, hbd⟩
    have heb : (e3 != 0) = false := by rw [he]; rfl
    rw [heb]
    generalize hc1 : decide ((y.size : Int) > 64) = c1
    generalize hc2 : decide ((y.hgt : Int) > 24) = c2
    cases c1
    rotate_left
    · ((repeat (first | (apply axJ; (focus ((with_reducible constructor) <;> rfl))) | (apply awT mixedOK hΓ (by kernel_rfl); (simp (disch := omega) only [go_sem, ↓reduceIte, ↓lk, ↓ty_build25, dk, heb, e1, e2, hc1, hc2, ePr, eX_eq] <;> with_reducible rfl)) | ((first | apply awR hΓ | apply awG | apply awH mixedOK hΓ rfl (by kernel_rfl) | apply ovE rfl); (simp (disch := omega) only [go_sem, ↓reduceIte, ↓lk, ↓ty_build25, dk, heb, e1, e2, hc1, hc2, ePr, eX_eq] <;> with_reducible rfl); exact trivial) | rfl)); (first | done | rfl))
    cases c2
    rotate_left
    · ((repeat (first | (apply axJ; (focus ((with_reducible constructor) <;> rfl))) | (apply awT mixedOK hΓ (by kernel_rfl); (simp (disch := omega) only [go_sem, ↓reduceIte, ↓lk, ↓ty_build25, dk, heb, e1, e2, hc1, hc2, ePr, eX_eq] <;> with_reducible rfl)) | ((first | apply awR hΓ | apply awG | apply awH mixedOK hΓ rfl (by kernel_rfl) | apply ovE rfl); (simp (disch := omega) only [go_sem, ↓reduceIte, ↓lk, ↓ty_build25, dk, heb, e1, e2, hc1, hc2, ePr, eX_eq] <;> with_reducible rfl); exact trivial) | rfl)); (first | done | rfl))
    repeat (first
      | (apply axJ; (focus ((with_reducible constructor) <;> rfl)))
      | (apply awT mixedOK hΓ (by kernel_rfl); (simp (disch := omega) only [go_sem, ↓reduceIte, ↓lk, ↓ty_build25, dk, heb, e1, e2, hc1, hc2, ePr, eX_eq] <;> with_reducible rfl))
      | ((first | apply awR hΓ | apply awG | apply awH mixedOK hΓ rfl (by kernel_rfl) | apply ovE rfl); (simp (disch := omega) only [go_sem, ↓reduceIte, ↓lk, ↓ty_build25, dk, heb, e1, e2, hc1, hc2, ePr, eX_eq] <;> with_reducible rfl); exact trivial)
      | rfl)
    simp only [Bool.false_eq_true, if_false, ePr, eX_eq]
  · have heb : (e3 != 0) = true := by simpa [bne] using he
    rw [heb]
    (repeat (first | (apply axJ; (focus ((with_reducible constructor) <;> rfl))) | ((first | apply awR hΓ | apply awG | apply ovE rfl); (simp (disch := omega) only [go_sem, ↓reduceIte, ↓lk, ↓ty_build25, dk, heb] <;> with_reducible rfl); exact trivial) | rfl))
    (apply awp_lane3 (nst := false) (nst' := false) [false, false, false, false, false, false, false, false, false, true, false, false] mixedOK hΓ (n1 := 12) (by kernel_rfl) (by kernel_rfl); (focus (dsimp only [List.take_succ_cons, List.take_zero, Array.toList]; (repeat (first | (apply lane3_loud; (focus rfl); (focus rfl); (simp (disch := omega) only [go_sem, ↓reduceIte, ↓lk, ↓ty_build25, dk, look_upd] <;> with_reducible rfl); (focus (first | (simp (disch := omega) only [go_sem, ↓reduceIte, ↓lk, ↓ty_build25, dk, look_upd]; done) | (simp (disch := omega) only [go_sem, ↓reduceIte, ↓lk, ↓ty_build25, dk, look_upd]; omega)))) | (apply lane3_quiet; (simp (disch := omega) only [go_sem, ↓reduceIte, ↓lk, ↓ty_build25, dk, look_upd] <;> with_reducible rfl)))); exact lane3_nil)); (focus ((repeat' (first | exact True.intro | refine And.intro ?_ ?_)); all_goals (first | (left; decide) | (left; rfl) | (right; simp (disch := omega) only [go_sem, ↓reduceIte, ↓lk, ↓ty_build25, dk, look_upd]; try with_reducible rfl)))); (simp (disch := omega) only [go_sem, ↓reduceIte, ↓lk, ↓ty_build25, dk, look_upd] <;> with_reducible rfl))
    (repeat (first | (apply axJ; (focus ((with_reducible constructor) <;> rfl))) | ((first | apply awR hΓ | apply awG | apply ovE rfl); (simp (disch := omega) only [go_sem, ↓reduceIte, ↓lk, dk] <;> with_reducible rfl); exact trivial) | rfl))
    try rfl
end Go.Ab
namespace Go.Ab
open Go Go.RowKit Go.Proofs Go.Shelf
set_option maxRecDepth 100000
set_option maxHeartbeats 4000000
def shRenJ : Ren := ⟨fun | 156 => 59 | 165 => 44 | 166 => 45 | 169 => 47 | 240 => 67 | 241 => 68 | 276 => 79 | 277 => 80 | n => n, fun | 31 => 83 | 37 => 41 | 70 => 68 | 72 => 70 | 75 => 73 | 76 => 74 | 80 => 47 | 127 => 92 | 164 => 101 | n => n, fun | n => n⟩
theorem lay156 : Lays.n156 Tryd.prog shRenJ := {
  mixed := by kernel_rfl
  f156 := by kernel_rfl
  f165 := by kernel_rfl
  f166 := by kernel_rfl
  f169 := by kernel_rfl
  f240 := by kernel_rfl
  f241 := by kernel_rfl
  f276 := by kernel_rfl
  f277 := by kernel_rfl
  t0 := by kernel_rfl
  a0 := by intro w; kernel_rfl
  z0 := by intro w; kernel_rfl
  v0 := by intro w; kernel_rfl
  t3 := by kernel_rfl
  a3 := by intro w; kernel_rfl
  z3 := by intro w; kernel_rfl
  v3 := by intro w; kernel_rfl
  t4 := by kernel_rfl
  a4 := by intro w; kernel_rfl
  z4 := by intro w; kernel_rfl
  v4 := by intro w; kernel_rfl
  t9 := by kernel_rfl
  a9 := by intro w; kernel_rfl
  z9 := by intro w; kernel_rfl
  v9 := by intro w; kernel_rfl
  t20 := by kernel_rfl
  a20 := by intro w; kernel_rfl
  z20 := by intro w; kernel_rfl
  v20 := by intro w; kernel_rfl
  t31 := by kernel_rfl
  a31 := by intro w; kernel_rfl
  z31 := by intro w; kernel_rfl
  v31 := by intro w; kernel_rfl
  t37 := by kernel_rfl
  a37 := by intro w; kernel_rfl
  z37 := by intro w; kernel_rfl
  v37 := by intro w; kernel_rfl
  t70 := by kernel_rfl
  a70 := by intro w; kernel_rfl
  z70 := by intro w; kernel_rfl
  v70 := by intro w; kernel_rfl
  t72 := by kernel_rfl
  a72 := by intro w; kernel_rfl
  z72 := by intro w; kernel_rfl
  v72 := by intro w; kernel_rfl
  t75 := by kernel_rfl
  a75 := by intro w; kernel_rfl
  z75 := by intro w; kernel_rfl
  v75 := by intro w; kernel_rfl
  t76 := by kernel_rfl
  a76 := by intro w; kernel_rfl
  z76 := by intro w; kernel_rfl
  v76 := by intro w; kernel_rfl
  t127 := by kernel_rfl
  a127 := by intro w; kernel_rfl
  z127 := by intro w; kernel_rfl
  v127 := by intro w; kernel_rfl
  t164 := by kernel_rfl
  a164 := by intro w; kernel_rfl
  z164 := by intro w; kernel_rfl
  v164 := by intro w; kernel_rfl }
theorem extraJ : Builder.Extra Tryd.prog shRenJ := {
  t5 := by kernel_rfl
  a5 := by intro w; kernel_rfl
  z5 := by intro w; kernel_rfl
  v5 := by intro w; kernel_rfl
  infoByte := by kernel_rfl
  cellsByte := by kernel_rfl
  sizeByte := by kernel_rfl
  neB5 := by decide
  sizeBuilder := by kernel_rfl
  liesBuilder := by kernel_rfl }
noncomputable def g_join : List D → Option D := encSpec (fun x : List (List UInt8) × List UInt8 => [.list (x.1.map .str), .str x.2]) (fun x => x.1.length ≤ 1099511627776 ∧ (Lib.join x.1 x.2).length ≤ 1099511627776) (fun x => .str (Lib.join x.1 x.2))
theorem g_join_eq {l : List (List UInt8)} {s : List UInt8} (h : l.length ≤ 1099511627776 ∧ (Lib.join l s).length ≤ 1099511627776) : g_join [.list (l.map .str), .str s] = some (.str (Lib.join l s)) := encSpec_eq (x := (l, s)) h fun y hy => by
  obtain ⟨y0, y1⟩ := y
  simp only [List.cons.injEq, and_true, D.str.injEq, D.list.injEq] at hy
  obtain ⟨h1, rfl⟩ := hy
  rw [(strs_ie y0 l).mp h1]
theorem flat_strs (l : List (List UInt8)) : Ab.flat (l.map D.str) = l.map D.str := by
  induction l with
  | nil => rfl
  | cons x l ih =>
    rw [Ab.flat] at ih
    rw [List.map_cons, Ab.flat, List.flatMap_cons, ih]
    rfl
theorem join_calls {W : World} {B : Nat → Prop} {l : List (List UInt8)} {s : List UInt8} {v : Value} (hB : ∀ b, B b → b < W.heap.size) (h : DR W B (.list (l.map .str)) v) (hx1 : l.length ≤ 1099511627776) (hx2 : (Lib.join l s).length ≤ 1099511627776) :
    Calls Tryd.prog 59 #[v, .string ⟨s.toArray⟩] W fun e W' => e = .returned (.string ⟨(Lib.join l s).toArray⟩) ∧ Below W.heap.size W W' := by
  obtain ⟨ao, cap, e0, hl⟩ := h.list_inv
  rw [e0, List.length_map]
  have hmap : ∀ xs : List (List UInt8), (xs.map (fun x => (⟨x.toArray⟩ : ByteArray))).map (·.data.toList) = xs := fun xs => by
    rw [List.map_map]
    exact (List.map_congr_left (fun _ _ => rfl)).trans (List.map_id _)
  by_cases hn : l = []
  · subst hn
    exact (Any.strings_Join_none lay156 extraJ ao cap ⟨s.toArray⟩ W).mono fun e w' h => ⟨h.1, h.2 ▸ Below.refl _ _⟩
  rcases hl with hl | ⟨a, sz, u, rfl, hb, hc, hs, ho, hm, hh⟩
  · exact absurd (List.map_eq_nil_iff.1 hl) hn
  rw [flat_strs] at hm hh
  have hcell : ∀ (j : Nat) (hj : j < l.length), W.cell? (a.add j) = some (.string ⟨(l[j]).toArray⟩) := fun j hj => by
    have k := hh j (by simpa using hj)
    rw [List.getElem_map] at k
    rw [hm j (by simpa using hj), k.str_eq]
  have hsp : a.spot = none := by
    have h := hcell 0 (List.length_pos_iff.2 hn)
    rw [show a.add 0 = a from rfl] at h
    unfold World.cell? at h
    split at h
    · split at h
      · cases h
      · rename_i hq; simpa using hq
    · cases h
  obtain ⟨bk, o, sp⟩ := a
  dsimp only at hsp hb
  subst hsp
  have hj := Any.strings_Join lay156 extraJ bk o cap (l.map (fun x => (⟨x.toArray⟩ : ByteArray))) ⟨s.toArray⟩ W (fun j x hj => by
    simp only [List.getElem?_map, Option.map_eq_some_iff] at hj
    obtain ⟨y, hy, rfl⟩ := hj
    obtain ⟨hj, rfl⟩ := List.getElem?_eq_some_iff.1 hy
    have h := hcell j hj
    cases j with
    | zero => exact h
    | succ j => exact h) (hB _ hb) (by simp only [List.length_map]; omega) (by simpa using hc) (by rw [hmap]; show (Lib.join l s).length ≤ _; omega)
  rw [hmap, List.length_map] at hj
  exact hj
theorem f_join_ok : PureOK Tryd.prog 59 true g_join := by
  intro ds d hd
  obtain ⟨⟨l, s⟩, rfl, ⟨hx1, hx2⟩, rfl⟩ := encSpec_some hd
  refine ⟨fun _ => .str _, fun w B vs hB hz hvs => ⟨⟨Tryd.f59, Tryd.func59, by kernel_rfl, by kernel_rfl⟩, ?_⟩⟩
  have hz2 : vs.size = 2 := hz
  have h0 : 0 < vs.size := by omega
  have h1 : 1 < vs.size := by omega
  have hv0 := hvs 0 (by simp) (vs[0]'h0) (Array.getElem?_eq_getElem h0)
  have hv1 := hvs 1 (by simp) (vs[1]'h1) (Array.getElem?_eq_getElem h1)
  have e : vs = #[vs[0]'h0, vs[1]'h1] := Array.ext hz2 fun i i1 i2 => by
    match i, i2 with
    | 0, _ => rfl
    | 1, _ => rfl
  have e1 : vs[1]'h1 = .string ⟨s.toArray⟩ := DR.str_eq hv1
  rw [e, e1]
  refine (join_calls hB hv0 hx1 hx2).mono fun e w' h => ⟨_, h.1, .str _, h.2⟩
end Go.Ab
namespace Go.Ab
open Go Go.RowKit Go.Proofs
set_option maxRecDepth 10000
set_option maxHeartbeats 8000000
def par (k : Int) (x : LX) : Bool := (x.kind == k) || ((x.kind == 3) && (k == 2))
def sepX (k : Int) : List UInt8 := if k == 3 then [32, 111, 114, 32] else [32, 97, 110, 100, 32]
mutual
def textX : LX → List UInt8
  | .mk k n e l => if k == 0 then (if !(e == []) then n ++ [32, 119, 105, 116, 104, 32] ++ e else n) else if k == 1 then n ++ [43] else Lib.join (textXs k l) (sepX k)
def textXs (k : Int) : List LX → List (List UInt8)
  | [] => []
  | x :: l => (if par k x then [40] ++ textX x ++ [41] else textX x) :: textXs k l
end
def pText (k : Int) (x : LX) : List UInt8 := if par k x then [40] ++ textX x ++ [41] else textX x
theorem textX_eq (x : LX) : textX x = if x.kind == 0 then (if !(x.exc == []) then x.name ++ [32, 119, 105, 116, 104, 32] ++ x.exc else x.name) else if x.kind == 1 then x.name ++ [43] else Lib.join (textXs x.kind x.kids) (sepX x.kind) := by cases x; rw [textX]; rfl
theorem textXs_map (k : Int) (l : List LX) : textXs k l = l.map (pText k) := by
  induction l with
  | nil => rfl
  | cons x l ih => rw [textXs, ih]; rfl
theorem joinTail_append (s : List UInt8) (a b : List (List UInt8)) : Lib.joinTail s (a ++ b) = Lib.joinTail s a ++ Lib.joinTail s b := by simp [Lib.joinTail]
theorem join_snoc {a : List (List UInt8)} (ha : a ≠ []) (b s : List UInt8) : Lib.join (a ++ [b]) s = Lib.join a s ++ s ++ b := by
  cases a with
  | nil => exact absurd rfl ha
  | cons x r => rw [List.cons_append, Lib.join_cons, Lib.join_cons, joinTail_append]; simp [Lib.joinTail]
theorem join_le (l : List (List UInt8)) (s : List UInt8) : (Lib.join l s).length ≤ (Lib.joinTail s l).length := by
  cases l with
  | nil => exact Nat.le_refl _
  | cons x r => rw [Lib.join_cons, Lib.joinTail, Lib.joinTail, List.map_cons, List.flatten_cons]; simp only [List.length_append]; omega
theorem formE_node {x : LX} (h : formE x = 0) : nodeE x = 0 := by
  rw [formE_eq] at h
  by_cases hn : nodeE x = 0
  · exact hn
  · rw [if_neg (by simpa using hn)] at h; exact absurd h hn
theorem formsE_mem {l : List LX} (h : formsE l = 0) : ∀ y ∈ l, formE y = 0 := by
  induction l with
  | nil => intro y hy; cases hy
  | cons x l ih =>
    rw [formsE] at h
    by_cases hx : formE x = 0
    · rw [if_pos (by simpa using hx)] at h
      intro y hy
      rcases List.mem_cons.1 hy with rfl | hy
      · exact hx
      · exact ih h y hy
    · rw [if_neg (by simpa using hx)] at h; exact absurd h hx
theorem formE_kid {x y : LX} (h : formE x = 0) (hy : y ∈ x.kids) : formE y = 0 := by
  have hn := formE_node h
  rw [formE_eq, if_pos (by simpa using hn)] at h
  exact formsE_mem h y hy
theorem isNameB_len {s : List UInt8} (h : isNameB s = true) : s.length ≤ 32 := by
  unfold isNameB at h
  simp only [Bool.and_eq_true, Bool.not_eq_true', decide_eq_false_iff_not] at h
  omega
theorem node_cases {x : LX} (h : nodeE x = 0) : ((x.kind = 0 ∨ x.kind = 1) ∧ x.kids = [] ∧ isNameB x.name = true ∧ (x.exc = [] ∨ (x.kind = 0 ∧ isNameB x.exc = true))) ∨ ((x.kind = 2 ∨ x.kind = 3) ∧ 2 ≤ x.kids.length ∧ x.name = [] ∧ x.exc = []) := by
  unfold nodeE at h
  split at h
  · rename_i hk
    simp only [Bool.or_eq_true, beq_iff_eq] at hk
    split at h
    · cases h
    · rename_i h1
      split at h
      · cases h
      · rename_i h2
        simp only [Bool.or_eq_true, Bool.and_eq_true, decide_eq_true_eq, beq_iff_eq, Bool.not_eq_true', beq_eq_false_iff_ne, not_or, not_and, Bool.not_eq_false] at h1 h2
        refine .inl ⟨hk, List.eq_nil_of_length_eq_zero (by omega), by simpa using h2.1, ?_⟩
        by_cases he : x.exc = []
        · exact .inl he
        · refine .inr ⟨?_, by simpa using h2.2 he⟩
          rcases hk with hk | hk
          · exact hk
          · exact absurd (h1.2 hk) (by simpa using he)
  · split at h
    · rename_i hk
      simp only [Bool.or_eq_true, beq_iff_eq] at hk
      split at h
      · cases h
      · rename_i h1
        simp only [Bool.or_eq_true, decide_eq_true_eq, Bool.not_eq_true', beq_eq_false_iff_ne, not_or, ne_eq, Classical.not_not] at h1
        exact .inr ⟨hk, by omega, h1.2.1, h1.2.2⟩
    · cases h
theorem text_len (x : LX) : formE x = 0 → (textX x).length + 10 ≤ 100 * x.size := by
  refine LX.ind (p := fun x => formE x = 0 → (textX x).length + 10 ≤ 100 * x.size) (fun k n e l ih h => ?_) x
  have hs : ∀ l : List LX, (∀ y ∈ l, formE y = 0 ∧ (textX y).length + 10 ≤ 100 * y.size) → ∀ k, (Lib.joinTail (sepX k) (textXs k l)).length ≤ 100 * LX.size.sizes l := fun l => by
    induction l with
    | nil => intro _ k; exact Nat.zero_le _
    | cons y l il =>
      intro hl k
      have h1 := (hl y (by simp)).2
      have h2 := il (fun z hz => hl z (by simp [hz])) k
      have h3 : (sepX k).length ≤ 5 := by unfold sepX; split <;> simp
      rw [textXs, LX.size.sizes]
      have h4 : (if par k y then [40] ++ textX y ++ [41] else textX y).length ≤ (textX y).length + 2 := by split <;> simp
      generalize (if par k y then [40] ++ textX y ++ [41] else textX y) = t at *
      simp only [Lib.joinTail, List.map_cons, List.flatten_cons, List.length_append] at h2 ⊢
      omega
  have hn := node_cases (formE_node h)
  rw [textX_eq]
  generalize hx : LX.mk k n e l = x at *
  have hp := x.size_pos
  have hkids : x.kids = l := by rw [← hx]; rfl
  rcases hn with ⟨hk, h1, h2, h3⟩ | ⟨hk, h1, h2, h3⟩
  · have hl := isNameB_len h2
    have he : x.exc.length ≤ 32 := by
      rcases h3 with h3 | h3
      · rw [h3]; exact Nat.zero_le _
      · exact isNameB_len h3.2
    rcases hk with hk | hk
    · rw [if_pos (by rw [hk]; rfl)]
      split
      · simp only [List.length_append, List.length_cons, List.length_nil]; omega
      · omega
    · rw [if_neg (by rw [hk]; decide), if_pos (by rw [hk]; rfl)]
      simp only [List.length_append, List.length_cons, List.length_nil]; omega
  · rw [if_neg (by rcases hk with hk | hk <;> (rw [hk]; decide)), if_neg (by rcases hk with hk | hk <;> (rw [hk]; decide))]
    have h4 := hs x.kids (fun y hy => ⟨formE_kid h hy, ih y (hkids ▸ hy) (formE_kid h hy)⟩) x.kind
    have h5 := join_le (textXs x.kind x.kids) (sepX x.kind)
    have h6 := x.size_eq
    omega
def TxOK (x : LX) : Prop := x.size ≤ 1048576 ∧ formE x = 0
theorem TxOK.kid {x : LX} {i : Nat} (h : TxOK x) (hi : i < x.kids.length) : TxOK x.kids[i] := ⟨by have := LX.size_kid (List.getElem_mem hi); have := h.1; omega, formE_kid h.2 (List.getElem_mem hi)⟩
theorem tails_len {x : LX} (h : TxOK x) (i : Nat) : (Lib.join (textXs x.kind (x.kids.take i)) (sepX x.kind)).length ≤ 104857600 := by
  have hs : ∀ l : List LX, (∀ y ∈ l, formE y = 0) → ∀ k, (Lib.joinTail (sepX k) (textXs k l)).length ≤ 100 * LX.size.sizes l := fun l => by
    induction l with
    | nil => intro _ k; exact Nat.zero_le _
    | cons y l il =>
      intro hl k
      have h1 := text_len y (hl y (by simp))
      have h2 := il (fun z hz => hl z (by simp [hz])) k
      have h3 : (sepX k).length ≤ 5 := by unfold sepX; split <;> simp
      rw [textXs, LX.size.sizes]
      have h4 : (if par k y then [40] ++ textX y ++ [41] else textX y).length ≤ (textX y).length + 2 := by split <;> simp
      generalize (if par k y then [40] ++ textX y ++ [41] else textX y) = t at *
      simp only [Lib.joinTail, List.map_cons, List.flatten_cons, List.length_append] at h2 ⊢
      omega
  have h1 := hs (x.kids.take i) (fun y hy => formE_kid h.2 (List.mem_of_mem_take hy)) x.kind
  have h2 := join_le (textXs x.kind (x.kids.take i)) (sepX x.kind)
  have h3 := LX.sizes_le (l := x.kids) i
  have h4 := x.size_eq
  have h5 := h.1
  omega
theorem textXs_take {x : LX} {i : Nat} (hi : i < x.kids.length) : textXs x.kind (x.kids.take (i + 1)) = textXs x.kind (x.kids.take i) ++ [pText x.kind x.kids[i]] := by
  rw [textXs_map, textXs_map, List.take_add_one, List.getElem?_eq_getElem hi, List.map_append]
  rfl
end Go.Ab
