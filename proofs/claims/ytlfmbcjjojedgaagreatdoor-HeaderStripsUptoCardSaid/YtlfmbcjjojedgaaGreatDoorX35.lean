/-
  One text of the proof (own work): contracts of functions of the program, by the abstract machine.
-/
import Derived.Test.YtlfmbcjjojedgaaGreatDoorX19
import Derived.Test.YtlfmbcjjojedgaaGreatDoorX32
import Derived.Test.YtlfmbcjjojedgaaGreatDoorX34
import Derived.Test.YtlfmbcjjojedgaaGreatDoorX27
import Derived.Test.YtlfmbcjjojedgaaGreatDoorX28
import Derived.Test.YtlfmbcjjojedgaaGreatDoorX26
import Derived.Test.YtlfmbcjjojedgaaGreatDoorX22
import Derived.Test.YtlfmbcjjojedgaaGreatDoorX24
import Derived.Test.YtlfmbcjjojedgaaGreatDoorX17
set_option linter.unusedVariables false
set_option linter.unusedSimpArgs false
namespace Go.Ab
open Go Go.RowKit Go.Proofs
set_option maxRecDepth 10000
set_option maxHeartbeats 8000000
def ePr (p : LX × Int × Int) : D := .tup [eX p.1, i64 p.2.1, i64 p.2.2]
theorem pEnd_bd {s : List UInt8} (h : s.length ≤ 1024) (he : (pEnd s (pOrsD s 24 ⟨0, 0, 0, 0⟩)).2.e = 0) : (pOrsD s 24 ⟨0, 0, 0, 0⟩).1.Bd 1099511627776 := by
  obtain ⟨h1, h2, h3⟩ := end_rel h
  have hg := good_ors (s := s) (a := 0) (fun a ha => good_atom 24 ha) (Nat.zero_le _)
  by_cases hr : (rOrs s (rAtom s 24) 0).err = 0
  · by_cases hl : (rOrs s (rAtom s 24) 0).at' < s.length
    · have := (h2 hr hl).1
      rw [he] at this
      exact absurd this (by decide)
    · have := (h3 hr hl).2
      rw [show (pOrsD s 24 ⟨0, 0, 0, 0⟩).1 = (pEnd s (pOrsD s 24 ⟨0, 0, 0, 0⟩)).1 from rfl, this]
      exact bd_mono (by omega) (hg.bd hr)
  · have := (h1 hr).1
    rw [he] at this
    exact absurd this.symm hr
noncomputable def g_parseP : List D → Option D := encSpec (fun x : (List UInt8) => [.str x]) (fun x : (List UInt8) => x.length ≤ 1099511627776) (fun x : (List UInt8) => ePr (pParse x))
theorem g_parseP_eq {s : List UInt8} (hd : s.length ≤ 1099511627776) : g_parseP [.str s] = some (ePr (pParse s)) := encSpec_eq (x := s) hd fun y hy => by
    simp only [List.cons.injEq, and_true, true_and, D.str.injEq, D.int.injEq, D.list.injEq, D.bool.injEq, D.agg.injEq, D.clo.injEq, Int.natCast_inj, inj_ie, lx_ie] at hy
    rw [hy]
theorem f_parseP_ok : PureOK Tryz.prog 53 false g_parseP := by
  have hΓ := Γq f_ptop_ok (Γq f_peek_ok (Γq f_fail_ok (Γp f_sizeP_ok (Γp (f_depthP_ok 1099511627776) (Γn)))))
  refine pure_enc (n := 54) (rs := [.cell 2 33, .tmp 3, .tmp 4]) Tryz.func53 (by kernel_rfl) rfl (by kernel_rfl) (by kernel_rfl) ?_
  rintro s hd
  (try dsimp only at hd ⊢)
  refine ⟨fun h => (by cases h), fun k hz0 => ?_⟩
  unfold pParse
  generalize hc0 : decide ((s.length : Int) > 1024) = c0
  cases c0
  case true =>
    rw [start_frame (by simp)]; simp only [enumV, go_sem, emptyH]
    repeat (first
      | (apply axJ; (focus ((with_reducible constructor) <;> rfl)))
      | (apply awT mixedOK hΓ (by kernel_rfl); (simp (disch := omega) only [go_sem, ↓reduceIte, ↓lk, ↓ty_build33, hc0] <;> with_reducible rfl))
      | ((first | apply awR hΓ | apply awG | apply awH mixedOK hΓ rfl (by kernel_rfl) | apply ovE rfl); (simp (disch := omega) only [go_sem, ↓reduceIte, ↓lk, ↓ty_build33, hc0] <;> with_reducible rfl); exact trivial)
      | rfl)
  have hs : s.length ≤ 1024 := by have := of_decide_eq_false hc0; omega
  have hI := pin0 hs
  have hbd0 := pEnd_bd hs
  have hou := ors_out (s := s) 24 _ hI
  have c1 : ∀ (k n : Nat) (B : Obj) (tab : List (Nat × Obj)), callLoc k ⟨(0, B) :: (8, .box [.data (.str s), .data (.int .i64 0), .data (.int .i64 0), .data (.int .i64 0), .data (.int .i64 0)]) :: (9, .box [.ptr 8 0]) :: tab, n⟩ (g_porsP 24) [.ptr 8 0, .data (.int .i64 3), .data (.str [111, 114]), .fn 88 [.ptr 9 0]] = some (.data (eX (pOrsD s 24 ⟨0, 0, 0, 0⟩).1), ⟨(0, B) :: (8, oRS s (pOrsD s 24 ⟨0, 0, 0, 0⟩).2) :: (9, .box [.ptr 8 0]) :: tab, k⟩) := fun k n B tab => (callLoc_of (fp := [8, 9]) rfl rfl rfl (g_porsP_eq 24 s ⟨0, 0, 0, 0⟩ hI) (Nat.le_refl _)).trans rfl
  have hle := hou.le
  have hok := hou.ok
  unfold pEnd at hbd0 ⊢
  generalize pOrsD s 24 ⟨0, 0, 0, 0⟩ = R at *
  obtain ⟨y, ⟨a1, o1, e1, h1⟩⟩ := R
  dsimp only at hle hok hbd0 ⊢
  have hor : a1 ≤ s.length ∨ e1 ≠ 0 := by
    by_cases h : e1 = 0
    · exact .inl (hok h)
    · exact .inr h
  have c2 : ∀ (k n : Nat) (B : Obj) (tab : List (Nat × Obj)), callLoc k ⟨(0, B) :: (8, .box [.data (.str s), .data (.int .i64 a1), .data (.int .i64 o1), .data (.int .i64 e1), .data (.int .i64 h1)]) :: tab, n⟩ g_peek [.ptr 8 0] = some (.data (.str (pPeek s ⟨a1, o1, e1, h1⟩).1), ⟨(0, B) :: (8, oRS s (pPeek s ⟨a1, o1, e1, h1⟩).2) :: tab, k⟩) := fun k n B tab => (callLoc_of (fp := [8]) rfl rfl rfl (g_peek_eq s ⟨a1, o1, e1, h1⟩ ⟨by omega, by dsimp only; omega, hor⟩) (Nat.le_refl _)).trans rfl
  generalize pPeek s ⟨a1, o1, e1, h1⟩ = P at *
  obtain ⟨t, ⟨a2, o2, e2, h2⟩⟩ := P
  have c3 : ∀ (k n : Nat) (B : Obj) (tab : List (Nat × Obj)), callLoc k ⟨(0, B) :: (8, .box [.data (.str s), .data (.int .i64 a2), .data (.int .i64 o2), .data (.int .i64 e2), .data (.int .i64 h2)]) :: tab, n⟩ g_fail [.ptr 8 0, .data (.int .i64 4), .data (.int .i64 a2)] = some (.tup [], ⟨(0, B) :: (8, oRS s (pFail ⟨a2, o2, e2, h2⟩ 4 a2)) :: tab, k⟩) := fun k n B tab => (callLoc_of (fp := [8]) rfl rfl rfl (g_fail_eq s ⟨a2, o2, e2, h2⟩ 4 a2) (Nat.le_refl _)).trans rfl
  dsimp only at c2 hbd0 ⊢
  simp only [oRS] at c1 c2 c3
  rw [start_frame (by simp)]; simp only [enumV, go_sem, emptyH]
  repeat (first
    | (apply axJ; (focus ((with_reducible constructor) <;> rfl)))
    | (apply awT mixedOK hΓ (by kernel_rfl); (simp (disch := omega) only [go_sem, ↓reduceIte, ↓lk, dk, ↓ty_build33, ↓ty_build114, hc0, ↓c1, ↓c2] <;> with_reducible rfl))
    | ((first | apply awR hΓ | apply awG | apply awH mixedOK hΓ rfl (by kernel_rfl) | apply ovE rfl); (simp (disch := omega) only [go_sem, ↓reduceIte, ↓lk, dk, ↓ty_build33, ↓ty_build114, hc0, ↓c1, ↓c2] <;> with_reducible rfl); exact trivial)
    | rfl)
  generalize hq : (if (t != []) = true then pFail ⟨a2, o2, e2, h2⟩ 4 ↑a2 else ⟨a2, o2, e2, h2⟩) = q at *
  obtain ⟨a3, o3, e3, h3⟩ := q
  dsimp only at hbd0 ⊢
  refine awp_mid (fun _ : Unit => (frame 54 [(2, .ptr 0 0), (3, .data (i64 0)), (4, .data (i64 0)), (5, .ptr 9 0), (6, .ptr 14 0)])) (fun _ => [(0, .box [.data (.int .i64 0), .data (.str []), .data (.str []), .nils]), (8, .box [.data (.str s), .data (.int .i64 a3), .data (.int .i64 o3), .data (.int .i64 e3), .data (.int .i64 h3)]), (9, .box [.ptr 8 0]), (14, .box [.data (.int .i64 y.kind), .data (.str y.name), .data (.str y.exc), .data (.list (y.kids.map eX))])]) 27 (fun _ => True) ?_ ?_
  · cases htk : (t != []) with
    | true =>
      have htk2 : (t == []) = false := by simpa [bne] using htk
      rw [htk] at hq
      simp only [if_true] at hq
      rw [hq] at c3
      simp only [oRS] at c3
      (repeat (first | (apply axJ; (focus ((with_reducible constructor) <;> rfl))) | ((first | apply awR hΓ | apply awG | apply ovE rfl); (simp (disch := omega) only [go_sem, ↓reduceIte, htk2] <;> with_reducible rfl); exact trivial) | rfl))
      (apply awp_lane3 (nst := false) (nst' := false) [false, false, false, false, false, true] mixedOK hΓ (n1 := 6) (by kernel_rfl) (by kernel_rfl); (focus (dsimp only [List.take_succ_cons, List.take_zero, Array.toList]; (repeat (first | (apply lane3_loud; (focus rfl); (focus rfl); (simp (disch := omega) only [go_sem, ↓reduceIte, dk, ↓c3, look_upd] <;> with_reducible rfl); (focus (first | (simp (disch := omega) only [go_sem, ↓reduceIte, dk, ↓c3, look_upd]; done) | (simp (disch := omega) only [go_sem, ↓reduceIte, dk, ↓c3, look_upd]; omega)))) | (apply lane3_quiet; (simp (disch := omega) only [go_sem, ↓reduceIte, dk, ↓c3, look_upd] <;> with_reducible rfl)))); exact lane3_nil)); (focus ((repeat' (first | exact True.intro | refine And.intro ?_ ?_)); all_goals (first | (left; decide) | (left; rfl) | (right; simp (disch := omega) only [go_sem, ↓reduceIte, dk, ↓c3, look_upd]; try with_reducible rfl)))); (simp (disch := omega) only [go_sem, ↓reduceIte, dk, ↓c3, look_upd] <;> with_reducible rfl))
      exact ⟨(), trivial, Weak.w⟩
    | false =>
      have htk2 : (t == []) = true := by simpa [bne] using htk
      rw [htk] at hq
      simp only [Bool.false_eq_true, if_false, RS.mk.injEq] at hq
      obtain ⟨rfl, rfl, rfl, rfl⟩ := hq
      (repeat (first | (apply axJ; (focus ((with_reducible constructor) <;> rfl))) | ((first | apply awR hΓ | apply awG | apply ovE rfl); (simp (disch := omega) only [go_sem, ↓reduceIte, htk2] <;> with_reducible rfl); exact trivial) | rfl))
      exact ⟨(), trivial, Weak.w⟩
  intro _ _
  clear c1 c2 c3 hq
  by_cases he : e3 = 0
  · have hbd := hbd0 he
    have hz := hbd.z
    have hh := y.hgt_le
    have e1 := g_sizeP_eq hbd
    have e2 := g_depthP_eq (h := 1099511627776) ⟨by omega, hbd⟩
    have heb : (e3 != 0) = false := by rw [he]; rfl
    rw [heb]
    generalize hc1 : decide ((y.size : Int) > 64) = c1
    generalize hc2 : decide ((y.hgt : Int) > 24) = c2
    cases c1
    rotate_left
    · ((repeat (first | (apply axJ; (focus ((with_reducible constructor) <;> rfl))) | (apply awT mixedOK hΓ (by kernel_rfl); (simp (disch := omega) only [go_sem, ↓reduceIte, ↓lk, ↓ty_build33, dk, heb, e1, e2, hc1, hc2, ePr, eX_eq] <;> with_reducible rfl)) | ((first | apply awR hΓ | apply awG | apply awH mixedOK hΓ rfl (by kernel_rfl) | apply ovE rfl); (simp (disch := omega) only [go_sem, ↓reduceIte, ↓lk, ↓ty_build33, dk, heb, e1, e2, hc1, hc2, ePr, eX_eq] <;> with_reducible rfl); exact trivial) | rfl)); (first | done | rfl))
    cases c2
    rotate_left
    · ((repeat (first | (apply axJ; (focus ((with_reducible constructor) <;> rfl))) | (apply awT mixedOK hΓ (by kernel_rfl); (simp (disch := omega) only [go_sem, ↓reduceIte, ↓lk, ↓ty_build33, dk, heb, e1, e2, hc1, hc2, ePr, eX_eq] <;> with_reducible rfl)) | ((first | apply awR hΓ | apply awG | apply awH mixedOK hΓ rfl (by kernel_rfl) | apply ovE rfl); (simp (disch := omega) only [go_sem, ↓reduceIte, ↓lk, ↓ty_build33, dk, heb, e1, e2, hc1, hc2, ePr, eX_eq] <;> with_reducible rfl); exact trivial) | rfl)); (first | done | rfl))
    repeat (first
      | (apply axJ; (focus ((with_reducible constructor) <;> rfl)))
      | (apply awT mixedOK hΓ (by kernel_rfl); (simp (disch := omega) only [go_sem, ↓reduceIte, ↓lk, ↓ty_build33, dk, heb, e1, e2, hc1, hc2, ePr, eX_eq] <;> with_reducible rfl))
      | ((first | apply awR hΓ | apply awG | apply awH mixedOK hΓ rfl (by kernel_rfl) | apply ovE rfl); (simp (disch := omega) only [go_sem, ↓reduceIte, ↓lk, ↓ty_build33, dk, heb, e1, e2, hc1, hc2, ePr, eX_eq] <;> with_reducible rfl); exact trivial)
      | rfl)
    simp only [Bool.false_eq_true, if_false, ePr, eX_eq]
  · have heb : (e3 != 0) = true := by simpa [bne] using he
    rw [heb]
    (repeat (first | (apply axJ; (focus ((with_reducible constructor) <;> rfl))) | ((first | apply awR hΓ | apply awG | apply ovE rfl); (simp (disch := omega) only [go_sem, ↓reduceIte, ↓lk, ↓ty_build33, dk, heb] <;> with_reducible rfl); exact trivial) | rfl))
    (apply awp_lane3 (nst := false) (nst' := false) [false, false, false, false, false, false, false, false, false, true, false, false] mixedOK hΓ (n1 := 12) (by kernel_rfl) (by kernel_rfl); (focus (dsimp only [List.take_succ_cons, List.take_zero, Array.toList]; (repeat (first | (apply lane3_loud; (focus rfl); (focus rfl); (simp (disch := omega) only [go_sem, ↓reduceIte, ↓lk, ↓ty_build33, dk, look_upd] <;> with_reducible rfl); (focus (first | (simp (disch := omega) only [go_sem, ↓reduceIte, ↓lk, ↓ty_build33, dk, look_upd]; done) | (simp (disch := omega) only [go_sem, ↓reduceIte, ↓lk, ↓ty_build33, dk, look_upd]; omega)))) | (apply lane3_quiet; (simp (disch := omega) only [go_sem, ↓reduceIte, ↓lk, ↓ty_build33, dk, look_upd] <;> with_reducible rfl)))); exact lane3_nil)); (focus ((repeat' (first | exact True.intro | refine And.intro ?_ ?_)); all_goals (first | (left; decide) | (left; rfl) | (right; simp (disch := omega) only [go_sem, ↓reduceIte, ↓lk, ↓ty_build33, dk, look_upd]; try with_reducible rfl)))); (simp (disch := omega) only [go_sem, ↓reduceIte, ↓lk, ↓ty_build33, dk, look_upd] <;> with_reducible rfl))
    (repeat (first | (apply axJ; (focus ((with_reducible constructor) <;> rfl))) | ((first | apply awR hΓ | apply awG | apply ovE rfl); (simp (disch := omega) only [go_sem, ↓reduceIte, ↓lk, dk] <;> with_reducible rfl); exact trivial) | rfl))
    try rfl
end Go.Ab
namespace Go.Ab
open Go Go.RowKit Go.Proofs
set_option maxRecDepth 100000
set_option maxHeartbeats 8000000
end Go.Ab
namespace Go.Ab
open Go Go.RowKit Go.Proofs
set_option maxRecDepth 10000
set_option maxHeartbeats 8000000
end Go.Ab
namespace Go.Ab
open Go Go.RowKit Go.Proofs
set_option maxRecDepth 10000
set_option maxHeartbeats 16000000
end Go.Ab
namespace Go.Ab
open Go Go.RowKit Go.Proofs
set_option maxRecDepth 10000
set_option maxHeartbeats 8000000
def kidStep (acc : List LX) (x : LX) : List LX := if acc.any (eqX x) then acc else acc ++ [x]
def andAll (kids : List LX) : LX := match kids with
  | [x] => x
  | k => .mk 2 [] [] k
def sumX (kids : List LX) : LX × Int × Int := if kids.length == 0 then (x0, -1, 7) else if kids.length == 1 then (andAll kids, 0, 0) else if checkE (andAll kids) == 0 then (andAll kids, 0, 0) else (x0, -1, checkE (andAll kids))
def declGo : List LX → List Hd → LX × Int × Int
  | kids, [] => sumX kids
  | kids, h :: r => if isK 0 h then (if (pParse h.text).2.2 == 0 then declGo (kidStep kids (pParse h.text).1) r else (x0, h.line, (pParse h.text).2.2)) else declGo kids r
theorem kid_ok {acc : List LX} {x : LX} {p : LX → Prop} (ha : ∀ k ∈ acc, p k) (hx : p x) : ∀ k ∈ kidStep acc x, p k := by
  unfold kidStep
  split
  · exact ha
  · intro k hk
    rcases List.mem_append.1 hk with hk | hk
    · exact ha k hk
    · rw [List.mem_singleton.1 hk]; exact hx
theorem kid_len (acc : List LX) (x : LX) : (kidStep acc x).length ≤ acc.length + 1 := by
  unfold kidStep
  split
  · omega
  · simp
theorem decl_inv : ∀ (l : List Hd) (kids : List LX), (∀ k ∈ kids, checkE k = 0 ∧ k.Bd 1099511627776) → kids.length + l.length ≤ 1000 → (declGo kids l).1.Bd 1099511627776
  | [], kids, h, hl => by
    have hall : (andAll kids).Bd 1099511627776 := by
      match kids, h, hl with
      | [], _, _ => exact .mk _ (by decide) (by decide) (by decide) (fun y hy => by cases hy)
      | [x], h, _ => exact (h x (by simp)).2
      | x :: y :: r, h, hl =>
        refine .mk _ (Nat.zero_le _) (Nat.zero_le _) ?_ (fun z hz => (h z hz).2)
        have key : ∀ l : List LX, (∀ k ∈ l, checkE k = 0) → LX.size.sizes l ≤ 64 * l.length := by
          intro l
          induction l with
          | nil => intro _; exact Nat.le_refl _
          | cons k l ih =>
            intro hk
            have h1 := ih fun z hz => hk z (by simp [hz])
            have h2 := (check_ok (hk k (by simp))).1
            rw [LX.size.sizes, List.length_cons]
            omega
        have := key (x :: y :: r) fun k hk => (h k hk).1
        show LX.size (.mk 2 [] [] (x :: y :: r)) ≤ _
        rw [LX.size]
        omega
    have hz : x0.Bd 1099511627776 := .mk _ (by decide) (by decide) (by decide) (fun y hy => by cases hy)
    rw [declGo]
    unfold sumX
    split
    · exact hz
    · split
      · exact hall
      · split
        · exact hall
        · exact hz
  | h :: r, kids, hk, hl => by
    have hz : x0.Bd 1099511627776 := .mk _ (by decide) (by decide) (by decide) (fun y hy => by cases hy)
    rw [List.length_cons] at hl
    rw [declGo]
    split
    · split
      · rename_i he
        obtain ⟨p1, p2⟩ := parse_form (s := h.text) (x := (pParse h.text).1) (a := (pParse h.text).2.1) (e := (pParse h.text).2.2) rfl
        have hc := p2 (eq_of_beq he)
        have := kid_len kids (pParse h.text).1
        exact decl_inv r _ (kid_ok hk hc) (by omega)
      · exact hz
    · exact decl_inv r kids hk (by omega)
end Go.Ab
namespace Go.Ab
open Go Go.RowKit Go.Proofs
set_option maxRecDepth 10000
set_option maxHeartbeats 16000000
def rX (x : LX) : D := .ref [.int .i64 x.kind, .str x.name, .str x.exc, .list (x.kids.map eX)]
theorem rX_inj (a b : LX) (h : rX a = rX b) : a = b := by
  apply eX_inj
  rw [eX_eq, eX_eq]
  simp only [rX, D.ref.injEq] at h
  rw [h]
theorem rX_e (a b : LX) : (rX a = rX b) = (a = b) := propext ⟨rX_inj a b, fun h => by rw [h]⟩
noncomputable def g_declC : List D → Option D := encSpec (fun x : LX × LX => [eX x.1, rX x.2]) (fun x : LX × LX => x.2.Bd 1099511627776 ∧ x.1.Bd 1099511627776) (fun x : LX × LX => .bool (eqX x.2 x.1))
theorem g_declC_eq {b : LX} {a : LX} (hd : a.Bd 1099511627776 ∧ b.Bd 1099511627776) : g_declC [.agg [.int .i64 b.kind, .str b.name, .str b.exc, .list (b.kids.map eX)], rX a] = some (.bool (eqX a b)) := by
  have e : g_declC [eX b, rX a] = some (.bool (eqX a b)) := encSpec_eq (x := (b, a)) hd fun y hy => by
    obtain ⟨y0, y1⟩ := y; simp only [List.cons.injEq, and_true, true_and, D.str.injEq, D.int.injEq, D.list.injEq, D.bool.injEq, D.agg.injEq, D.clo.injEq, Int.natCast_inj, inj_ie, lx_ie, rX_e, eHd_ie] at hy
    (try obtain ⟨rfl, rfl⟩ := hy)
    (try subst_vars)
    rfl
  exact (congrArg (g_declC) (by rw [← eX_eq b])).trans e
theorem f_declC_ok : PureOK Tryz.prog 54 true g_declC := by
  have hΓ := Γp (f_equalP_ok 1099511627776) (Γn)
  refine pure_enc (n := 7) (rs := [.tmp 3]) Tryz.func54 (by kernel_rfl) rfl (by kernel_rfl) (by kernel_rfl) ?_
  rintro ⟨b, a⟩ hd
  (try dsimp only at hd ⊢)
  refine ⟨fun _ => by (repeat (first | exact .int _ _ | exact .bool _ | exact .str _ | (refine .tup _ (fun d hd => ?_); simp only [List.mem_cons, List.not_mem_nil, or_false] at hd; rcases hd with rfl | hd))), fun k hz0 => ?_⟩
  obtain ⟨hx, hy⟩ := hd
  have e1 := g_equalP_eq (h := 1099511627776) (a := a) (b := b) ⟨Nat.le_trans a.hgt_le hx.z, hx, hy⟩
  unfold rX
  rw [eX_eq]
  rw [start_frame (by simp)]; simp only [enumV, go_sem, emptyH]
  repeat (first
    | (apply axJ; (focus ((with_reducible constructor) <;> rfl)))
    | (apply awT mixedOK hΓ (by kernel_rfl); (simp (disch := omega) only [go_sem, ↓reduceIte, dk, ↓lk, e1] <;> with_reducible rfl))
    | ((first | apply awR hΓ | apply awG | apply awH mixedOK hΓ rfl (by kernel_rfl) | apply ovE rfl); (simp (disch := omega) only [go_sem, ↓reduceIte, dk, ↓lk, e1] <;> with_reducible rfl); exact trivial)
    | rfl)
  try rfl
theorem f_idxX_ok {dm : LX → Prop} {f : FuncId} {g : List D → Option D} {caps : List D} {p : LX → Bool} (hf : PureOK Tryz.prog f true g) (hp : ∀ x, dm x → g (eX x :: caps) = some (.bool (p x))) : PureOK Tryz.prog 68 true (gIdxD eX dm f caps p) := by
  have hΓ := Γc_ok hf
  refine pure_enc (n := 19) (rs := [.tmp 4]) Tryz.func68 (by kernel_rfl) rfl (by kernel_rfl) (by kernel_rfl) ?_
  rintro l ⟨hlen, hdm⟩
  refine ⟨fun _ => .int _ _, fun k hz0 => ?_⟩
  rw [start_frame (by simp)]; simp only [enumV, go_sem, emptyH]
  repeat (first
    | (apply axJ; (focus ((with_reducible constructor) <;> rfl)))
    | (apply awT mixedOK hΓ (by kernel_rfl); (simp (disch := omega) only [go_sem, ↓reduceIte, dk, ↓lk] <;> with_reducible rfl))
    | ((first | apply awR hΓ | apply awG | apply awH mixedOK hΓ rfl (by kernel_rfl) | apply ovE rfl); (simp (disch := omega) only [go_sem, ↓reduceIte, dk, ↓lk] <;> with_reducible rfl); exact trivial)
    | rfl)
  refine awp_loop_at (X := Nat) (fun i => (frame 19 [(0, .data (.list (l.map eX))), (1, .data (.clo f caps)), (7, .data (i64 l.length)), (8, .data (i64 i))])) (fun _ => []) 9
    (fun i => i ≤ l.length ∧ (l.take i).any p = false) (fun i => l.length - i) 0 ⟨Nat.zero_le _, rfl⟩ (Weak.w) ?_
  rintro i ⟨hi, hpre⟩
  by_cases hi' : i < l.length
  · have hp' := hp _ (hdm _ (List.getElem_mem hi'))
    have hat := fun h => idx_at (p := p) hi' h hpre
    have hnx := fun h => any_nx (p := p) hi' hpre h
    try simp only [go_sem] at hp'
    generalize hy : l[i] = y at *
    generalize p y = c at *
    cases c
    · repeat (first
      | (apply axJ; (focus ((with_reducible constructor) <;> rfl)))
      | (apply awT mixedOK hΓ (by kernel_rfl); (simp (disch := omega) only [go_sem, ↓reduceIte, dk, ↓lk, Γc, hp', hy, freeze_data] <;> with_reducible rfl))
      | ((first | apply awR hΓ | apply awG | apply awH mixedOK hΓ rfl (by kernel_rfl) | apply ovE rfl); (simp (disch := omega) only [go_sem, ↓reduceIte, dk, ↓lk, Γc, hp', hy, freeze_data] <;> with_reducible rfl); exact trivial)
      | rfl)
      exact ⟨i + 1, ⟨by omega, hnx rfl⟩, by omega, Weak.w⟩
    · rw [hat rfl]
      repeat (first
        | (apply axJ; (focus ((with_reducible constructor) <;> rfl)))
        | (apply awT mixedOK hΓ (by kernel_rfl); (simp (disch := omega) only [go_sem, ↓reduceIte, dk, ↓lk, Γc, hp', hy, freeze_data] <;> with_reducible rfl))
        | ((first | apply awR hΓ | apply awG | apply awH mixedOK hΓ rfl (by kernel_rfl) | apply ovE rfl); (simp (disch := omega) only [go_sem, ↓reduceIte, dk, ↓lk, Γc, hp', hy, freeze_data] <;> with_reducible rfl); exact trivial)
        | rfl)
      try rfl
  · have hi3 : i = l.length := by omega
    subst hi3
    rw [List.take_length] at hpre
    rw [idx_none hpre]
    repeat (first
      | (apply axJ; (focus ((with_reducible constructor) <;> rfl)))
      | (apply awT mixedOK hΓ (by kernel_rfl); (simp (disch := omega) only [go_sem, ↓reduceIte, dk, ↓lk] <;> with_reducible rfl))
      | ((first | apply awR hΓ | apply awG | apply awH mixedOK hΓ rfl (by kernel_rfl) | apply ovE rfl); (simp (disch := omega) only [go_sem, ↓reduceIte, dk, ↓lk] <;> with_reducible rfl); exact trivial)
      | rfl)
    try rfl
theorem f_anyX_ok {dm : LX → Prop} {f : FuncId} {g : List D → Option D} {caps : List D} {p : LX → Bool} (hf : PureOK Tryz.prog f true g) (hp : ∀ x, dm x → g (eX x :: caps) = some (.bool (p x))) : PureOK Tryz.prog 32 true (gAnyD eX dm f caps p) := by
  have hΓ := Γc_ok (f_idxX_ok (dm := dm) hf hp)
  refine pure_enc (n := 9) (rs := [.tmp 4]) Tryz.func32 (by kernel_rfl) rfl (by kernel_rfl) (by kernel_rfl) ?_
  rintro l ⟨hlen, hdm⟩
  refine ⟨fun _ => .bool _, fun k hz0 => ?_⟩
  have hi := gIdxD_eq (e := eX) (dm := dm) eX_inj (f := f) (caps := caps) (p := p) hlen hdm
  have hn := idx_nonneg p l
  generalize idx p l = n at *
  rw [← hn]
  rw [start_frame (by simp)]; simp only [enumV, go_sem, emptyH]
  generalize hc : decide (n ≥ 0) = c
  cases c
  · repeat (first
    | (apply axJ; (focus ((with_reducible constructor) <;> rfl)))
    | (apply awT mixedOK hΓ (by kernel_rfl); (simp (disch := omega) only [go_sem, ↓reduceIte, dk, ↓lk, Γc, hi, hc] <;> with_reducible rfl))
    | ((first | apply awR hΓ | apply awG | apply awH mixedOK hΓ rfl (by kernel_rfl) | apply ovE rfl); (simp (disch := omega) only [go_sem, ↓reduceIte, dk, ↓lk, Γc, hi, hc] <;> with_reducible rfl); exact trivial)
    | rfl)
    try rfl
  · repeat (first
    | (apply axJ; (focus ((with_reducible constructor) <;> rfl)))
    | (apply awT mixedOK hΓ (by kernel_rfl); (simp (disch := omega) only [go_sem, ↓reduceIte, dk, ↓lk, Γc, hi, hc] <;> with_reducible rfl))
    | ((first | apply awR hΓ | apply awG | apply awH mixedOK hΓ rfl (by kernel_rfl) | apply ovE rfl); (simp (disch := omega) only [go_sem, ↓reduceIte, dk, ↓lk, Γc, hi, hc] <;> with_reducible rfl); exact trivial)
    | rfl)
    try rfl
theorem pure_union {P : Program} {X : Type} {f : FuncId} {fl : Bool} {G : X → List D → Option D} {g : List D → Option D} (h : ∀ x, PureOK P f fl (G x)) (hg : ∀ ds d, g ds = some d → ∃ x, G x ds = some d) : PureOK P f fl g := fun ds d hd => by
  obtain ⟨x, hx⟩ := hg ds d hd
  exact h x ds d hx
noncomputable def g_anyDc : List D → Option D := encSpec (fun y : List LX × LX => [.list (y.1.map eX), .clo 54 [rX y.2]]) (fun y => (y.1.length ≤ 1099511627776 ∧ ∀ x ∈ y.1, x.Bd 1099511627776) ∧ y.2.Bd 1099511627776) (fun y => .bool (y.1.any (eqX y.2)))
theorem f_anyDc_ok : PureOK Tryz.prog 32 true g_anyDc := by
  refine pure_union (X := {x : LX // x.Bd 1099511627776}) (G := fun x => gAnyD eX (fun y => y.Bd 1099511627776) 54 [rX x.1] (eqX x.1)) (fun x => f_anyX_ok f_declC_ok fun y hy => ?_) fun ds d hd => ?_
  · have := g_declC_eq (b := y) (a := x.1) ⟨x.2, hy⟩
    rw [eX_eq]
    exact this
  · obtain ⟨⟨l, x⟩, rfl, ⟨h1, h2⟩, rfl⟩ := encSpec_some hd
    exact ⟨⟨x, h2⟩, gAnyD_eq eX_inj h1.1 h1.2⟩
theorem g_anyDc_eq {l : List LX} {x : LX} (h1 : l.length ≤ 1099511627776) (h2 : ∀ y ∈ l, y.Bd 1099511627776) (h3 : x.Bd 1099511627776) : g_anyDc [.list (l.map eX), .clo 54 [.ref [.int .i64 x.kind, .str x.name, .str x.exc, .list (x.kids.map eX)]]] = some (.bool (l.any (eqX x))) := encSpec_eq (x := (l, x)) ⟨⟨h1, h2⟩, h3⟩ fun y hy => by
  obtain ⟨y1, y2⟩ := y
  simp only [List.cons.injEq, and_true, D.list.injEq, D.clo.injEq, true_and] at hy
  obtain ⟨e1, e2⟩ := hy
  rw [(eXs_ie _ _).mp e1, rX_inj _ _ e2]
end Go.Ab
namespace Go.Ab
open Go Go.RowKit Go.Proofs
set_option maxRecDepth 10000
set_option maxHeartbeats 4000000
end Go.Ab
namespace Go.Ab
open Go Go.RowKit Go.Proofs
set_option maxRecDepth 10000
set_option maxHeartbeats 8000000
end Go.Ab
namespace Go.Ab
open Go Go.RowKit Go.Proofs
set_option maxRecDepth 10000
set_option maxHeartbeats 16000000
end Go.Ab
