/-
  One text of the proof (own work): contracts of functions of the program, by the abstract machine.
-/
import Derived.Test.YtlfmbcjjojedgaaGreatDoorX19
import Derived.Test.YtlfmbcjjojedgaaGreatDoorX29
import Derived.Test.YtlfmbcjjojedgaaGreatDoorX23
set_option linter.unusedVariables false
set_option linter.unusedSimpArgs false
namespace Go.Ab
open Go Go.RowKit Go.Proofs
set_option maxRecDepth 10000
set_option maxHeartbeats 8000000
theorem letter_cut : ∀ b : UInt8, cutset.contains b = letter b := by
  have h : ∀ n : Fin 256, cutset.contains (UInt8.ofNat n) = letter (UInt8.ofNat n) := by decide +kernel
  intro b
  have := h ⟨b.toNat, b.toNat_lt⟩
  simpa using this
theorem trimL_eq (s : List UInt8) : Lib.trimLeftS s cutset = s.dropWhile letter := by
  unfold Lib.trimLeftS
  congr 1
  funext b
  exact letter_cut b
theorem dropWhile_nil {p : UInt8 → Bool} : ∀ s : List UInt8, (s.dropWhile p == []) = s.all p
  | [] => rfl
  | b :: s => by
    rw [List.dropWhile_cons, List.all_cons]
    cases p b with
    | true => simpa using dropWhile_nil s
    | false => simp
theorem trim_nil (s : List UInt8) : (Lib.trimS s cutset == []) = s.all letter := by
  unfold Lib.trimS
  rw [trimL_eq, dropWhile_nil]
  have hr : Lib.trimRightS s cutset = (s.reverse.dropWhile letter).reverse := by
    unfold Lib.trimRightS
    congr 2
    funext b
    exact letter_cut b
  rw [hr, List.all_reverse]
  have h1 : s.reverse.all letter = s.all letter := List.all_reverse
  have h2 : s.reverse.all letter = ((s.reverse.takeWhile letter).all letter && (s.reverse.dropWhile letter).all letter) := by
    conv => lhs; rw [← List.takeWhile_append_dropWhile (p := letter) (l := s.reverse), List.all_append]
  have h3 : (s.reverse.takeWhile letter).all letter = true := by
    rw [List.all_eq_true]
    intro x hx
    exact List.all_eq_true.1 (List.all_takeWhile (p := letter) (l := s.reverse)) x hx
  rw [← h1, h2, h3, Bool.true_and]
noncomputable def g_isName : List D → Option D := encSpec (fun x : (List UInt8) => [.str x]) (fun x : (List UInt8) => x.length ≤ 1099511627776) (fun x : (List UInt8) => .bool (isNameB x))
theorem g_isName_eq {s : List UInt8} (hd : s.length ≤ 1099511627776) : g_isName [.str s] = some (.bool (isNameB s)) := encSpec_eq (x := s) hd fun y hy => by
    simp only [List.cons.injEq, and_true, true_and, D.str.injEq, D.int.injEq, D.list.injEq, D.bool.injEq, D.agg.injEq, D.clo.injEq, Int.natCast_inj, inj_ie, lx_ie] at hy
    rw [hy]
theorem f_isName_ok : PureOK Tryz.prog 103 true g_isName := by
  have hΓ := Γp f_trim_ok (Γn)
  refine pure_enc (n := 36) (rs := [.tmp 2]) Tryz.func103 (by kernel_rfl) rfl (by kernel_rfl) (by kernel_rfl) ?_
  rintro s hd
  (try dsimp only at hd ⊢)
  refine ⟨fun _ => by (repeat (first | exact .int _ _ | exact .bool _ | exact .str _ | (refine .tup _ (fun d hd => ?_); simp only [List.mem_cons, List.not_mem_nil, or_false] at hd; rcases hd with rfl | hd))), fun k hz0 => ?_⟩
  have e0 := g_trim_eq hd
  have e1 := trim_nil s
  unfold cutset at e0 e1
  generalize Lib.trimS s [97, 98, 99, 100, 101, 102, 103, 104, 105, 106, 107, 108, 109, 110, 111, 112, 113, 114, 115, 116, 117, 118, 119, 120, 121, 122, 48, 49, 50, 51, 52, 53, 54, 55, 56, 57, 45, 46] = r0 at e0 e1
  rw [start_frame (by simp)]; simp only [enumV, go_sem, emptyH]
  cases s with
  | nil =>
    repeat (first
      | (apply axJ; (focus ((with_reducible constructor) <;> rfl)))
      | (apply awT mixedOK hΓ (by kernel_rfl); (simp (disch := omega) only [go_sem, ↓reduceIte, dk] <;> with_reducible rfl))
      | ((first | apply awR hΓ | apply awG | apply awH mixedOK hΓ rfl (by kernel_rfl) | apply ovE rfl); (simp (disch := omega) only [go_sem, ↓reduceIte, dk] <;> with_reducible rfl); exact trivial)
      | rfl)
  | cons b s =>
    have hhd : headOK (b :: s) = (!(decide ((b.toNat : Int) < 97)) && !(decide ((b.toNat : Int) > 122))) := rfl
    unfold isNameB
    rw [hhd]
    have hlen : 1 ≤ (b :: s).length := by simp
    have hb0 : (b :: s)[0]? = some b := rfl
    generalize b :: s = r at *
    generalize hc0 : decide ((r.length : Int) > 32) = c0
    generalize hc1 : decide ((b.toNat : Int) < 97) = c1
    generalize hc2 : decide ((b.toNat : Int) > 122) = c2
    generalize hc3 : (r == [97, 110, 100]) = c3
    generalize hc4 : (r == [111, 114]) = c4
    generalize hc5 : (r == [119, 105, 116, 104]) = c5
    have h1 : decide ((r.length : Int) < 1) = false := decide_eq_false (by omega)
    have hb1 : ∀ h : 0 < r.length, r[0]'h = b := fun h => by rw [List.getElem?_eq_getElem h] at hb0; simpa using hb0
    cases c0
    rotate_left
    · ((repeat (first | (apply axJ; (focus ((with_reducible constructor) <;> rfl))) | (apply awT mixedOK hΓ (by kernel_rfl); (simp (disch := omega) only [go_sem, ↓reduceIte, dk, Int.reduceToNat, h1, hb1, hc0, hc1, hc2, hc3, hc4, hc5] <;> with_reducible rfl)) | ((first | apply awR hΓ | apply awG | apply awH mixedOK hΓ rfl (by kernel_rfl) | apply ovE rfl); (simp (disch := omega) only [go_sem, ↓reduceIte, dk, Int.reduceToNat, h1, hb1, hc0, hc1, hc2, hc3, hc4, hc5] <;> with_reducible rfl); exact trivial) | rfl)); (first | done | rfl))
    cases c1
    rotate_left
    · ((repeat (first | (apply axJ; (focus ((with_reducible constructor) <;> rfl))) | (apply awT mixedOK hΓ (by kernel_rfl); (simp (disch := omega) only [go_sem, ↓reduceIte, dk, Int.reduceToNat, h1, hb1, hc0, hc1, hc2, hc3, hc4, hc5] <;> with_reducible rfl)) | ((first | apply awR hΓ | apply awG | apply awH mixedOK hΓ rfl (by kernel_rfl) | apply ovE rfl); (simp (disch := omega) only [go_sem, ↓reduceIte, dk, Int.reduceToNat, h1, hb1, hc0, hc1, hc2, hc3, hc4, hc5] <;> with_reducible rfl); exact trivial) | rfl)); (first | done | rfl))
    cases c2
    rotate_left
    · ((repeat (first | (apply axJ; (focus ((with_reducible constructor) <;> rfl))) | (apply awT mixedOK hΓ (by kernel_rfl); (simp (disch := omega) only [go_sem, ↓reduceIte, dk, Int.reduceToNat, h1, hb1, hc0, hc1, hc2, hc3, hc4, hc5] <;> with_reducible rfl)) | ((first | apply awR hΓ | apply awG | apply awH mixedOK hΓ rfl (by kernel_rfl) | apply ovE rfl); (simp (disch := omega) only [go_sem, ↓reduceIte, dk, Int.reduceToNat, h1, hb1, hc0, hc1, hc2, hc3, hc4, hc5] <;> with_reducible rfl); exact trivial) | rfl)); (first | done | rfl))
    cases c3
    rotate_left
    · ((repeat (first | (apply axJ; (focus ((with_reducible constructor) <;> rfl))) | (apply awT mixedOK hΓ (by kernel_rfl); (simp (disch := omega) only [go_sem, ↓reduceIte, dk, Int.reduceToNat, h1, hb1, hc0, hc1, hc2, hc3, hc4, hc5] <;> with_reducible rfl)) | ((first | apply awR hΓ | apply awG | apply awH mixedOK hΓ rfl (by kernel_rfl) | apply ovE rfl); (simp (disch := omega) only [go_sem, ↓reduceIte, dk, Int.reduceToNat, h1, hb1, hc0, hc1, hc2, hc3, hc4, hc5] <;> with_reducible rfl); exact trivial) | rfl)); (first | done | rfl))
    cases c4
    rotate_left
    · ((repeat (first | (apply axJ; (focus ((with_reducible constructor) <;> rfl))) | (apply awT mixedOK hΓ (by kernel_rfl); (simp (disch := omega) only [go_sem, ↓reduceIte, dk, Int.reduceToNat, h1, hb1, hc0, hc1, hc2, hc3, hc4, hc5] <;> with_reducible rfl)) | ((first | apply awR hΓ | apply awG | apply awH mixedOK hΓ rfl (by kernel_rfl) | apply ovE rfl); (simp (disch := omega) only [go_sem, ↓reduceIte, dk, Int.reduceToNat, h1, hb1, hc0, hc1, hc2, hc3, hc4, hc5] <;> with_reducible rfl); exact trivial) | rfl)); (first | done | rfl))
    cases c5
    rotate_left
    · ((repeat (first | (apply axJ; (focus ((with_reducible constructor) <;> rfl))) | (apply awT mixedOK hΓ (by kernel_rfl); (simp (disch := omega) only [go_sem, ↓reduceIte, dk, Int.reduceToNat, h1, hb1, hc0, hc1, hc2, hc3, hc4, hc5] <;> with_reducible rfl)) | ((first | apply awR hΓ | apply awG | apply awH mixedOK hΓ rfl (by kernel_rfl) | apply ovE rfl); (simp (disch := omega) only [go_sem, ↓reduceIte, dk, Int.reduceToNat, h1, hb1, hc0, hc1, hc2, hc3, hc4, hc5] <;> with_reducible rfl); exact trivial) | rfl)); (first | done | rfl))
    repeat (first
      | (apply axJ; (focus ((with_reducible constructor) <;> rfl)))
      | (apply awT mixedOK hΓ (by kernel_rfl); (simp (disch := omega) only [go_sem, ↓reduceIte, dk, Int.reduceToNat, h1, hb1, hc0, hc1, hc2, hc3, hc4, hc5, e0, e1] <;> with_reducible rfl))
      | ((first | apply awR hΓ | apply awG | apply awH mixedOK hΓ rfl (by kernel_rfl) | apply ovE rfl); (simp (disch := omega) only [go_sem, ↓reduceIte, dk, Int.reduceToNat, h1, hb1, hc0, hc1, hc2, hc3, hc4, hc5, e0, e1] <;> with_reducible rfl); exact trivial)
      | rfl)
    try rfl
def nodeE (x : LX) : Int :=
  if (x.kind == 0) || (x.kind == 1) then
    if decide ((x.kids.length : Int) > 0) || ((x.kind == 1) && !(x.exc == [])) then 1
    else if !(isNameB x.name) || (!(x.exc == []) && !(isNameB x.exc)) then 2 else 0
  else if (x.kind == 2) || (x.kind == 3) then
    if decide ((x.kids.length : Int) < 2) || (!(x.name == []) || !(x.exc == [])) then 1 else 0
  else 1
noncomputable def g_checkNode : List D → Option D := encSpec (fun x : LX => [eX x]) (fun x : LX => x.Bd 1099511627776) (fun x : LX => i64 (nodeE x))
theorem g_checkNode_eq {x : LX} (hd : x.Bd 1099511627776) : g_checkNode [.agg [.int .i64 x.kind, .str x.name, .str x.exc, .list (x.kids.map eX)]] = some (i64 (nodeE x)) := by
  have e : g_checkNode [eX x] = some (i64 (nodeE x)) := encSpec_eq (x := x) hd fun y hy => by
    simp only [List.cons.injEq, and_true, true_and, D.str.injEq, D.int.injEq, D.list.injEq, D.bool.injEq, D.agg.injEq, D.clo.injEq, Int.natCast_inj, inj_ie, lx_ie] at hy
    rw [hy]
  exact (congrArg (g_checkNode) (by rw [← eX_eq x])).trans e
theorem f_checkNode_ok : PureOK Tryz.prog 71 true g_checkNode := by
  have hΓ := Γp f_isName_ok (Γn)
  refine pure_enc (n := 54) (rs := [.tmp 2]) Tryz.func71 (by kernel_rfl) rfl (by kernel_rfl) (by kernel_rfl) ?_
  rintro x hd
  (try dsimp only at hd ⊢)
  refine ⟨fun _ => by (repeat (first | exact .int _ _ | exact .bool _ | exact .str _ | (refine .tup _ (fun d hd => ?_); simp only [List.mem_cons, List.not_mem_nil, or_false] at hd; rcases hd with rfl | hd))), fun k hz0 => ?_⟩
  have e1 := g_isName_eq hd.n
  have e2 := g_isName_eq hd.e
  have hz := hd.z
  have hl := x.len_le
  unfold nodeE
  rw [start_frame (by simp)]; simp only [enumV, go_sem, emptyH]
  generalize hc0 : (x.kind == 0) = c0
  generalize hc1 : (x.kind == 1) = c1
  generalize hc2 : (x.kind == 2) = c2
  generalize hc3 : (x.kind == 3) = c3
  generalize hc4 : (x.name == []) = c4
  generalize hc5 : (x.exc == []) = c5
  generalize hc6 : decide ((x.kids.length : Int) > 0) = c6
  generalize hc7 : decide ((x.kids.length : Int) < 2) = c7
  generalize isNameB x.name = c8 at *
  generalize isNameB x.exc = c9 at *
  (cases c0; (focus (cases c1; (focus (cases c2; (focus (cases c3; (focus ((repeat (first | (apply axJ; (focus ((with_reducible constructor) <;> rfl))) | (apply awT mixedOK hΓ (by kernel_rfl); (simp (disch := omega) only [go_sem, ↓reduceIte, hc0, hc1, hc2, hc3, hc4, hc5, hc6, hc7, e1, e2] <;> with_reducible rfl)) | ((first | apply awR hΓ | apply awG | apply awH mixedOK hΓ rfl (by kernel_rfl) | apply ovE rfl); (simp (disch := omega) only [go_sem, ↓reduceIte, hc0, hc1, hc2, hc3, hc4, hc5, hc6, hc7, e1, e2] <;> with_reducible rfl); exact trivial) | rfl)); (first | done | rfl))); (focus (cases c7; (focus (cases c4; (focus ((repeat (first | (apply axJ; (focus ((with_reducible constructor) <;> rfl))) | (apply awT mixedOK hΓ (by kernel_rfl); (simp (disch := omega) only [go_sem, ↓reduceIte, hc0, hc1, hc2, hc3, hc4, hc5, hc6, hc7, e1, e2] <;> with_reducible rfl)) | ((first | apply awR hΓ | apply awG | apply awH mixedOK hΓ rfl (by kernel_rfl) | apply ovE rfl); (simp (disch := omega) only [go_sem, ↓reduceIte, hc0, hc1, hc2, hc3, hc4, hc5, hc6, hc7, e1, e2] <;> with_reducible rfl); exact trivial) | rfl)); (first | done | rfl))); (focus (cases c5; (focus ((repeat (first | (apply axJ; (focus ((with_reducible constructor) <;> rfl))) | (apply awT mixedOK hΓ (by kernel_rfl); (simp (disch := omega) only [go_sem, ↓reduceIte, hc0, hc1, hc2, hc3, hc4, hc5, hc6, hc7, e1, e2] <;> with_reducible rfl)) | ((first | apply awR hΓ | apply awG | apply awH mixedOK hΓ rfl (by kernel_rfl) | apply ovE rfl); (simp (disch := omega) only [go_sem, ↓reduceIte, hc0, hc1, hc2, hc3, hc4, hc5, hc6, hc7, e1, e2] <;> with_reducible rfl); exact trivial) | rfl)); (first | done | rfl))); (focus ((repeat (first | (apply axJ; (focus ((with_reducible constructor) <;> rfl))) | (apply awT mixedOK hΓ (by kernel_rfl); (simp (disch := omega) only [go_sem, ↓reduceIte, hc0, hc1, hc2, hc3, hc4, hc5, hc6, hc7, e1, e2] <;> with_reducible rfl)) | ((first | apply awR hΓ | apply awG | apply awH mixedOK hΓ rfl (by kernel_rfl) | apply ovE rfl); (simp (disch := omega) only [go_sem, ↓reduceIte, hc0, hc1, hc2, hc3, hc4, hc5, hc6, hc7, e1, e2] <;> with_reducible rfl); exact trivial) | rfl)); (first | done | rfl))))))); (focus ((repeat (first | (apply axJ; (focus ((with_reducible constructor) <;> rfl))) | (apply awT mixedOK hΓ (by kernel_rfl); (simp (disch := omega) only [go_sem, ↓reduceIte, hc0, hc1, hc2, hc3, hc4, hc5, hc6, hc7, e1, e2] <;> with_reducible rfl)) | ((first | apply awR hΓ | apply awG | apply awH mixedOK hΓ rfl (by kernel_rfl) | apply ovE rfl); (simp (disch := omega) only [go_sem, ↓reduceIte, hc0, hc1, hc2, hc3, hc4, hc5, hc6, hc7, e1, e2] <;> with_reducible rfl); exact trivial) | rfl)); (first | done | rfl))))))); (focus (cases c7; (focus (cases c4; (focus ((repeat (first | (apply axJ; (focus ((with_reducible constructor) <;> rfl))) | (apply awT mixedOK hΓ (by kernel_rfl); (simp (disch := omega) only [go_sem, ↓reduceIte, hc0, hc1, hc2, hc3, hc4, hc5, hc6, hc7, e1, e2] <;> with_reducible rfl)) | ((first | apply awR hΓ | apply awG | apply awH mixedOK hΓ rfl (by kernel_rfl) | apply ovE rfl); (simp (disch := omega) only [go_sem, ↓reduceIte, hc0, hc1, hc2, hc3, hc4, hc5, hc6, hc7, e1, e2] <;> with_reducible rfl); exact trivial) | rfl)); (first | done | rfl))); (focus (cases c5; (focus ((repeat (first | (apply axJ; (focus ((with_reducible constructor) <;> rfl))) | (apply awT mixedOK hΓ (by kernel_rfl); (simp (disch := omega) only [go_sem, ↓reduceIte, hc0, hc1, hc2, hc3, hc4, hc5, hc6, hc7, e1, e2] <;> with_reducible rfl)) | ((first | apply awR hΓ | apply awG | apply awH mixedOK hΓ rfl (by kernel_rfl) | apply ovE rfl); (simp (disch := omega) only [go_sem, ↓reduceIte, hc0, hc1, hc2, hc3, hc4, hc5, hc6, hc7, e1, e2] <;> with_reducible rfl); exact trivial) | rfl)); (first | done | rfl))); (focus ((repeat (first | (apply axJ; (focus ((with_reducible constructor) <;> rfl))) | (apply awT mixedOK hΓ (by kernel_rfl); (simp (disch := omega) only [go_sem, ↓reduceIte, hc0, hc1, hc2, hc3, hc4, hc5, hc6, hc7, e1, e2] <;> with_reducible rfl)) | ((first | apply awR hΓ | apply awG | apply awH mixedOK hΓ rfl (by kernel_rfl) | apply ovE rfl); (simp (disch := omega) only [go_sem, ↓reduceIte, hc0, hc1, hc2, hc3, hc4, hc5, hc6, hc7, e1, e2] <;> with_reducible rfl); exact trivial) | rfl)); (first | done | rfl))))))); (focus ((repeat (first | (apply axJ; (focus ((with_reducible constructor) <;> rfl))) | (apply awT mixedOK hΓ (by kernel_rfl); (simp (disch := omega) only [go_sem, ↓reduceIte, hc0, hc1, hc2, hc3, hc4, hc5, hc6, hc7, e1, e2] <;> with_reducible rfl)) | ((first | apply awR hΓ | apply awG | apply awH mixedOK hΓ rfl (by kernel_rfl) | apply ovE rfl); (simp (disch := omega) only [go_sem, ↓reduceIte, hc0, hc1, hc2, hc3, hc4, hc5, hc6, hc7, e1, e2] <;> with_reducible rfl); exact trivial) | rfl)); (first | done | rfl))))))); (focus (cases c6; (focus (cases c5; (focus ((repeat (first | (apply axJ; (focus ((with_reducible constructor) <;> rfl))) | (apply awT mixedOK hΓ (by kernel_rfl); (simp (disch := omega) only [go_sem, ↓reduceIte, hc0, hc1, hc2, hc3, hc4, hc5, hc6, hc7, e1, e2] <;> with_reducible rfl)) | ((first | apply awR hΓ | apply awG | apply awH mixedOK hΓ rfl (by kernel_rfl) | apply ovE rfl); (simp (disch := omega) only [go_sem, ↓reduceIte, hc0, hc1, hc2, hc3, hc4, hc5, hc6, hc7, e1, e2] <;> with_reducible rfl); exact trivial) | rfl)); (first | done | rfl))); (focus (cases c8; (focus ((repeat (first | (apply axJ; (focus ((with_reducible constructor) <;> rfl))) | (apply awT mixedOK hΓ (by kernel_rfl); (simp (disch := omega) only [go_sem, ↓reduceIte, hc0, hc1, hc2, hc3, hc4, hc5, hc6, hc7, e1, e2] <;> with_reducible rfl)) | ((first | apply awR hΓ | apply awG | apply awH mixedOK hΓ rfl (by kernel_rfl) | apply ovE rfl); (simp (disch := omega) only [go_sem, ↓reduceIte, hc0, hc1, hc2, hc3, hc4, hc5, hc6, hc7, e1, e2] <;> with_reducible rfl); exact trivial) | rfl)); (first | done | rfl))); (focus ((repeat (first | (apply axJ; (focus ((with_reducible constructor) <;> rfl))) | (apply awT mixedOK hΓ (by kernel_rfl); (simp (disch := omega) only [go_sem, ↓reduceIte, hc0, hc1, hc2, hc3, hc4, hc5, hc6, hc7, e1, e2] <;> with_reducible rfl)) | ((first | apply awR hΓ | apply awG | apply awH mixedOK hΓ rfl (by kernel_rfl) | apply ovE rfl); (simp (disch := omega) only [go_sem, ↓reduceIte, hc0, hc1, hc2, hc3, hc4, hc5, hc6, hc7, e1, e2] <;> with_reducible rfl); exact trivial) | rfl)); (first | done | rfl))))))); (focus ((repeat (first | (apply axJ; (focus ((with_reducible constructor) <;> rfl))) | (apply awT mixedOK hΓ (by kernel_rfl); (simp (disch := omega) only [go_sem, ↓reduceIte, hc0, hc1, hc2, hc3, hc4, hc5, hc6, hc7, e1, e2] <;> with_reducible rfl)) | ((first | apply awR hΓ | apply awG | apply awH mixedOK hΓ rfl (by kernel_rfl) | apply ovE rfl); (simp (disch := omega) only [go_sem, ↓reduceIte, hc0, hc1, hc2, hc3, hc4, hc5, hc6, hc7, e1, e2] <;> with_reducible rfl); exact trivial) | rfl)); (first | done | rfl))))))); (focus (cases c6; (focus (cases c1; (focus (cases c8; (focus ((repeat (first | (apply axJ; (focus ((with_reducible constructor) <;> rfl))) | (apply awT mixedOK hΓ (by kernel_rfl); (simp (disch := omega) only [go_sem, ↓reduceIte, hc0, hc1, hc2, hc3, hc4, hc5, hc6, hc7, e1, e2] <;> with_reducible rfl)) | ((first | apply awR hΓ | apply awG | apply awH mixedOK hΓ rfl (by kernel_rfl) | apply ovE rfl); (simp (disch := omega) only [go_sem, ↓reduceIte, hc0, hc1, hc2, hc3, hc4, hc5, hc6, hc7, e1, e2] <;> with_reducible rfl); exact trivial) | rfl)); (first | done | rfl))); (focus (cases c5; (focus (cases c9; (focus ((repeat (first | (apply axJ; (focus ((with_reducible constructor) <;> rfl))) | (apply awT mixedOK hΓ (by kernel_rfl); (simp (disch := omega) only [go_sem, ↓reduceIte, hc0, hc1, hc2, hc3, hc4, hc5, hc6, hc7, e1, e2] <;> with_reducible rfl)) | ((first | apply awR hΓ | apply awG | apply awH mixedOK hΓ rfl (by kernel_rfl) | apply ovE rfl); (simp (disch := omega) only [go_sem, ↓reduceIte, hc0, hc1, hc2, hc3, hc4, hc5, hc6, hc7, e1, e2] <;> with_reducible rfl); exact trivial) | rfl)); (first | done | rfl))); (focus ((repeat (first | (apply axJ; (focus ((with_reducible constructor) <;> rfl))) | (apply awT mixedOK hΓ (by kernel_rfl); (simp (disch := omega) only [go_sem, ↓reduceIte, hc0, hc1, hc2, hc3, hc4, hc5, hc6, hc7, e1, e2] <;> with_reducible rfl)) | ((first | apply awR hΓ | apply awG | apply awH mixedOK hΓ rfl (by kernel_rfl) | apply ovE rfl); (simp (disch := omega) only [go_sem, ↓reduceIte, hc0, hc1, hc2, hc3, hc4, hc5, hc6, hc7, e1, e2] <;> with_reducible rfl); exact trivial) | rfl)); (first | done | rfl))))); (focus ((repeat (first | (apply axJ; (focus ((with_reducible constructor) <;> rfl))) | (apply awT mixedOK hΓ (by kernel_rfl); (simp (disch := omega) only [go_sem, ↓reduceIte, hc0, hc1, hc2, hc3, hc4, hc5, hc6, hc7, e1, e2] <;> with_reducible rfl)) | ((first | apply awR hΓ | apply awG | apply awH mixedOK hΓ rfl (by kernel_rfl) | apply ovE rfl); (simp (disch := omega) only [go_sem, ↓reduceIte, hc0, hc1, hc2, hc3, hc4, hc5, hc6, hc7, e1, e2] <;> with_reducible rfl); exact trivial) | rfl)); (first | done | rfl))))))); (focus (cases c5; (focus ((repeat (first | (apply axJ; (focus ((with_reducible constructor) <;> rfl))) | (apply awT mixedOK hΓ (by kernel_rfl); (simp (disch := omega) only [go_sem, ↓reduceIte, hc0, hc1, hc2, hc3, hc4, hc5, hc6, hc7, e1, e2] <;> with_reducible rfl)) | ((first | apply awR hΓ | apply awG | apply awH mixedOK hΓ rfl (by kernel_rfl) | apply ovE rfl); (simp (disch := omega) only [go_sem, ↓reduceIte, hc0, hc1, hc2, hc3, hc4, hc5, hc6, hc7, e1, e2] <;> with_reducible rfl); exact trivial) | rfl)); (first | done | rfl))); (focus (cases c8; (focus ((repeat (first | (apply axJ; (focus ((with_reducible constructor) <;> rfl))) | (apply awT mixedOK hΓ (by kernel_rfl); (simp (disch := omega) only [go_sem, ↓reduceIte, hc0, hc1, hc2, hc3, hc4, hc5, hc6, hc7, e1, e2] <;> with_reducible rfl)) | ((first | apply awR hΓ | apply awG | apply awH mixedOK hΓ rfl (by kernel_rfl) | apply ovE rfl); (simp (disch := omega) only [go_sem, ↓reduceIte, hc0, hc1, hc2, hc3, hc4, hc5, hc6, hc7, e1, e2] <;> with_reducible rfl); exact trivial) | rfl)); (first | done | rfl))); (focus ((repeat (first | (apply axJ; (focus ((with_reducible constructor) <;> rfl))) | (apply awT mixedOK hΓ (by kernel_rfl); (simp (disch := omega) only [go_sem, ↓reduceIte, hc0, hc1, hc2, hc3, hc4, hc5, hc6, hc7, e1, e2] <;> with_reducible rfl)) | ((first | apply awR hΓ | apply awG | apply awH mixedOK hΓ rfl (by kernel_rfl) | apply ovE rfl); (simp (disch := omega) only [go_sem, ↓reduceIte, hc0, hc1, hc2, hc3, hc4, hc5, hc6, hc7, e1, e2] <;> with_reducible rfl); exact trivial) | rfl)); (first | done | rfl))))))))); (focus ((repeat (first | (apply axJ; (focus ((with_reducible constructor) <;> rfl))) | (apply awT mixedOK hΓ (by kernel_rfl); (simp (disch := omega) only [go_sem, ↓reduceIte, hc0, hc1, hc2, hc3, hc4, hc5, hc6, hc7, e1, e2] <;> with_reducible rfl)) | ((first | apply awR hΓ | apply awG | apply awH mixedOK hΓ rfl (by kernel_rfl) | apply ovE rfl); (simp (disch := omega) only [go_sem, ↓reduceIte, hc0, hc1, hc2, hc3, hc4, hc5, hc6, hc7, e1, e2] <;> with_reducible rfl); exact trivial) | rfl)); (first | done | rfl))))))
end Go.Ab
