/-
  One text of the proof (own work): contracts of functions of the program, by the abstract machine.
-/
import Derived.Test.YtlfmbcjjojedgaaGreatDoorX19
import Derived.Test.YtlfmbcjjojedgaaGreatDoorX27
import Derived.Test.YtlfmbcjjojedgaaGreatDoorX23
set_option linter.unusedVariables false
set_option linter.unusedSimpArgs false
namespace Go.Ab
open Go Go.RowKit Go.Proofs
set_option maxRecDepth 10000
set_option maxHeartbeats 8000000
theorem letter_cut : ∀ b : UInt8, cutset.contains b = letter b := by
  have h : ∀ n : Fin 256, cutset.contains (UInt8.ofNat n) = letter (UInt8.ofNat n) := by decide +kernel
  intro b
  have := h ⟨b.toNat, b.toNat_lt⟩
  simpa using this
theorem trimL_eq (s : List UInt8) : Lib.trimLeftS s cutset = s.dropWhile letter := by
  unfold Lib.trimLeftS
  congr 1
  funext b
  exact letter_cut b
theorem dropWhile_nil {p : UInt8 → Bool} : ∀ s : List UInt8, (s.dropWhile p == []) = s.all p
  | [] => rfl
  | b :: s => by
    rw [List.dropWhile_cons, List.all_cons]
    cases p b with
    | true => simpa using dropWhile_nil s
    | false => simp
theorem trim_nil (s : List UInt8) : (Lib.trimS s cutset == []) = s.all letter := by
  unfold Lib.trimS
  rw [trimL_eq, dropWhile_nil]
  have hr : Lib.trimRightS s cutset = (s.reverse.dropWhile letter).reverse := by
    unfold Lib.trimRightS
    congr 2
    funext b
    exact letter_cut b
  rw [hr, List.all_reverse]
  have h1 : s.reverse.all letter = s.all letter := List.all_reverse
  have h2 : s.reverse.all letter = ((s.reverse.takeWhile letter).all letter && (s.reverse.dropWhile letter).all letter) := by
    conv => lhs; rw [← List.takeWhile_append_dropWhile (p := letter) (l := s.reverse), List.all_append]
  have h3 : (s.reverse.takeWhile letter).all letter = true := by
    rw [List.all_eq_true]
    intro x hx
    exact List.all_eq_true.1 (List.all_takeWhile (p := letter) (l := s.reverse)) x hx
  rw [← h1, h2, h3, Bool.true_and]
noncomputable def g_isName : List D → Option D := encSpec (fun x : (List UInt8) => [.str x]) (fun x : (List UInt8) => x.length ≤ 1099511627776) (fun x : (List UInt8) => .bool (isNameB x))
theorem g_isName_eq {s : List UInt8} (hd : s.length ≤ 1099511627776) : g_isName [.str s] = some (.bool (isNameB s)) := encSpec_eq (x := s) hd fun y hy => by
    simp only [List.cons.injEq, and_true, true_and, D.str.injEq, D.int.injEq, D.list.injEq, D.bool.injEq, D.agg.injEq, D.clo.injEq, Int.natCast_inj, inj_ie, lx_ie] at hy
    rw [hy]
theorem f_isName_ok : PureOK Tryz.prog 103 true g_isName := by
  have hΓ := Γp f_trim_ok (Γn)
  refine pure_enc (n := 36) (rs := [.tmp 2]) Tryz.func103 (by kernel_rfl) rfl (by kernel_rfl) (by kernel_rfl) ?_
  rintro s hd
  (try dsimp only at hd ⊢)
  refine ⟨fun _ => by (repeat (first | exact .int _ _ | exact .bool _ | exact .str _ | (refine .tup _ (fun d hd => ?_); simp only [List.mem_cons, List.not_mem_nil, or_false] at hd; rcases hd with rfl | hd))), fun k hz0 => ?_⟩
  have e0 := g_trim_eq hd
  have e1 := trim_nil s
  unfold cutset at e0 e1
  generalize Lib.trimS s [97, 98, 99, 100, 101, 102, 103, 104, 105, 106, 107, 108, 109, 110, 111, 112, 113, 114, 115, 116, 117, 118, 119, 120, 121, 122, 48, 49, 50, 51, 52, 53, 54, 55, 56, 57, 45, 46] = r0 at e0 e1
  rw [start_frame (by simp)]; simp only [enumV, go_sem, emptyH]
  cases s with
  | nil =>
    repeat (first
      | (apply axJ; (focus ((with_reducible constructor) <;> rfl)))
      | (apply awT mixedOK hΓ (by kernel_rfl); (simp (disch := omega) only [go_sem, ↓reduceIte, dk] <;> with_reducible rfl))
      | ((first | apply awR hΓ | apply awG | apply awH mixedOK hΓ rfl (by kernel_rfl) | apply ovE rfl); (simp (disch := omega) only [go_sem, ↓reduceIte, dk] <;> with_reducible rfl); exact trivial)
      | rfl)
  | cons b s =>
    have hhd : headOK (b :: s) = (!(decide ((b.toNat : Int) < 97)) && !(decide ((b.toNat : Int) > 122))) := rfl
    unfold isNameB
    rw [hhd]
    have hlen : 1 ≤ (b :: s).length := by simp
    have hb0 : (b :: s)[0]? = some b := rfl
    generalize b :: s = r at *
    generalize hc0 : decide ((r.length : Int) > 32) = c0
    generalize hc1 : decide ((b.toNat : Int) < 97) = c1
    generalize hc2 : decide ((b.toNat : Int) > 122) = c2
    generalize hc3 : (r == [97, 110, 100]) = c3
    generalize hc4 : (r == [111, 114]) = c4
    generalize hc5 : (r == [119, 105, 116, 104]) = c5
    have h1 : decide ((r.length : Int) < 1) = false := decide_eq_false (by omega)
    have hb1 : ∀ h : 0 < r.length, r[0]'h = b := fun h => by rw [List.getElem?_eq_getElem h] at hb0; simpa using hb0
    cases c0
    rotate_left
    · ((repeat (first | (apply axJ; (focus ((with_reducible constructor) <;> rfl))) | (apply awT mixedOK hΓ (by kernel_rfl); (simp (disch := omega) only [go_sem, ↓reduceIte, dk, Int.reduceToNat, h1, hb1, hc0, hc1, hc2, hc3, hc4, hc5] <;> with_reducible rfl)) | ((first | apply awR hΓ | apply awG | apply awH mixedOK hΓ rfl (by kernel_rfl) | apply ovE rfl); (simp (disch := omega) only [go_sem, ↓reduceIte, dk, Int.reduceToNat, h1, hb1, hc0, hc1, hc2, hc3, hc4, hc5] <;> with_reducible rfl); exact trivial) | rfl)); (first | done | rfl))
    cases c1
    rotate_left
    · ((repeat (first | (apply axJ; (focus ((with_reducible constructor) <;> rfl))) | (apply awT mixedOK hΓ (by kernel_rfl); (simp (disch := omega) only [go_sem, ↓reduceIte, dk, Int.reduceToNat, h1, hb1, hc0, hc1, hc2, hc3, hc4, hc5] <;> with_reducible rfl)) | ((first | apply awR hΓ | apply awG | apply awH mixedOK hΓ rfl (by kernel_rfl) | apply ovE rfl); (simp (disch := omega) only [go_sem, ↓reduceIte, dk, Int.reduceToNat, h1, hb1, hc0, hc1, hc2, hc3, hc4, hc5] <;> with_reducible rfl); exact trivial) | rfl)); (first | done | rfl))
    cases c2
    rotate_left
    · ((repeat (first | (apply axJ; (focus ((with_reducible constructor) <;> rfl))) | (apply awT mixedOK hΓ (by kernel_rfl); (simp (disch := omega) only [go_sem, ↓reduceIte, dk, Int.reduceToNat, h1, hb1, hc0, hc1, hc2, hc3, hc4, hc5] <;> with_reducible rfl)) | ((first | apply awR hΓ | apply awG | apply awH mixedOK hΓ rfl (by kernel_rfl) | apply ovE rfl); (simp (disch := omega) only [go_sem, ↓reduceIte, dk, Int.reduceToNat, h1, hb1, hc0, hc1, hc2, hc3, hc4, hc5] <;> with_reducible rfl); exact trivial) | rfl)); (first | done | rfl))
    cases c3
    rotate_left
    · ((repeat (first | (apply axJ; (focus ((with_reducible constructor) <;> rfl))) | (apply awT mixedOK hΓ (by kernel_rfl); (simp (disch := omega) only [go_sem, ↓reduceIte, dk, Int.reduceToNat, h1, hb1, hc0, hc1, hc2, hc3, hc4, hc5] <;> with_reducible rfl)) | ((first | apply awR hΓ | apply awG | apply awH mixedOK hΓ rfl (by kernel_rfl) | apply ovE rfl); (simp (disch := omega) only [go_sem, ↓reduceIte, dk, Int.reduceToNat, h1, hb1, hc0, hc1, hc2, hc3, hc4, hc5] <;> with_reducible rfl); exact trivial) | rfl)); (first | done | rfl))
    cases c4
    rotate_left
    · ((repeat (first | (apply axJ; (focus ((with_reducible constructor) <;> rfl))) | (apply awT mixedOK hΓ (by kernel_rfl); (simp (disch := omega) only [go_sem, ↓reduceIte, dk, Int.reduceToNat, h1, hb1, hc0, hc1, hc2, hc3, hc4, hc5] <;> with_reducible rfl)) | ((first | apply awR hΓ | apply awG | apply awH mixedOK hΓ rfl (by kernel_rfl) | apply ovE rfl); (simp (disch := omega) only [go_sem, ↓reduceIte, dk, Int.reduceToNat, h1, hb1, hc0, hc1, hc2, hc3, hc4, hc5] <;> with_reducible rfl); exact trivial) | rfl)); (first | done | rfl))
    cases c5
    rotate_left
    · ((repeat (first | (apply axJ; (focus ((with_reducible constructor) <;> rfl))) | (apply awT mixedOK hΓ (by kernel_rfl); (simp (disch := omega) only [go_sem, ↓reduceIte, dk, Int.reduceToNat, h1, hb1, hc0, hc1, hc2, hc3, hc4, hc5] <;> with_reducible rfl)) | ((first | apply awR hΓ | apply awG | apply awH mixedOK hΓ rfl (by kernel_rfl) | apply ovE rfl); (simp (disch := omega) only [go_sem, ↓reduceIte, dk, Int.reduceToNat, h1, hb1, hc0, hc1, hc2, hc3, hc4, hc5] <;> with_reducible rfl); exact trivial) | rfl)); (first | done | rfl))
    repeat (first
      | (apply axJ; (focus ((with_reducible constructor) <;> rfl)))
      | (apply awT mixedOK hΓ (by kernel_rfl); (simp (disch := omega) only [go_sem, ↓reduceIte, dk, Int.reduceToNat, h1, hb1, hc0, hc1, hc2, hc3, hc4, hc5, e0, e1] <;> with_reducible rfl))
      | ((first | apply awR hΓ | apply awG | apply awH mixedOK hΓ rfl (by kernel_rfl) | apply ovE rfl); (simp (disch := omega) only [go_sem, ↓reduceIte, dk, Int.reduceToNat, h1, hb1, hc0, hc1, hc2, hc3, hc4, hc5, e0, e1] <;> with_reducible rfl); exact trivial)
      | rfl)
    try rfl
def nodeE (x : LX) : Int :=
  if (x.kind == 0) || (x.kind == 1) then
    if decide ((x.kids.length : Int) > 0) || ((x.kind == 1) && !(x.exc == [])) then 1
    else if !(isNameB x.name) || (!(x.exc == []) && !(isNameB x.exc)) then 2 else 0
  else if (x.kind == 2) || (x.kind == 3) then
    if decide ((x.kids.length : Int) < 2) || (!(x.name == []) || !(x.exc == [])) then 1 else 0
  else 1
noncomputable def g_checkNode : List D → Option D := encSpec (fun x : LX => [eX x]) (fun x : LX => x.Bd 1099511627776) (fun x : LX => i64 (nodeE x))
theorem g_checkNode_eq {x : LX} (hd : x.Bd 1099511627776) : g_checkNode [.agg [.int .i64 x.kind, .str x.name, .str x.exc, .list (x.kids.map eX)]] = some (i64 (nodeE x)) := by
  have e : g_checkNode [eX x] = some (i64 (nodeE x)) := encSpec_eq (x := x) hd fun y hy => by
    simp only [List.cons.injEq, and_true, true_and, D.str.injEq, D.int.injEq, D.list.injEq, D.bool.injEq, D.agg.injEq, D.clo.injEq, Int.natCast_inj, inj_ie, lx_ie] at hy
    rw [hy]
  exact (congrArg (g_checkNode) (by rw [← eX_eq x])).trans e
theorem f_checkNode_ok : PureOK Tryz.prog 71 true g_checkNode := by
  have hΓ := Γp f_isName_ok (Γn)
  refine pure_enc (n := 54) (rs := [.tmp 2]) Tryz.func71 (by kernel_rfl) rfl (by kernel_rfl) (by kernel_rfl) ?_
  rintro x hd
  (try dsimp only at hd ⊢)
  refine ⟨fun _ => by (repeat (first | exact .int _ _ | exact .bool _ | exact .str _ | (refine .tup _ (fun d hd => ?_); simp only [List.mem_cons, List.not_mem_nil, or_false] at hd; rcases hd with rfl | hd))), fun k hz0 => ?_⟩
  have e1 := g_isName_eq hd.n
  have e2 := g_isName_eq hd.e
  have hz := hd.z
  have hl := x.len_le
  unfold nodeE
  rw [start_frame (by simp)]; simp only [enumV, go_sem, emptyH]
  generalize hc0 : (x.kind == 0) = c0
  generalize hc1 : (x.kind == 1) = c1
  generalize hc2 : (x.kind == 2) = c2
  generalize hc3 : (x.kind == 3) = c3
  generalize hc4 : (x.name == []) = c4
  generalize hc5 : (x.exc == []) = c5
  generalize hc6 : decide ((x.kids.length : Int) > 0) = c6
  generalize hc7 : decide ((x.kids.length : Int) < 2) = c7
  generalize isNameB x.name = c8 at *
  generalize isNameB x.exc = c9 at *
  (cases c0; (focus (cases c1; (focus (cases c2; (focus (cases c3; (focus ((repeat (first | (apply axJ; (focus ((with_reducible constructor) <;> rfl))) | (apply awT mixedOK hΓ (by kernel_rfl); (simp (disch := omega) only [go_sem, ↓reduceIte, hc0, hc1, hc2, hc3, hc4, hc5, hc6, hc7, e1, e2] <;> with_reducible rfl)) | ((first | apply awR hΓ | apply awG | apply awH mixedOK hΓ rfl (by kernel_rfl) | apply ovE rfl); (simp (disch := omega) only [go_sem, ↓reduceIte, hc0, hc1, hc2, hc3, hc4, hc5, hc6, hc7, e1, e2] <;> with_reducible rfl); exact trivial) | rfl)); (first | done | rfl))); (focus (cases c7; (focus (cases c4; (focus ((repeat (first | (apply axJ; (focus ((with_reducible constructor) <;> rfl))) | (apply awT mixedOK hΓ (by kernel_rfl); (simp (disch := omega) only [go_sem, ↓reduceIte, hc0, hc1, hc2, hc3, hc4, hc5, hc6, hc7, e1, e2] <;> with_reducible rfl)) | ((first | apply awR hΓ | apply awG | apply awH mixedOK hΓ rfl (by kernel_rfl) | apply ovE rfl); (simp (disch := omega) only [go_sem, ↓reduceIte, hc0, hc1, hc2, hc3, hc4, hc5, hc6, hc7, e1, e2] <;> with_reducible rfl); exact trivial) | rfl)); (first | done | rfl))); (focus (cases c5; (focus ((repeat (first | (apply axJ; (focus ((with_reducible constructor) <;> rfl))) | (apply awT mixedOK hΓ (by kernel_rfl); (simp (disch := omega) only [go_sem, ↓reduceIte, hc0, hc1, hc2, hc3, hc4, hc5, hc6, hc7, e1, e2] <;> with_reducible rfl)) | ((first | apply awR hΓ | apply awG | apply awH mixedOK hΓ rfl (by kernel_rfl) | apply ovE rfl); (simp (disch := omega) only [go_sem, ↓reduceIte, hc0, hc1, hc2, hc3, hc4, hc5, hc6, hc7, e1, e2] <;> with_reducible rfl); exact trivial) | rfl)); (first | done | rfl))); (focus ((repeat (first | (apply axJ; (focus ((with_reducible constructor) <;> rfl))) | (apply awT mixedOK hΓ (by kernel_rfl); (simp (disch := omega) only [go_sem, ↓reduceIte, hc0, hc1, hc2, hc3, hc4, hc5, hc6, hc7, e1, e2] <;> with_reducible rfl)) | ((first | apply awR hΓ | apply awG | apply awH mixedOK hΓ rfl (by kernel_rfl) | apply ovE rfl); (simp (disch := omega) only [go_sem, ↓reduceIte, hc0, hc1, hc2, hc3, hc4, hc5, hc6, hc7, e1, e2] <;> with_reducible rfl); exact trivial) | rfl)); (first | done | rfl))))))); (focus ((repeat (first | (apply axJ; (focus ((with_reducible constructor) <;> rfl))) | (apply awT mixedOK hΓ (by kernel_rfl); (simp (disch := omega) only [go_sem, ↓reduceIte, hc0, hc1, hc2, hc3, hc4, hc5, hc6, hc7, e1, e2] <;> with_reducible rfl)) | ((first | apply awR hΓ | apply awG | apply awH mixedOK hΓ rfl (by kernel_rfl) | apply ovE rfl); (simp (disch := omega) only [go_sem, ↓reduceIte, hc0, hc1, hc2, hc3, hc4, hc5, hc6, hc7, e1, e2] <;> with_reducible rfl); exact trivial) | rfl)); (first | done | rfl))))))); (focus (cases c7; (focus (cases c4; (focus ((repeat (first | (apply axJ; (focus ((with_reducible constructor) <;> rfl))) | (apply awT mixedOK hΓ (by kernel_rfl); (simp (disch := omega) only [go_sem, ↓reduceIte, hc0, hc1, hc2, hc3, hc4, hc5, hc6, hc7, e1, e2] <;> with_reducible rfl)) | ((first | apply awR hΓ | apply awG | apply awH mixedOK hΓ rfl (by kernel_rfl) | apply ovE rfl); (simp (disch := omega) only [go_sem, ↓reduceIte, hc0, hc1, hc2, hc3, hc4, hc5, hc6, hc7, e1, e2] <;> with_reducible rfl); exact trivial) | rfl)); (first | done | rfl))); (focus (cases c5; (focus ((repeat (first | (apply axJ; (focus ((with_reducible constructor) <;> rfl))) | (apply awT mixedOK hΓ (by kernel_rfl); (simp (disch := omega) only [go_sem, ↓reduceIte, hc0, hc1, hc2, hc3, hc4, hc5, hc6, hc7, e1, e2] <;> with_reducible rfl)) | ((first | apply awR hΓ | apply awG | apply awH mixedOK hΓ rfl (by kernel_rfl) | apply ovE rfl); (simp (disch := omega) only [go_sem, ↓reduceIte, hc0, hc1, hc2, hc3, hc4, hc5, hc6, hc7, e1, e2] <;> with_reducible rfl); exact trivial) | rfl)); (first | done | rfl))); (focus ((repeat (first | (apply axJ; (focus ((with_reducible constructor) <;> rfl))) | (apply awT mixedOK hΓ (by kernel_rfl); (simp (disch := omega) only [go_sem, ↓reduceIte, hc0, hc1, hc2, hc3, hc4, hc5, hc6, hc7, e1, e2] <;> with_reducible rfl)) | ((first | apply awR hΓ | apply awG | apply awH mixedOK hΓ rfl (by kernel_rfl) | apply ovE rfl); (simp (disch := omega) only [go_sem, ↓reduceIte, hc0, hc1, hc2, hc3, hc4, hc5, hc6, hc7, e1, e2] <;> with_reducible rfl); exact trivial) | rfl)); (first | done | rfl))))))); (focus ((repeat (first | (apply axJ; (focus ((with_reducible constructor) <;> rfl))) | (apply awT mixedOK hΓ (by kernel_rfl); (simp (disch := omega) only [go_sem, ↓reduceIte, hc0, hc1, hc2, hc3, hc4, hc5, hc6, hc7, e1, e2] <;> with_reducible rfl)) | ((first | apply awR hΓ | apply awG | apply awH mixedOK hΓ rfl (by kernel_rfl) | apply ovE rfl); (simp (disch := omega) only [go_sem, ↓reduceIte, hc0, hc1, hc2, hc3, hc4, hc5, hc6, hc7, e1, e2] <;> with_reducible rfl); exact trivial) | rfl)); (first | done | rfl))))))); (focus (cases c6; (focus (cases c5; (focus ((repeat (first | (apply axJ; (focus ((with_reducible constructor) <;> rfl))) | (apply awT mixedOK hΓ (by kernel_rfl); (simp (disch := omega) only [go_sem, ↓reduceIte, hc0, hc1, hc2, hc3, hc4, hc5, hc6, hc7, e1, e2] <;> with_reducible rfl)) | ((first | apply awR hΓ | apply awG | apply awH mixedOK hΓ rfl (by kernel_rfl) | apply ovE rfl); (simp (disch := omega) only [go_sem, ↓reduceIte, hc0, hc1, hc2, hc3, hc4, hc5, hc6, hc7, e1, e2] <;> with_reducible rfl); exact trivial) | rfl)); (first | done | rfl))); (focus (cases c8; (focus ((repeat (first | (apply axJ; (focus ((with_reducible constructor) <;> rfl))) | (apply awT mixedOK hΓ (by kernel_rfl); (simp (disch := omega) only [go_sem, ↓reduceIte, hc0, hc1, hc2, hc3, hc4, hc5, hc6, hc7, e1, e2] <;> with_reducible rfl)) | ((first | apply awR hΓ | apply awG | apply awH mixedOK hΓ rfl (by kernel_rfl) | apply ovE rfl); (simp (disch := omega) only [go_sem, ↓reduceIte, hc0, hc1, hc2, hc3, hc4, hc5, hc6, hc7, e1, e2] <;> with_reducible rfl); exact trivial) | rfl)); (first | done | rfl))); (focus ((repeat (first | (apply axJ; (focus ((with_reducible constructor) <;> rfl))) | (apply awT mixedOK hΓ (by kernel_rfl); (simp (disch := omega) only [go_sem, ↓reduceIte, hc0, hc1, hc2, hc3, hc4, hc5, hc6, hc7, e1, e2] <;> with_reducible rfl)) | ((first | apply awR hΓ | apply awG | apply awH mixedOK hΓ rfl (by kernel_rfl) | apply ovE rfl); (simp (disch := omega) only [go_sem, ↓reduceIte, hc0, hc1, hc2, hc3, hc4, hc5, hc6, hc7, e1, e2] <;> with_reducible rfl); exact trivial) | rfl)); (first | done | rfl))))))); (focus ((repeat (first | (apply axJ; (focus ((with_reducible constructor) <;> rfl))) | (apply awT mixedOK hΓ (by kernel_rfl); (simp (disch := omega) only [go_sem, ↓reduceIte, hc0, hc1, hc2, hc3, hc4, hc5, hc6, hc7, e1, e2] <;> with_reducible rfl)) | ((first | apply awR hΓ | apply awG | apply awH mixedOK hΓ rfl (by kernel_rfl) | apply ovE rfl); (simp (disch := omega) only [go_sem, ↓reduceIte, hc0, hc1, hc2, hc3, hc4, hc5, hc6, hc7, e1, e2] <;> with_reducible rfl); exact trivial) | rfl)); (first | done | rfl))))))); (focus (cases c6; (focus (cases c1; (focus (cases c8; (focus ((repeat (first | (apply axJ; (focus ((with_reducible constructor) <;> rfl))) | (apply awT mixedOK hΓ (by kernel_rfl); (simp (disch := omega) only [go_sem, ↓reduceIte, hc0, hc1, hc2, hc3, hc4, hc5, hc6, hc7, e1, e2] <;> with_reducible rfl)) | ((first | apply awR hΓ | apply awG | apply awH mixedOK hΓ rfl (by kernel_rfl) | apply ovE rfl); (simp (disch := omega) only [go_sem, ↓reduceIte, hc0, hc1, hc2, hc3, hc4, hc5, hc6, hc7, e1, e2] <;> with_reducible rfl); exact trivial) | rfl)); (first | done | rfl))); (focus (cases c5; (focus (cases c9; (focus ((repeat (first | (apply axJ; (focus ((with_reducible constructor) <;> rfl))) | (apply awT mixedOK hΓ (by kernel_rfl); (simp (disch := omega) only [go_sem, ↓reduceIte, hc0, hc1, hc2, hc3, hc4, hc5, hc6, hc7, e1, e2] <;> with_reducible rfl)) | ((first | apply awR hΓ | apply awG | apply awH mixedOK hΓ rfl (by kernel_rfl) | apply ovE rfl); (simp (disch := omega) only [go_sem, ↓reduceIte, hc0, hc1, hc2, hc3, hc4, hc5, hc6, hc7, e1, e2] <;> with_reducible rfl); exact trivial) | rfl)); (first | done | rfl))); (focus ((repeat (first | (apply axJ; (focus ((with_reducible constructor) <;> rfl))) | (apply awT mixedOK hΓ (by kernel_rfl); (simp (disch := omega) only [go_sem, ↓reduceIte, hc0, hc1, hc2, hc3, hc4, hc5, hc6, hc7, e1, e2] <;> with_reducible rfl)) | ((first | apply awR hΓ | apply awG | apply awH mixedOK hΓ rfl (by kernel_rfl) | apply ovE rfl); (simp (disch := omega) only [go_sem, ↓reduceIte, hc0, hc1, hc2, hc3, hc4, hc5, hc6, hc7, e1, e2] <;> with_reducible rfl); exact trivial) | rfl)); (first | done | rfl))))); (focus ((repeat (first | (apply axJ; (focus ((with_reducible constructor) <;> rfl))) | (apply awT mixedOK hΓ (by kernel_rfl); (simp (disch := omega) only [go_sem, ↓reduceIte, hc0, hc1, hc2, hc3, hc4, hc5, hc6, hc7, e1, e2] <;> with_reducible rfl)) | ((first | apply awR hΓ | apply awG | apply awH mixedOK hΓ rfl (by kernel_rfl) | apply ovE rfl); (simp (disch := omega) only [go_sem, ↓reduceIte, hc0, hc1, hc2, hc3, hc4, hc5, hc6, hc7, e1, e2] <;> with_reducible rfl); exact trivial) | rfl)); (first | done | rfl))))))); (focus (cases c5; (focus ((repeat (first | (apply axJ; (focus ((with_reducible constructor) <;> rfl))) | (apply awT mixedOK hΓ (by kernel_rfl); (simp (disch := omega) only [go_sem, ↓reduceIte, hc0, hc1, hc2, hc3, hc4, hc5, hc6, hc7, e1, e2] <;> with_reducible rfl)) | ((first | apply awR hΓ | apply awG | apply awH mixedOK hΓ rfl (by kernel_rfl) | apply ovE rfl); (simp (disch := omega) only [go_sem, ↓reduceIte, hc0, hc1, hc2, hc3, hc4, hc5, hc6, hc7, e1, e2] <;> with_reducible rfl); exact trivial) | rfl)); (first | done | rfl))); (focus (cases c8; (focus ((repeat (first | (apply axJ; (focus ((with_reducible constructor) <;> rfl))) | (apply awT mixedOK hΓ (by kernel_rfl); (simp (disch := omega) only [go_sem, ↓reduceIte, hc0, hc1, hc2, hc3, hc4, hc5, hc6, hc7, e1, e2] <;> with_reducible rfl)) | ((first | apply awR hΓ | apply awG | apply awH mixedOK hΓ rfl (by kernel_rfl) | apply ovE rfl); (simp (disch := omega) only [go_sem, ↓reduceIte, hc0, hc1, hc2, hc3, hc4, hc5, hc6, hc7, e1, e2] <;> with_reducible rfl); exact trivial) | rfl)); (first | done | rfl))); (focus ((repeat (first | (apply axJ; (focus ((with_reducible constructor) <;> rfl))) | (apply awT mixedOK hΓ (by kernel_rfl); (simp (disch := omega) only [go_sem, ↓reduceIte, hc0, hc1, hc2, hc3, hc4, hc5, hc6, hc7, e1, e2] <;> with_reducible rfl)) | ((first | apply awR hΓ | apply awG | apply awH mixedOK hΓ rfl (by kernel_rfl) | apply ovE rfl); (simp (disch := omega) only [go_sem, ↓reduceIte, hc0, hc1, hc2, hc3, hc4, hc5, hc6, hc7, e1, e2] <;> with_reducible rfl); exact trivial) | rfl)); (first | done | rfl))))))))); (focus ((repeat (first | (apply axJ; (focus ((with_reducible constructor) <;> rfl))) | (apply awT mixedOK hΓ (by kernel_rfl); (simp (disch := omega) only [go_sem, ↓reduceIte, hc0, hc1, hc2, hc3, hc4, hc5, hc6, hc7, e1, e2] <;> with_reducible rfl)) | ((first | apply awR hΓ | apply awG | apply awH mixedOK hΓ rfl (by kernel_rfl) | apply ovE rfl); (simp (disch := omega) only [go_sem, ↓reduceIte, hc0, hc1, hc2, hc3, hc4, hc5, hc6, hc7, e1, e2] <;> with_reducible rfl); exact trivial) | rfl)); (first | done | rfl))))))
end Go.Ab
namespace Go.Ab
open Go Go.RowKit Go.Proofs
set_option maxRecDepth 10000
set_option maxHeartbeats 8000000
mutual
def formE : LX → Int
  | .mk k n e l => if nodeE (.mk k n e l) == 0 then formsE l else nodeE (.mk k n e l)
def formsE : List LX → Int
  | [] => 0
  | x :: l => if formE x == 0 then formsE l else formE x
end
theorem formE_eq (x : LX) : formE x = if nodeE x == 0 then formsE x.kids else nodeE x := by cases x; rw [formE]; rfl
def nodeF (b0 b1 b2 b3 c4 c5 c6 c7 c8 c9 : Bool) : Int :=
  if b0 || b1 then 1 else if b2 then (if c7 || (!c4 || !c5) then 1 else 0) else if c6 || (b3 && !c5) then 1 else if !c8 || (!c5 && !c9) then 2 else 0
theorem nodeE_form (x : LX) : nodeE x = nodeF (decide (x.kind < 0)) (decide (x.kind > 3)) (decide (x.kind ≥ 2)) (x.kind == 1) (x.name == []) (x.exc == []) (decide ((x.kids.length : Int) > 0)) (decide ((x.kids.length : Int) < 2)) (isNameB x.name) (isNameB x.exc) := by
  unfold nodeE nodeF
  generalize x.kind = k
  have h : k = 0 ∨ k = 1 ∨ k = 2 ∨ k = 3 ∨ k < 0 ∨ k > 3 := by omega
  rcases h with rfl | rfl | rfl | rfl | h | h
  · rfl
  · rfl
  · rfl
  · rfl
  · rw [decide_eq_true h, beq_eq_false_iff_ne.2 (show k ≠ 0 by omega), beq_eq_false_iff_ne.2 (show k ≠ 1 by omega), beq_eq_false_iff_ne.2 (show k ≠ 2 by omega), beq_eq_false_iff_ne.2 (show k ≠ 3 by omega)]
    rfl
  · rw [decide_eq_true h, beq_eq_false_iff_ne.2 (show k ≠ 0 by omega), beq_eq_false_iff_ne.2 (show k ≠ 1 by omega), beq_eq_false_iff_ne.2 (show k ≠ 2 by omega), beq_eq_false_iff_ne.2 (show k ≠ 3 by omega), decide_eq_false (show ¬ k < 0 by omega)]
    rfl
def checkE (x : LX) : Int := if decide ((x.size : Int) > 64) then 10 else if decide ((x.hgt : Int) > 24) then 11 else formE x
mutual
def cntX : LX → Int → Nat → Int
  | .mk _ n e l, most, d => match d with
    | 0 => most + 1
    | d + 1 => cntXs l (1 + ((n.length : Int) + e.length) / 40) most d
def cntXs : List LX → Int → Int → Nat → Int
  | [], c, _, _ => c
  | x :: l, c, most, d => if c ≤ most then cntXs l (c + cntX x (most - c) d) most d else c
end
theorem cntX_zero (x : LX) (most : Int) : cntX x most 0 = most + 1 := by cases x; rw [cntX]
theorem cntX_succ (x : LX) (most : Int) (d : Nat) : cntX x most (d + 1) = cntXs x.kids (1 + ((x.name.length : Int) + x.exc.length) / 40) most d := by cases x; rw [cntX]; rfl
theorem cntXs_drop {l : List LX} {i : Nat} (h : i < l.length) (c most : Int) (d : Nat) : cntXs (l.drop i) c most d = if c ≤ most then cntXs (l.drop (i + 1)) (c + cntX l[i] (most - c) d) most d else c := by
  rw [List.drop_eq_getElem_cons h, cntXs]
theorem cnt_bd (d : Nat) : ∀ (x : LX) (most : Int), x.Bd 1099511627776 → 0 ≤ most → 0 ≤ cntX x most d ∧ cntX x most d ≤ most + 109951162777600 := by
  induction d with
  | zero => intro x most _ h; rw [cntX_zero]; omega
  | succ d ih =>
    intro x most hx h
    rw [cntX_succ]
    have h1 := hx.n
    have h2 := hx.e
    have key : ∀ (l : List LX) (c : Int), (∀ y ∈ l, y.Bd 1099511627776) → 0 ≤ c → c ≤ most + 109951162777600 → 0 ≤ cntXs l c most d ∧ cntXs l c most d ≤ most + 109951162777600 := by
      intro l
      induction l with
      | nil => intro c _ h3 h4; rw [cntXs]; exact ⟨h3, h4⟩
      | cons y l il =>
        intro c hy h3 h4
        rw [cntXs]
        split
        · have h5 := ih y (most - c) (hy y (by simp)) (by omega)
          exact il _ (fun z hz => hy z (by simp [hz])) (by omega) (by omega)
        · exact ⟨h3, h4⟩
    exact key x.kids _ (fun y hy => hx.k hy) (by omega) (by omega)
noncomputable def g_count (d : Nat) : List D → Option D := encSpec (fun x : LX × Int => [eX x.1, i64 x.2, i64 d]) (fun x => x.1.Bd 1099511627776 ∧ 0 ≤ x.2 ∧ x.2 ≤ 1099511627776) (fun x => i64 (cntX x.1 x.2 d))
theorem g_count_eq {d : Nat} {x : LX} {m : Int} (hd : x.Bd 1099511627776 ∧ 0 ≤ m ∧ m ≤ 1099511627776) : g_count d [.agg [.int .i64 x.kind, .str x.name, .str x.exc, .list (x.kids.map eX)], .int .i64 m, .int .i64 d] = some (.int .i64 (cntX x m d)) := by
  have e : g_count d [eX x, i64 m, i64 d] = some (i64 (cntX x m d)) := encSpec_eq (x := (x, m)) hd fun y hy => by
    obtain ⟨y0, y1⟩ := y
    simp only [List.cons.injEq, and_true, lx_ie, inj_ie, D.int.injEq, true_and] at hy
    obtain ⟨rfl, rfl⟩ := hy
    rfl
  exact (congrArg (g_count d) (by rw [← eX_eq x])).trans e
theorem f_count_ok : ∀ d : Nat, d ≤ 40 → PureOK Tryz.prog 65 true (g_count d) := by
  intro d
  induction d with
  | zero =>
    intro _
    have hΓ := Γ0_ok
    refine pure_enc (n := 48) (rs := [.tmp 6]) Tryz.func65 (by kernel_rfl) rfl (by kernel_rfl) (by kernel_rfl) ?_
    rintro ⟨x, m⟩ ⟨hx, h0, h1⟩
    dsimp only at hx h0 h1 ⊢
    refine ⟨fun _ => .int _ _, fun k hz0 => ?_⟩
    have hn := hx.n
    have he := hx.e
    have hz00 : (((0 : Nat) : Int) == 0) = true := rfl
    rw [cntX_zero]
    rw [start_frame (by simp)]; simp only [enumV, go_sem, emptyH]
    repeat (first
      | (apply axJ; (focus ((with_reducible constructor) <;> rfl)))
      | (apply awT mixedOK hΓ (by kernel_rfl); (simp (disch := omega) only [go_sem, ↓reduceIte, dk, Int.tdiv_eq_ediv_of_nonneg, hz00] <;> with_reducible rfl))
      | ((first | apply awR hΓ | apply awG | apply awH mixedOK hΓ rfl (by kernel_rfl) | apply ovE rfl); (simp (disch := omega) only [go_sem, ↓reduceIte, dk, Int.tdiv_eq_ediv_of_nonneg, hz00] <;> with_reducible rfl); exact trivial)
      | rfl)
  | succ d ih =>
    intro hd40
    have ih := ih (by omega)
    have hΓ := (Γp ih (Γn))
    refine pure_enc (n := 48) (rs := [.tmp 6]) Tryz.func65 (by kernel_rfl) rfl (by kernel_rfl) (by kernel_rfl) ?_
    rintro ⟨x, m⟩ ⟨hx, h0, h1⟩
    dsimp only at hx h0 h1 ⊢
    refine ⟨fun _ => .int _ _, fun k hz0 => ?_⟩
    have hn := hx.n
    have he := hx.e
    have hz := hx.z
    have hl := x.len_le
    have hds : ((d + 1 : Nat) : Int) - 1 = d := by omega
    have hd1 : (((d + 1 : Nat) : Int) == 0) = false := by rw [beq_eq_false_iff_ne]; omega
    generalize hdd : ((d + 1 : Nat) : Int) = dd at *
    rw [cntX_succ]
    rw [start_frame (by simp)]; simp only [enumV, go_sem, emptyH]
    repeat (first
      | (apply axJ; (focus ((with_reducible constructor) <;> rfl)))
      | (apply awT mixedOK hΓ (by kernel_rfl); (simp (disch := omega) only [go_sem, ↓reduceIte, dk, Int.tdiv_eq_ediv_of_nonneg, hd1] <;> with_reducible rfl))
      | ((first | apply awR hΓ | apply awG | apply awH mixedOK hΓ rfl (by kernel_rfl) | apply ovE rfl); (simp (disch := omega) only [go_sem, ↓reduceIte, dk, Int.tdiv_eq_ediv_of_nonneg, hd1] <;> with_reducible rfl); exact trivial)
      | rfl)
    refine awp_loop_at (X := Nat × Int) (fun y => (frame 48 [(1, .data (i64 m)), (2, .data (i64 dd)), (3, .ptr 0 0), (7, .data (i64 y.2)), (8, .data (i64 y.1))])) (fun _ => [(0, .box [.data (.int .i64 x.kind), .data (.str x.name), .data (.str x.exc), .data (.list (x.kids.map eX))])]) 15
      (fun y => y.1 ≤ x.kids.length ∧ 0 ≤ y.2 ∧ y.2 ≤ m + 109951162777600 ∧ cntXs x.kids (1 + ((x.name.length : Int) + x.exc.length) / 40) m d = cntXs (x.kids.drop y.1) y.2 m d) (fun y => x.kids.length - y.1) (0, 1 + ((x.name.length : Int) + x.exc.length) / 40) ⟨Nat.zero_le _, by dsimp only; omega, by dsimp only; omega, rfl⟩ (Weak.w) ?_
    rintro ⟨i, c⟩ ⟨hi, hc0, hc1, hcn⟩
    dsimp only at hi hc0 hc1 hcn ⊢
    rw [hcn]
    by_cases hi2 : i < x.kids.length
    · by_cases hcm : c ≤ m
      · have e := g_count_eq (d := d) (x := x.kids[i]) (m := m - c) ⟨hx.k (List.getElem_mem hi2), by omega, by omega⟩
        have hb := cnt_bd d x.kids[i] (m - c) (hx.k (List.getElem_mem hi2)) (by omega)
        rw [cntXs_drop hi2, if_pos hcm] at hcn
        rw [cntXs_drop hi2, if_pos hcm]
        generalize cntX x.kids[i] (m - c) d = r at *
        generalize hy : x.kids[i] = y at *
        have hds2 : dd - 1 = d := hds
        repeat (first
          | (apply axJ; (focus ((with_reducible constructor) <;> rfl)))
          | (apply awT mixedOK hΓ (by kernel_rfl); (simp (disch := omega) only [go_sem, ↓reduceIte, dk, hy, hds2, e] <;> with_reducible rfl))
          | ((first | apply awR hΓ | apply awG | apply awH mixedOK hΓ rfl (by kernel_rfl) | apply ovE rfl); (simp (disch := omega) only [go_sem, ↓reduceIte, dk, hy, hds2, e] <;> with_reducible rfl); exact trivial)
          | rfl)
        exact ⟨(i + 1, c + r), ⟨by dsimp only; omega, by dsimp only; omega, by dsimp only; omega, rfl⟩, by dsimp only; omega, Weak.w⟩
      · rw [cntXs_drop hi2, if_neg hcm]
        repeat (first
          | (apply axJ; (focus ((with_reducible constructor) <;> rfl)))
          | (apply awT mixedOK hΓ (by kernel_rfl); (simp (disch := omega) only [go_sem, ↓reduceIte, dk] <;> with_reducible rfl))
          | ((first | apply awR hΓ | apply awG | apply awH mixedOK hΓ rfl (by kernel_rfl) | apply ovE rfl); (simp (disch := omega) only [go_sem, ↓reduceIte, dk] <;> with_reducible rfl); exact trivial)
          | rfl)
    · have hi' : i = x.kids.length := by omega
      subst hi'
      rw [List.drop_eq_nil_of_le (Nat.le_refl _), cntXs]
      by_cases hcm : c ≤ m
      · repeat (first
        | (apply axJ; (focus ((with_reducible constructor) <;> rfl)))
        | (apply awT mixedOK hΓ (by kernel_rfl); (simp (disch := omega) only [go_sem, ↓reduceIte, dk] <;> with_reducible rfl))
        | ((first | apply awR hΓ | apply awG | apply awH mixedOK hΓ rfl (by kernel_rfl) | apply ovE rfl); (simp (disch := omega) only [go_sem, ↓reduceIte, dk] <;> with_reducible rfl); exact trivial)
        | rfl)
      · repeat (first
        | (apply axJ; (focus ((with_reducible constructor) <;> rfl)))
        | (apply awT mixedOK hΓ (by kernel_rfl); (simp (disch := omega) only [go_sem, ↓reduceIte, dk] <;> with_reducible rfl))
        | ((first | apply awR hΓ | apply awG | apply awH mixedOK hΓ rfl (by kernel_rfl) | apply ovE rfl); (simp (disch := omega) only [go_sem, ↓reduceIte, dk] <;> with_reducible rfl); exact trivial)
        | rfl)
def fewX (x : LX) : Bool := decide (cntX x 120 40 ≤ 120)
noncomputable def g_few : List D → Option D := encSpec (fun x : LX => [eX x]) (fun x : LX => x.Bd 1099511627776) (fun x : LX => .bool (fewX x))
theorem g_few_eq {x : LX} (hd : x.Bd 1099511627776) : g_few [.agg [.int .i64 x.kind, .str x.name, .str x.exc, .list (x.kids.map eX)]] = some (.bool (fewX x)) := by
  have e : g_few [eX x] = some (.bool (fewX x)) := encSpec_eq (x := x) hd fun y hy => by
    simp only [List.cons.injEq, and_true, true_and, D.str.injEq, D.int.injEq, D.list.injEq, D.bool.injEq, D.agg.injEq, D.clo.injEq, Int.natCast_inj, inj_ie, lx_ie] at hy
    rw [hy]
  exact (congrArg (g_few) (by rw [← eX_eq x])).trans e
theorem f_few_ok : PureOK Tryz.prog 29 true g_few := by
  have hΓ := Γp (f_count_ok 40 (Nat.le_refl _)) (Γn)
  refine pure_enc (n := 6) (rs := [.tmp 2]) Tryz.func29 (by kernel_rfl) rfl (by kernel_rfl) (by kernel_rfl) ?_
  rintro x hd
  (try dsimp only at hd ⊢)
  refine ⟨fun _ => by (repeat (first | exact .int _ _ | exact .bool _ | exact .str _ | (refine .tup _ (fun d hd => ?_); simp only [List.mem_cons, List.not_mem_nil, or_false] at hd; rcases hd with rfl | hd))), fun k hz0 => ?_⟩
  have e := g_count_eq (d := 40) (x := x) (m := 120) ⟨hd, by omega, by omega⟩
  unfold fewX
  generalize cntX x 120 40 = r at *
  have e' : g_count 40 [.agg [.int .i64 x.kind, .str x.name, .str x.exc, .list (x.kids.map eX)], .int .i64 120, .int .i64 40] = some (.int .i64 r) := e
  rw [start_frame (by simp)]; simp only [enumV, go_sem, emptyH]
  repeat (first
    | (apply axJ; (focus ((with_reducible constructor) <;> rfl)))
    | (apply awT mixedOK hΓ (by kernel_rfl); (simp (disch := omega) only [go_sem, ↓reduceIte, e'] <;> with_reducible rfl))
    | ((first | apply awR hΓ | apply awG | apply awH mixedOK hΓ rfl (by kernel_rfl) | apply ovE rfl); (simp (disch := omega) only [go_sem, ↓reduceIte, e'] <;> with_reducible rfl); exact trivial)
    | rfl)
end Go.Ab
