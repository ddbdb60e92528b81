/-
  One text of the proof (own work): contracts of functions of the program, by the abstract machine.
-/
import Derived.Shelf.Strings.SlTrimAscii
import Derived.Shelf.Strings.Count
import Derived.Shelf.Strings.Search3
import Derived.Shelf.Small.Strs
import Derived.Shelf.GgClosure.StringsIndexFuncTop
import Derived.Shelf.Strings.OnBuilder
import Derived.Shelf.Strings.FuncGrows
import Derived.Laws.RangeAny
import Derived.Test.YtapnigckcnknoaaGreatDoorX12
import Derived.Test.YtapnigckcnknoaaGreatDoorX14
import Derived.Test.YtapnigckcnknoaaGreatDoorX13
set_option linter.unusedVariables false
set_option linter.unusedSimpArgs false
namespace Go.Ab
open Go Go.RowKit Go.Proofs
set_option maxRecDepth 10000
set_option maxHeartbeats 4000000
def hasB (l : List Bs) (s : Bs) : Bool := l.any (· == s)
theorem any_next {α : Type} {p : α → Bool} {l : List α} {i : Nat} (hi : i < l.length) (hb : (l.take i).any p = false) (hp : p l[i] = false) : (l.take (i + 1)).any p = false := by
  rw [List.take_add_one, List.any_append, hb, List.getElem?_eq_getElem hi]
  simp [hp]
theorem any_yes {α : Type} {p : α → Bool} {l : List α} {i : Nat} (hi : i < l.length) (hp : p l[i] = true) : l.any p = true := by
  rw [List.any_eq_true]
  exact ⟨_, List.getElem_mem hi, hp⟩
noncomputable def g_has : List D → Option D := encSpec (fun x : (List Bs) × Bs => [.list (x.1.map .str), .str x.2]) (fun x : (List Bs) × Bs => x.1.length ≤ 1099511627776) (fun x : (List Bs) × Bs => .bool (hasB x.1 x.2))
theorem g_has_eq {l : List Bs} {s : Bs} (hd : l.length ≤ 1099511627776) : g_has [.list (l.map .str), .str s] = some (.bool (hasB l s)) := encSpec_eq (x := (l, s)) hd fun y hy => by
    obtain ⟨y0, y1⟩ := y; simp only [List.cons.injEq, and_true, true_and, D.str.injEq, D.int.injEq, D.list.injEq, D.bool.injEq, D.agg.injEq, D.clo.injEq, Int.natCast_inj, inj_ie, UInt8.toNat_inj] at hy
    (try obtain ⟨rfl, rfl⟩ := hy)
    (try subst_vars)
    rfl
theorem f_has_ok : PureOK Tryz.prog 74 true g_has := by
  have hΓ := Γ0_ok
  refine pure_enc (n := 17) (rs := [.tmp 4]) Tryz.func74 (by kernel_rfl) rfl (by kernel_rfl) (by kernel_rfl) ?_
  rintro ⟨l, s⟩ hd
  (try dsimp only at hd ⊢)
  refine ⟨fun _ => by (repeat (first | exact .int _ _ | exact .bool _ | exact .str _ | (refine .tup _ (fun d hd => ?_); simp only [List.mem_cons, List.not_mem_nil, or_false] at hd; rcases hd with rfl | hd))), fun k hz0 => ?_⟩
  rw [start_frame (by simp)]; simp only [enumV, go_sem, emptyH]
  repeat (first
    | (apply axJ; (focus ((with_reducible constructor) <;> rfl)))
    | (apply awT mixedOK hΓ (by kernel_rfl); (simp (disch := omega) only [go_sem, ↓reduceIte, dk, ↓lk] <;> with_reducible rfl))
    | ((first | apply awR hΓ | apply awG | apply awH mixedOK hΓ rfl (by kernel_rfl) | apply ovE rfl); (simp (disch := omega) only [go_sem, ↓reduceIte, dk, ↓lk] <;> with_reducible rfl); exact trivial)
    | rfl)
  refine awp_loop_at (X := Nat) (fun i => (frame 17 [(1, .data (.str s)), (7, .data (.list (l.map .str))), (8, .data (i64 l.length)), (9, .data (i64 i))])) (fun _ => []) 4
    (fun i => i ≤ l.length ∧ (l.take i).any (· == s) = false) (fun i => l.length - i) 0 ⟨Nat.zero_le _, rfl⟩ (Weak.w) ?_
  rintro i ⟨hi, hp⟩
  by_cases hi2 : i < l.length
  · have hno := fun h => any_next (p := (· == s)) hi2 hp h
    have hyes := fun h => any_yes (p := (· == s)) hi2 h
    generalize hy : l[i] = y at *
    generalize hc : (y == s) = c at *
    cases c
    · repeat (first
      | (apply axJ; (focus ((with_reducible constructor) <;> rfl)))
      | (apply awT mixedOK hΓ (by kernel_rfl); (simp (disch := omega) only [go_sem, ↓reduceIte, dk, ↓lk, hy, hc] <;> with_reducible rfl))
      | ((first | apply awR hΓ | apply awG | apply awH mixedOK hΓ rfl (by kernel_rfl) | apply ovE rfl); (simp (disch := omega) only [go_sem, ↓reduceIte, dk, ↓lk, hy, hc] <;> with_reducible rfl); exact trivial)
      | rfl)
      exact ⟨i + 1, ⟨by omega, hno rfl⟩, by omega, Weak.w⟩
    · unfold hasB
      rw [hyes rfl]
      repeat (first
        | (apply axJ; (focus ((with_reducible constructor) <;> rfl)))
        | (apply awT mixedOK hΓ (by kernel_rfl); (simp (disch := omega) only [go_sem, ↓reduceIte, dk, ↓lk, hy, hc] <;> with_reducible rfl))
        | ((first | apply awR hΓ | apply awG | apply awH mixedOK hΓ rfl (by kernel_rfl) | apply ovE rfl); (simp (disch := omega) only [go_sem, ↓reduceIte, dk, ↓lk, hy, hc] <;> with_reducible rfl); exact trivial)
        | rfl)
      try rfl
  · have hi3 : i = l.length := by omega
    subst hi3
    rw [List.take_length] at hp
    unfold hasB
    rw [hp]
    repeat (first
      | (apply axJ; (focus ((with_reducible constructor) <;> rfl)))
      | (apply awT mixedOK hΓ (by kernel_rfl); (simp (disch := omega) only [go_sem, ↓reduceIte, dk, ↓lk] <;> with_reducible rfl))
      | ((first | apply awR hΓ | apply awG | apply awH mixedOK hΓ rfl (by kernel_rfl) | apply ovE rfl); (simp (disch := omega) only [go_sem, ↓reduceIte, dk, ↓lk] <;> with_reducible rfl); exact trivial)
      | rfl)
    try rfl
def linesE (s : Bs) : List Bs × Int := if decide ((s.length : Int) > 65536) then ([], 10) else if decide (((splitB 10 s).length : Int) > 1024) then ([], 10) else (splitB 10 s, 0)
def eLs (p : List Bs × Int) : D := .tup [.list (p.1.map .str), i64 p.2]
end Go.Ab
namespace Go.Ab
open Go Go.RowKit Go.Proofs
set_option maxRecDepth 10000
set_option maxHeartbeats 4000000
def lettI (c : Int) : Bool := (decide (c ≥ 97) && decide (c ≤ 122)) || c == 95
def digI (c : Int) : Bool := decide (c ≥ 48) && decide (c ≤ 57)
noncomputable def g_letR : List D → Option D := encSpec (fun x : Int => [u8 x]) (fun x : Int => True) (fun x : Int => .bool (lettI x))
theorem g_letR_eq {c : Int} (hd : True) : g_letR [.int .u8 c] = some (.bool (lettI c)) := encSpec_eq (x := c) hd fun y hy => by
    simp only [List.cons.injEq, and_true, true_and, D.str.injEq, D.int.injEq, D.list.injEq, D.bool.injEq, D.agg.injEq, D.clo.injEq, Int.natCast_inj, inj_ie, UInt8.toNat_inj] at hy
    rw [hy]
theorem f_letR_ok : PureOK Tryz.prog 92 true g_letR := by
  have hΓ := Γ0_ok
  refine pure_enc (n := 13) (rs := [.tmp 2]) Tryz.func92 (by kernel_rfl) rfl (by kernel_rfl) (by kernel_rfl) ?_
  rintro c hd
  (try dsimp only at hd ⊢)
  refine ⟨fun _ => by (repeat (first | exact .int _ _ | exact .bool _ | exact .str _ | (refine .tup _ (fun d hd => ?_); simp only [List.mem_cons, List.not_mem_nil, or_false] at hd; rcases hd with rfl | hd))), fun k hz0 => ?_⟩
  unfold lettI
  generalize hc1 : decide (c ≥ 97) = c1
  generalize hc2 : decide (c ≤ 122) = c2
  generalize hc3 : (c == 95) = c3
  rw [start_frame (by simp)]; simp only [enumV, go_sem, emptyH]
  (first | (((repeat (first | (apply axJ; (focus ((with_reducible constructor) <;> rfl))) | (apply awT mixedOK hΓ (by kernel_rfl); (simp (disch := omega) only [go_sem, ↓reduceIte, dk, ↓lk, hc1, hc2, hc3] <;> with_reducible rfl)) | ((first | apply awR hΓ | apply awG | apply awH mixedOK hΓ rfl (by kernel_rfl) | apply ovE rfl); (simp (disch := omega) only [go_sem, ↓reduceIte, dk, ↓lk, hc1, hc2, hc3] <;> with_reducible rfl); exact trivial) | rfl)); (first | done | rfl)); done) | (cases c1 <;> (first | (((repeat (first | (apply axJ; (focus ((with_reducible constructor) <;> rfl))) | (apply awT mixedOK hΓ (by kernel_rfl); (simp (disch := omega) only [go_sem, ↓reduceIte, dk, ↓lk, hc1, hc2, hc3] <;> with_reducible rfl)) | ((first | apply awR hΓ | apply awG | apply awH mixedOK hΓ rfl (by kernel_rfl) | apply ovE rfl); (simp (disch := omega) only [go_sem, ↓reduceIte, dk, ↓lk, hc1, hc2, hc3] <;> with_reducible rfl); exact trivial) | rfl)); (first | done | rfl)); done) | (cases c2 <;> (first | (((repeat (first | (apply axJ; (focus ((with_reducible constructor) <;> rfl))) | (apply awT mixedOK hΓ (by kernel_rfl); (simp (disch := omega) only [go_sem, ↓reduceIte, dk, ↓lk, hc1, hc2, hc3] <;> with_reducible rfl)) | ((first | apply awR hΓ | apply awG | apply awH mixedOK hΓ rfl (by kernel_rfl) | apply ovE rfl); (simp (disch := omega) only [go_sem, ↓reduceIte, dk, ↓lk, hc1, hc2, hc3] <;> with_reducible rfl); exact trivial) | rfl)); (first | done | rfl)); done) | (cases c3 <;> (first | (((repeat (first | (apply axJ; (focus ((with_reducible constructor) <;> rfl))) | (apply awT mixedOK hΓ (by kernel_rfl); (simp (disch := omega) only [go_sem, ↓reduceIte, dk, ↓lk, hc1, hc2, hc3] <;> with_reducible rfl)) | ((first | apply awR hΓ | apply awG | apply awH mixedOK hΓ rfl (by kernel_rfl) | apply ovE rfl); (simp (disch := omega) only [go_sem, ↓reduceIte, dk, ↓lk, hc1, hc2, hc3] <;> with_reducible rfl); exact trivial) | rfl)); (first | done | rfl)); done))))))))
noncomputable def g_digR : List D → Option D := encSpec (fun x : Int => [u8 x]) (fun x : Int => True) (fun x : Int => .bool (digI x))
theorem g_digR_eq {c : Int} (hd : True) : g_digR [.int .u8 c] = some (.bool (digI c)) := encSpec_eq (x := c) hd fun y hy => by
    simp only [List.cons.injEq, and_true, true_and, D.str.injEq, D.int.injEq, D.list.injEq, D.bool.injEq, D.agg.injEq, D.clo.injEq, Int.natCast_inj, inj_ie, UInt8.toNat_inj] at hy
    rw [hy]
theorem f_digR_ok : PureOK Tryz.prog 93 true g_digR := by
  have hΓ := Γ0_ok
  refine pure_enc (n := 9) (rs := [.tmp 2]) Tryz.func93 (by kernel_rfl) rfl (by kernel_rfl) (by kernel_rfl) ?_
  rintro c hd
  (try dsimp only at hd ⊢)
  refine ⟨fun _ => by (repeat (first | exact .int _ _ | exact .bool _ | exact .str _ | (refine .tup _ (fun d hd => ?_); simp only [List.mem_cons, List.not_mem_nil, or_false] at hd; rcases hd with rfl | hd))), fun k hz0 => ?_⟩
  unfold digI
  generalize hc1 : decide (c ≥ 48) = c1
  generalize hc2 : decide (c ≤ 57) = c2
  rw [start_frame (by simp)]; simp only [enumV, go_sem, emptyH]
  (first | (((repeat (first | (apply axJ; (focus ((with_reducible constructor) <;> rfl))) | (apply awT mixedOK hΓ (by kernel_rfl); (simp (disch := omega) only [go_sem, ↓reduceIte, dk, ↓lk, hc1, hc2] <;> with_reducible rfl)) | ((first | apply awR hΓ | apply awG | apply awH mixedOK hΓ rfl (by kernel_rfl) | apply ovE rfl); (simp (disch := omega) only [go_sem, ↓reduceIte, dk, ↓lk, hc1, hc2] <;> with_reducible rfl); exact trivial) | rfl)); (first | done | rfl)); done) | (cases c1 <;> (first | (((repeat (first | (apply axJ; (focus ((with_reducible constructor) <;> rfl))) | (apply awT mixedOK hΓ (by kernel_rfl); (simp (disch := omega) only [go_sem, ↓reduceIte, dk, ↓lk, hc1, hc2] <;> with_reducible rfl)) | ((first | apply awR hΓ | apply awG | apply awH mixedOK hΓ rfl (by kernel_rfl) | apply ovE rfl); (simp (disch := omega) only [go_sem, ↓reduceIte, dk, ↓lk, hc1, hc2] <;> with_reducible rfl); exact trivial) | rfl)); (first | done | rfl)); done) | (cases c2 <;> (first | (((repeat (first | (apply axJ; (focus ((with_reducible constructor) <;> rfl))) | (apply awT mixedOK hΓ (by kernel_rfl); (simp (disch := omega) only [go_sem, ↓reduceIte, dk, ↓lk, hc1, hc2] <;> with_reducible rfl)) | ((first | apply awR hΓ | apply awG | apply awH mixedOK hΓ rfl (by kernel_rfl) | apply ovE rfl); (simp (disch := omega) only [go_sem, ↓reduceIte, dk, ↓lk, hc1, hc2] <;> with_reducible rfl); exact trivial) | rfl)); (first | done | rfl)); done))))))
def ldB (b : UInt8) : Bool := lettI b.toNat || digI b.toNat
def idForm (s : Bs) : Bool := match s with
  | [] => false
  | b :: r => !(decide (((b :: r).length : Int) > 32)) && (lettI b.toNat && (b :: r).all ldB)
noncomputable def g_form05 : List D → Option D := encSpec (fun x : Bs => [.str x]) (fun x : Bs => x.length ≤ 1099511627776) (fun x : Bs => .bool (idForm x))
theorem g_form05_eq {s : Bs} (hd : s.length ≤ 1099511627776) : g_form05 [.str s] = some (.bool (idForm s)) := encSpec_eq (x := s) hd fun y hy => by
    simp only [List.cons.injEq, and_true, true_and, D.str.injEq, D.int.injEq, D.list.injEq, D.bool.injEq, D.agg.injEq, D.clo.injEq, Int.natCast_inj, inj_ie, UInt8.toNat_inj] at hy
    rw [hy]
theorem f_form05_ok : PureOK Tryz.prog 76 true g_form05 := by
  have hΓ := Γp f_letR_ok (Γp f_digR_ok (Γn))
  refine pure_enc (n := 36) (rs := [.tmp 2]) Tryz.func76 (by kernel_rfl) rfl (by kernel_rfl) (by kernel_rfl) ?_
  rintro s hd
  (try dsimp only at hd ⊢)
  refine ⟨fun _ => by (repeat (first | exact .int _ _ | exact .bool _ | exact .str _ | (refine .tup _ (fun d hd => ?_); simp only [List.mem_cons, List.not_mem_nil, or_false] at hd; rcases hd with rfl | hd))), fun k hz0 => ?_⟩
  rw [start_frame (by simp)]; simp only [enumV, go_sem, emptyH]
  cases s with
  | nil =>
    repeat (first
      | (apply axJ; (focus ((with_reducible constructor) <;> rfl)))
      | (apply awT mixedOK hΓ (by kernel_rfl); (simp (disch := omega) only [go_sem, ↓reduceIte, dk, ↓lk] <;> with_reducible rfl))
      | ((first | apply awR hΓ | apply awG | apply awH mixedOK hΓ rfl (by kernel_rfl) | apply ovE rfl); (simp (disch := omega) only [go_sem, ↓reduceIte, dk, ↓lk] <;> with_reducible rfl); exact trivial)
      | rfl)
    try rfl
  | cons b r =>
    have hdef : idForm (b :: r) = (!(decide (((b :: r).length : Int) > 32)) && (lettI b.toNat && (b :: r).all ldB)) := rfl
    rw [hdef]
    have hlen : 1 ≤ (b :: r).length := by simp
    have hb0 : (b :: r)[0]? = some b := rfl
    generalize b :: r = s at *
    have e0 := g_letR_eq (c := (b.toNat : Int)) trivial
    generalize hc0 : decide ((s.length : Int) > 32) = c0
    generalize lettI b.toNat = c1 at *
    have h1 : decide ((s.length : Int) < 1) = false := decide_eq_false (by omega)
    have hb1 : ∀ h : 0 < s.length, s[0]'h = b := fun h => by rw [List.getElem?_eq_getElem h] at hb0; simpa using hb0
    cases c0
    rotate_left
    · repeat (first
      | (apply axJ; (focus ((with_reducible constructor) <;> rfl)))
      | (apply awT mixedOK hΓ (by kernel_rfl); (simp (disch := omega) only [go_sem, ↓reduceIte, dk, ↓lk, Int.reduceToNat, h1, hb1, hc0, e0] <;> with_reducible rfl))
      | ((first | apply awR hΓ | apply awG | apply awH mixedOK hΓ rfl (by kernel_rfl) | apply ovE rfl); (simp (disch := omega) only [go_sem, ↓reduceIte, dk, ↓lk, Int.reduceToNat, h1, hb1, hc0, e0] <;> with_reducible rfl); exact trivial)
      | rfl)
      try rfl
    cases c1
    · repeat (first
      | (apply axJ; (focus ((with_reducible constructor) <;> rfl)))
      | (apply awT mixedOK hΓ (by kernel_rfl); (simp (disch := omega) only [go_sem, ↓reduceIte, dk, ↓lk, Int.reduceToNat, h1, hb1, hc0, e0] <;> with_reducible rfl))
      | ((first | apply awR hΓ | apply awG | apply awH mixedOK hΓ rfl (by kernel_rfl) | apply ovE rfl); (simp (disch := omega) only [go_sem, ↓reduceIte, dk, ↓lk, Int.reduceToNat, h1, hb1, hc0, e0] <;> with_reducible rfl); exact trivial)
      | rfl)
      try rfl
    repeat (first
      | (apply axJ; (focus ((with_reducible constructor) <;> rfl)))
      | (apply awT mixedOK hΓ (by kernel_rfl); (simp (disch := omega) only [go_sem, ↓reduceIte, dk, ↓lk, Int.reduceToNat, h1, hb1, hc0, e0] <;> with_reducible rfl))
      | ((first | apply awR hΓ | apply awG | apply awH mixedOK hΓ rfl (by kernel_rfl) | apply ovE rfl); (simp (disch := omega) only [go_sem, ↓reduceIte, dk, ↓lk, Int.reduceToNat, h1, hb1, hc0, e0] <;> with_reducible rfl); exact trivial)
      | rfl)
    refine awp_loop_at (X := Nat) (fun i => (frame 36 [(0, .data (.str s)), (3, .data (i64 i))])) (fun _ => []) 20
      (fun i => i ≤ s.length ∧ (s.take i).all ldB = true) (fun i => s.length - i) 0 ⟨Nat.zero_le _, rfl⟩ (Weak.w) ?_
    rintro i ⟨hi, hpre⟩
    by_cases hi2 : i < s.length
    · have hyes := fun h => all_next (p := ldB) hi2 hpre h
      have hno := fun h => all_no (p := ldB) hi2 h
      rw [show ldB s[i] = (lettI (s[i].toNat : Int) || digI (s[i].toNat : Int)) from rfl] at hyes hno
      generalize hy : s[i] = y at hyes hno
      have e1 := g_letR_eq (c := (y.toNat : Int)) trivial
      have e2 := g_digR_eq (c := (y.toNat : Int)) trivial
      generalize lettI (y.toNat : Int) = c1 at *
      generalize digI (y.toNat : Int) = c2 at *
      (first | (((repeat (first | (apply axJ; (focus ((with_reducible constructor) <;> rfl))) | (apply awT mixedOK hΓ (by kernel_rfl); (simp (disch := omega) only [go_sem, ↓reduceIte, dk, ↓lk, hy, e1, e2] <;> with_reducible rfl)) | ((first | apply awR hΓ | apply awG | apply awH mixedOK hΓ rfl (by kernel_rfl) | apply ovE rfl); (simp (disch := omega) only [go_sem, ↓reduceIte, dk, ↓lk, hy, e1, e2] <;> with_reducible rfl); exact trivial) | rfl)); (first | exact ⟨i + 1, ⟨by omega, hyes rfl⟩, by omega, Weak.w⟩ | (have h := hno rfl; rw [h]; rfl))); done) | (cases c1 <;> (first | (((repeat (first | (apply axJ; (focus ((with_reducible constructor) <;> rfl))) | (apply awT mixedOK hΓ (by kernel_rfl); (simp (disch := omega) only [go_sem, ↓reduceIte, dk, ↓lk, hy, e1, e2] <;> with_reducible rfl)) | ((first | apply awR hΓ | apply awG | apply awH mixedOK hΓ rfl (by kernel_rfl) | apply ovE rfl); (simp (disch := omega) only [go_sem, ↓reduceIte, dk, ↓lk, hy, e1, e2] <;> with_reducible rfl); exact trivial) | rfl)); (first | exact ⟨i + 1, ⟨by omega, hyes rfl⟩, by omega, Weak.w⟩ | (have h := hno rfl; rw [h]; rfl))); done) | (cases c2 <;> (first | (((repeat (first | (apply axJ; (focus ((with_reducible constructor) <;> rfl))) | (apply awT mixedOK hΓ (by kernel_rfl); (simp (disch := omega) only [go_sem, ↓reduceIte, dk, ↓lk, hy, e1, e2] <;> with_reducible rfl)) | ((first | apply awR hΓ | apply awG | apply awH mixedOK hΓ rfl (by kernel_rfl) | apply ovE rfl); (simp (disch := omega) only [go_sem, ↓reduceIte, dk, ↓lk, hy, e1, e2] <;> with_reducible rfl); exact trivial) | rfl)); (first | exact ⟨i + 1, ⟨by omega, hyes rfl⟩, by omega, Weak.w⟩ | (have h := hno rfl; rw [h]; rfl))); done))))))
    · have hi3 : i = s.length := by omega
      subst hi3
      rw [List.take_length] at hpre
      repeat (first
        | (apply axJ; (focus ((with_reducible constructor) <;> rfl)))
        | (apply awT mixedOK hΓ (by kernel_rfl); (simp (disch := omega) only [go_sem, ↓reduceIte, dk, ↓lk] <;> with_reducible rfl))
        | ((first | apply awR hΓ | apply awG | apply awH mixedOK hΓ rfl (by kernel_rfl) | apply ovE rfl); (simp (disch := omega) only [go_sem, ↓reduceIte, dk, ↓lk] <;> with_reducible rfl); exact trivial)
        | rfl)
      rw [hpre]; rfl
end Go.Ab
namespace Go.Ab
open Go Go.RowKit
theorem Weak.packd {b : Nat} {sl sl' : List AV} {H : Heap} {fp : List Nat} {objs os : List Obj} (hobj : getAll H fp = some objs) (hnd : nodupB fp = true) (hfst : ∀ i, i < b → fp[i]? = some i) (h1 : rens H (idxOf fp) sl = sl') (h2 : objs.map (renO H (idxOf fp)) = os) : Weak b sl H sl' ⟨enumO 0 os, os.length⟩ := by
  subst h1 h2
  rw [List.length_map]
  exact Weak.pack hobj hnd hfst
end Go.Ab
namespace Go.Ab
open Go Go.RowKit Go.Proofs
set_option maxRecDepth 10000
set_option maxHeartbeats 8000000
structure Gp where
  name : Bs
  words : List Bs
def eGp (g : Gp) : D := .agg [.str g.name, .list (g.words.map .str)]
end Go.Ab
namespace Go.Ab
open Go Go.RowKit Go.Proofs
set_option maxRecDepth 10000
set_option maxHeartbeats 8000000
@[go_sem] theorem elemsOK_gp (l : List Gp) : elemsOK 2 (l.map eGp) = true := elemsOK_map (f := eGp) (fun _ => ⟨by rfl, by rfl⟩) l
@[go_sem] theorem eGp_eq (g : Gp) : eGp g = .agg [.str g.name, .list (g.words.map .str)] := rfl
end Go.Ab
namespace Go.Ab
open Go Go.RowKit Go.Proofs
set_option maxRecDepth 10000
set_option maxHeartbeats 8000000
structure Stp where
  line : Int
  kind : Int
  inn : List Bs
  usg : List Bs
  wds : List Bs
  out : Bs
def eSt (x : Stp) : D := .agg [i64 x.line, i64 x.kind, .list (x.inn.map .str), .list (x.usg.map .str), .list (x.wds.map .str), .str x.out]
@[go_sem] theorem eSt_eq (x : Stp) : eSt x = .agg [.int .i64 x.line, .int .i64 x.kind, .list (x.inn.map .str), .list (x.usg.map .str), .list (x.wds.map .str), .str x.out] := rfl
@[go_sem] theorem elemsOK_st (l : List Stp) : elemsOK 6 (l.map eSt) = true := elemsOK_map (f := eSt) (fun _ => ⟨by rfl, by rfl⟩) l
structure StOK (x : Stp) : Prop where
  i : x.inn.length ≤ 1099511627776 ∧ ∀ w ∈ x.inn, w.length ≤ 1099511627776
  u : x.usg.length ≤ 1099511627776 ∧ ∀ w ∈ x.usg, w.length ≤ 1099511627776
  w : x.wds.length ≤ 1099511627776 ∧ ∀ w ∈ x.wds, w.length ≤ 1099511627776
  o : x.out.length ≤ 1099511627776
end Go.Ab
namespace Go.Ab
open Go Go.RowKit Go.Proofs
set_option maxRecDepth 10000
set_option maxHeartbeats 16000000
end Go.Ab
namespace Go.Ab
open Go Go.RowKit Go.Proofs
set_option maxRecDepth 10000
set_option maxHeartbeats 16000000
end Go.Ab
namespace Go.Ab
open Go Go.RowKit Go.Proofs
set_option maxRecDepth 10000
set_option maxHeartbeats 8000000
def WL (l : List Bs) : Prop := l.length ≤ 1099511627776 ∧ ∀ w ∈ l, w.length ≤ 1099511627776
end Go.Ab
namespace Go.Ab
open Go Go.RowKit Go.Proofs
set_option maxRecDepth 10000
set_option maxHeartbeats 8000000
theorem lines_bd (s : Bs) : (linesE s).1.length ≤ 1024 ∧ ∀ w ∈ (linesE s).1, w.length ≤ s.length := by
  unfold linesE
  split
  · exact ⟨by simp, fun w hw => by simp at hw⟩
  · split
    · exact ⟨by simp, fun w hw => by simp at hw⟩
    · rename_i h
      exact ⟨by show (splitB 10 s).length ≤ 1024; simp only [decide_eq_true_eq] at h; omega, splitB_mem_len 10 s⟩
end Go.Ab
namespace Go.Ab
open Go Go.RowKit Go.Proofs
set_option maxRecDepth 10000
set_option maxHeartbeats 16000000
def listS : List Bs → Bs
  | [] => []
  | w :: r => [32] ++ w ++ listS r
theorem listS_len : ∀ l : List Bs, l.length ≤ (listS l).length
  | [] => Nat.le_refl _
  | w :: r => by
    have := listS_len r
    rw [listS]
    simp only [List.length_append, List.length_cons, List.length_nil]
    omega
structure TX (x : Stp) : Prop where
  i : (listS x.inn).length ≤ 1000000000
  u : (listS x.usg).length ≤ 1000000000
  w : (listS x.wds).length ≤ 1000000000
  o : x.out.length ≤ 1000000000
end Go.Ab
namespace Go.Ab
open Go Go.RowKit Go.Proofs
set_option maxRecDepth 10000
set_option maxHeartbeats 8000000
end Go.Ab
namespace Go.Ab
open Go Go.RowKit Go.Proofs
set_option maxRecDepth 10000
set_option maxHeartbeats 8000000
structure PX (x : Stp) : Prop where
  i : (listS x.inn).length ≤ 100000
  u : (listS x.usg).length ≤ 100000
  w : (listS x.wds).length ≤ 100000
  o : x.out.length ≤ 100000
theorem listS_mem : ∀ {l : List Bs} {w : Bs}, w ∈ l → w.length ≤ (listS l).length
  | v :: r, w, h => by
    rw [listS]
    simp only [List.length_append]
    rcases List.mem_cons.1 h with rfl | h
    · omega
    · have := listS_mem h; omega
theorem PX.tx {x : Stp} (h : PX x) : TX x := ⟨Nat.le_trans h.i (by decide), Nat.le_trans h.u (by decide), Nat.le_trans h.w (by decide), Nat.le_trans h.o (by decide)⟩
theorem wl_of {l : List Bs} {n : Nat} (h : (listS l).length ≤ n) (hn : n ≤ 1099511627776) : WL l := ⟨Nat.le_trans (Nat.le_trans (listS_len l) h) hn, fun w hw => Nat.le_trans (Nat.le_trans (listS_mem hw) h) hn⟩
theorem PX.ok {x : Stp} (h : PX x) : StOK x := ⟨wl_of h.i (by decide), wl_of h.u (by decide), wl_of h.w (by decide), Nat.le_trans h.o (by decide)⟩
end Go.Ab
namespace Go.Ab
open Go Go.RowKit Go.Proofs
set_option maxRecDepth 10000
set_option maxHeartbeats 8000000
end Go.Ab
namespace Go.Ab
open Go Go.RowKit Go.Proofs
set_option maxRecDepth 10000
set_option maxHeartbeats 8000000
end Go.Ab
namespace Go.Ab
open Go Go.RowKit Go.Proofs
set_option maxRecDepth 10000
set_option maxHeartbeats 8000000
end Go.Ab
namespace Go.Ab
open Go Go.RowKit Go.Proofs
set_option maxRecDepth 10000
set_option maxHeartbeats 16000000
structure Pt where
  sep : Bs
  least : Int
  many : Bool
def ePt (p : Pt) : D := .agg [.str p.sep, i64 p.least, .bool p.many]
@[go_sem] theorem ePt_eq (p : Pt) : ePt p = .agg [.str p.sep, .int .i64 p.least, .bool p.many] := rfl
@[go_sem] theorem elemsOK_pt (l : List Pt) : elemsOK 3 (l.map ePt) = true := elemsOK_map (f := ePt) (fun _ => ⟨by rfl, by rfl⟩) l
end Go.Ab
namespace Go.Ab
open Go Go.RowKit Go.Proofs
set_option maxRecDepth 10000
set_option maxHeartbeats 8000000
def eRow (l : List Pt) : D := .list (l.map ePt)
@[go_sem] theorem eRow_eq (l : List Pt) : eRow l = .list (l.map ePt) := rfl
@[go_sem] theorem elemsOK_row (l : List (List Pt)) : elemsOK 1 (l.map eRow) = true := elemsOK_map (f := eRow) (fun _ => ⟨by rfl, by rfl⟩) l
end Go.Ab
namespace Go.Ab
open Go Go.RowKit Go.Proofs
set_option maxRecDepth 10000
set_option maxHeartbeats 8000000
end Go.Ab
namespace Go.Ab
open Go Go.RowKit
def D.val : D → Value
  | .int k n => .int k n
  | .bool b => .bool b
  | .str s => .string ⟨s.toArray⟩
  | _ => undef
def D.scalar : D → Bool
  | .int _ _ => true
  | .bool _ => true
  | .str _ => true
  | _ => false
theorem scalar_val {w : World} {B : Nat → Prop} {d : D} {v : Value} (hs : d.scalar = true) (h : DR w B d v) : v = d.val := by
  cases h <;> first | rfl | cases hs
theorem scalar_reads {w : World} {B : Nat → Prop} {d : D} (hs : d.scalar = true) : DR w B d d.val := by
  cases d <;> first | exact .int _ _ | exact .bool _ | exact .str _ | cases hs
theorem scalar_flat {d : D} (hs : d.scalar = true) : d.Flat := by
  cases d <;> first | exact .int _ _ | exact .bool _ | exact .str _ | cases hs
theorem pure_calls {P : Program} {f : FuncId} {fn : Func} {X : Type} {enc : X → List D} {dom : X → Prop} {out : X → D} {fl : Bool} (hf : P.funcs[f]? = some fn) (hname : (fn.name == "runtime.NumGoroutine") = false) (hb : fn.body.isNone = false)
    (hsc : ∀ x, (enc x).all D.scalar = true ∧ (out x).scalar = true) (h : ∀ x, dom x → ∀ w : World, Calls P f ((enc x).map D.val).toArray w fun e w' => e = .returned (out x).val ∧ Below w.heap.size w w') : PureOK P f fl (encSpec enc dom out) := by
  intro ds d hd
  obtain ⟨x, rfl, hx, rfl⟩ := encSpec_some hd
  obtain ⟨h1, h2⟩ := hsc x
  refine ⟨fun _ => scalar_flat h2, fun w B vs hB hz hvs => ⟨⟨fn, hf, hname, hb⟩, ?_⟩⟩
  have hvs2 : vs = ((enc x).map D.val).toArray := by
    apply Array.ext_getElem?
    intro i
    by_cases hi : i < (enc x).length
    · have hi2 : i < vs.size := by omega
      have h3 := hvs i hi vs[i] (Array.getElem?_eq_getElem hi2)
      rw [Array.getElem?_eq_getElem hi2, scalar_val (List.all_eq_true.1 h1 _ (List.getElem_mem hi)) h3]
      simp [hi]
    · rw [Array.getElem?_eq_none (by omega), Array.getElem?_eq_none (by simp; omega)]
  rw [hvs2]
  refine (h x hx w).mono ?_
  rintro e w' ⟨rfl, hbl⟩
  exact ⟨_, rfl, scalar_reads h2, hbl⟩
end Go.Ab
namespace Go.Ab
open Go Go.RowKit Go.Proofs Go.Shelf
set_option maxRecDepth 100000
set_option maxHeartbeats 4000000
def shRen : Ren := ⟨fun | 137 => 109 | 138 => 55 | 143 => 85 | 195 => 83 | 217 => 123 | 218 => 84 | 219 => 105 | 224 => 125 | 225 => 124 | 266 => 136 | 267 => 126 | 314 => 137 | n => n, fun | 46 => 153 | 51 => 123 | 146 => 183 | n => n, fun | 1 => 0 | n => n⟩
theorem lay137 : Lays.n137 Tryz.prog shRen := {
  mixed := by kernel_rfl
  f137 := by kernel_rfl
  f217 := by kernel_rfl
  f266 := by kernel_rfl
  t3 := by kernel_rfl
  a3 := by intro w; kernel_rfl
  z3 := by intro w; kernel_rfl
  v3 := by intro w; kernel_rfl
  t5 := by kernel_rfl
  a5 := by intro w; kernel_rfl
  z5 := by intro w; kernel_rfl
  v5 := by intro w; kernel_rfl
  t9 := by kernel_rfl
  a9 := by intro w; kernel_rfl
  z9 := by intro w; kernel_rfl
  v9 := by intro w; kernel_rfl }
theorem lay138 : Lays.n138 Tryz.prog shRen := {
  mixed := by kernel_rfl
  f138 := by kernel_rfl
  f143 := by kernel_rfl
  f195 := by kernel_rfl
  f217 := by kernel_rfl
  f218 := by kernel_rfl
  f219 := by kernel_rfl
  f224 := by kernel_rfl
  f225 := by kernel_rfl
  f266 := by kernel_rfl
  f267 := by kernel_rfl
  f314 := by kernel_rfl
  t0 := by kernel_rfl
  a0 := by intro w; kernel_rfl
  z0 := by intro w; kernel_rfl
  v0 := by intro w; kernel_rfl
  t3 := by kernel_rfl
  a3 := by intro w; kernel_rfl
  z3 := by intro w; kernel_rfl
  v3 := by intro w; kernel_rfl
  t4 := by kernel_rfl
  a4 := by intro w; kernel_rfl
  z4 := by intro w; kernel_rfl
  v4 := by intro w; kernel_rfl
  t5 := by kernel_rfl
  a5 := by intro w; kernel_rfl
  z5 := by intro w; kernel_rfl
  v5 := by intro w; kernel_rfl
  t9 := by kernel_rfl
  a9 := by intro w; kernel_rfl
  z9 := by intro w; kernel_rfl
  v9 := by intro w; kernel_rfl
  t46 := by kernel_rfl
  a46 := by intro w; kernel_rfl
  z46 := by intro w; kernel_rfl
  v46 := by intro w; kernel_rfl
  t51 := by kernel_rfl
  a51 := by intro w; kernel_rfl
  z51 := by intro w; kernel_rfl
  v51 := by intro w; kernel_rfl
  t146 := by kernel_rfl
  a146 := by intro w; kernel_rfl
  z146 := by intro w; kernel_rfl
  v146 := by intro w; kernel_rfl
  g1 := by kernel_rfl }
theorem lay143 : Lays.n143 Tryz.prog shRen := {
  mixed := by kernel_rfl
  f143 := by kernel_rfl
  f217 := by kernel_rfl
  f219 := by kernel_rfl
  f224 := by kernel_rfl
  f225 := by kernel_rfl
  f266 := by kernel_rfl
  f267 := by kernel_rfl
  f314 := by kernel_rfl
  t3 := by kernel_rfl
  a3 := by intro w; kernel_rfl
  z3 := by intro w; kernel_rfl
  v3 := by intro w; kernel_rfl
  t4 := by kernel_rfl
  a4 := by intro w; kernel_rfl
  z4 := by intro w; kernel_rfl
  v4 := by intro w; kernel_rfl
  t5 := by kernel_rfl
  a5 := by intro w; kernel_rfl
  z5 := by intro w; kernel_rfl
  v5 := by intro w; kernel_rfl
  t9 := by kernel_rfl
  a9 := by intro w; kernel_rfl
  z9 := by intro w; kernel_rfl
  v9 := by intro w; kernel_rfl
  t46 := by kernel_rfl
  a46 := by intro w; kernel_rfl
  z46 := by intro w; kernel_rfl
  v46 := by intro w; kernel_rfl
  t51 := by kernel_rfl
  a51 := by intro w; kernel_rfl
  z51 := by intro w; kernel_rfl
  v51 := by intro w; kernel_rfl
  t146 := by kernel_rfl
  a146 := by intro w; kernel_rfl
  z146 := by intro w; kernel_rfl
  v146 := by intro w; kernel_rfl
  g1 := by kernel_rfl }
def shRenG : Ren := ⟨fun | 15 => 107 | 20 => 128 | n => n, fun | 23 => 134 | n => n, fun | n => n⟩
theorem layG15 : LaysGw.n15 Tryz.prog shRenG := {
  mixed := by kernel_rfl
  f15 := by kernel_rfl
  f20 := by kernel_rfl
  t0 := by kernel_rfl
  a0 := by intro w; kernel_rfl
  z0 := by intro w; kernel_rfl
  v0 := by intro w; kernel_rfl
  i0 := by kernel_rfl
  t3 := by kernel_rfl
  a3 := by intro w; kernel_rfl
  z3 := by intro w; kernel_rfl
  v3 := by intro w; kernel_rfl
  i3 := by kernel_rfl
  t4 := by kernel_rfl
  a4 := by intro w; kernel_rfl
  z4 := by intro w; kernel_rfl
  v4 := by intro w; kernel_rfl
  i4 := by kernel_rfl
  t9 := by kernel_rfl
  a9 := by intro w; kernel_rfl
  z9 := by intro w; kernel_rfl
  v9 := by intro w; kernel_rfl
  i9 := by kernel_rfl
  t21 := by kernel_rfl
  a21 := by intro w; kernel_rfl
  z21 := by intro w; kernel_rfl
  v21 := by intro w; kernel_rfl
  i21 := by kernel_rfl
  t23 := by kernel_rfl
  a23 := by intro w; kernel_rfl
  z23 := by intro w; kernel_rfl
  v23 := by intro w; kernel_rfl
  i23 := by kernel_rfl }
end Go.Ab
namespace Go.Ab
open Go Go.RowKit Go.Proofs Go.Shelf
set_option maxRecDepth 100000
set_option maxHeartbeats 4000000
def shRenJ : Ren := ⟨fun | 156 => 60 | 165 => 94 | 166 => 95 | 169 => 96 | 240 => 110 | 241 => 111 | 276 => 129 | 277 => 130 | n => n, fun | 31 => 24 | 37 => 139 | 70 => 138 | 72 => 141 | 75 => 144 | 76 => 145 | 80 => 147 | 127 => 159 | 164 => 174 | n => n, fun | n => n⟩
theorem lay156 : Lays.n156 Tryz.prog shRenJ := {
  mixed := by kernel_rfl
  f156 := by kernel_rfl
  f165 := by kernel_rfl
  f166 := by kernel_rfl
  f169 := by kernel_rfl
  f240 := by kernel_rfl
  f241 := by kernel_rfl
  f276 := by kernel_rfl
  f277 := by kernel_rfl
  t0 := by kernel_rfl
  a0 := by intro w; kernel_rfl
  z0 := by intro w; kernel_rfl
  v0 := by intro w; kernel_rfl
  t3 := by kernel_rfl
  a3 := by intro w; kernel_rfl
  z3 := by intro w; kernel_rfl
  v3 := by intro w; kernel_rfl
  t4 := by kernel_rfl
  a4 := by intro w; kernel_rfl
  z4 := by intro w; kernel_rfl
  v4 := by intro w; kernel_rfl
  t9 := by kernel_rfl
  a9 := by intro w; kernel_rfl
  z9 := by intro w; kernel_rfl
  v9 := by intro w; kernel_rfl
  t20 := by kernel_rfl
  a20 := by intro w; kernel_rfl
  z20 := by intro w; kernel_rfl
  v20 := by intro w; kernel_rfl
  t31 := by kernel_rfl
  a31 := by intro w; kernel_rfl
  z31 := by intro w; kernel_rfl
  v31 := by intro w; kernel_rfl
  t37 := by kernel_rfl
  a37 := by intro w; kernel_rfl
  z37 := by intro w; kernel_rfl
  v37 := by intro w; kernel_rfl
  t70 := by kernel_rfl
  a70 := by intro w; kernel_rfl
  z70 := by intro w; kernel_rfl
  v70 := by intro w; kernel_rfl
  t72 := by kernel_rfl
  a72 := by intro w; kernel_rfl
  z72 := by intro w; kernel_rfl
  v72 := by intro w; kernel_rfl
  t75 := by kernel_rfl
  a75 := by intro w; kernel_rfl
  z75 := by intro w; kernel_rfl
  v75 := by intro w; kernel_rfl
  t76 := by kernel_rfl
  a76 := by intro w; kernel_rfl
  z76 := by intro w; kernel_rfl
  v76 := by intro w; kernel_rfl
  t127 := by kernel_rfl
  a127 := by intro w; kernel_rfl
  z127 := by intro w; kernel_rfl
  v127 := by intro w; kernel_rfl
  t164 := by kernel_rfl
  a164 := by intro w; kernel_rfl
  z164 := by intro w; kernel_rfl
  v164 := by intro w; kernel_rfl }
theorem extraJ : Builder.Extra Tryz.prog shRenJ := {
  t5 := by kernel_rfl
  a5 := by intro w; kernel_rfl
  z5 := by intro w; kernel_rfl
  v5 := by intro w; kernel_rfl
  infoByte := by kernel_rfl
  cellsByte := by kernel_rfl
  sizeByte := by kernel_rfl
  neB5 := by decide
  sizeBuilder := by kernel_rfl
  liesBuilder := by kernel_rfl }
noncomputable def g_join : List D → Option D := encSpec (fun x : List (List UInt8) × List UInt8 => [.list (x.1.map .str), .str x.2]) (fun x => x.1.length ≤ 1099511627776 ∧ (Lib.join x.1 x.2).length ≤ 1099511627776) (fun x => .str (Lib.join x.1 x.2))
theorem g_join_eq {l : List (List UInt8)} {s : List UInt8} (h : l.length ≤ 1099511627776 ∧ (Lib.join l s).length ≤ 1099511627776) : g_join [.list (l.map .str), .str s] = some (.str (Lib.join l s)) := encSpec_eq (x := (l, s)) h fun y hy => by
  obtain ⟨y0, y1⟩ := y
  simp only [List.cons.injEq, and_true, D.str.injEq, D.list.injEq] at hy
  obtain ⟨h1, rfl⟩ := hy
  rw [(strs_ie y0 l).mp h1]
theorem flat_strs (l : List (List UInt8)) : Ab.flat (l.map D.str) = l.map D.str := by
  induction l with
  | nil => rfl
  | cons x l ih =>
    rw [Ab.flat] at ih
    rw [List.map_cons, Ab.flat, List.flatMap_cons, ih]
    rfl
theorem join_calls {W : World} {B : Nat → Prop} {l : List (List UInt8)} {s : List UInt8} {v : Value} (hB : ∀ b, B b → b < W.heap.size) (h : DR W B (.list (l.map .str)) v) (hx1 : l.length ≤ 1099511627776) (hx2 : (Lib.join l s).length ≤ 1099511627776) :
    Calls Tryz.prog 60 #[v, .string ⟨s.toArray⟩] W fun e W' => e = .returned (.string ⟨(Lib.join l s).toArray⟩) ∧ Below W.heap.size W W' := by
  obtain ⟨ao, cap, e0, hl⟩ := h.list_inv
  rw [e0, List.length_map]
  have hmap : ∀ xs : List (List UInt8), (xs.map (fun x => (⟨x.toArray⟩ : ByteArray))).map (·.data.toList) = xs := fun xs => by
    rw [List.map_map]
    exact (List.map_congr_left (fun _ _ => rfl)).trans (List.map_id _)
  by_cases hn : l = []
  · subst hn
    exact (Any.strings_Join_none lay156 extraJ ao cap ⟨s.toArray⟩ W).mono fun e w' h => ⟨h.1, h.2 ▸ Below.refl _ _⟩
  rcases hl with hl | ⟨a, sz, u, rfl, hb, hc, hs, ho, hm, hh⟩
  · exact absurd (List.map_eq_nil_iff.1 hl) hn
  rw [flat_strs] at hm hh
  have hcell : ∀ (j : Nat) (hj : j < l.length), W.cell? (a.add j) = some (.string ⟨(l[j]).toArray⟩) := fun j hj => by
    have k := hh j (by simpa using hj)
    rw [List.getElem_map] at k
    rw [hm j (by simpa using hj), k.str_eq]
  have hsp : a.spot = none := by
    have h := hcell 0 (List.length_pos_iff.2 hn)
    rw [show a.add 0 = a from rfl] at h
    unfold World.cell? at h
    split at h
    · split at h
      · cases h
      · rename_i hq; simpa using hq
    · cases h
  obtain ⟨bk, o, sp⟩ := a
  dsimp only at hsp hb
  subst hsp
  have hj := Any.strings_Join lay156 extraJ bk o cap (l.map (fun x => (⟨x.toArray⟩ : ByteArray))) ⟨s.toArray⟩ W (fun j x hj => by
    simp only [List.getElem?_map, Option.map_eq_some_iff] at hj
    obtain ⟨y, hy, rfl⟩ := hj
    obtain ⟨hj, rfl⟩ := List.getElem?_eq_some_iff.1 hy
    have h := hcell j hj
    cases j with
    | zero => exact h
    | succ j => exact h) (hB _ hb) (by simp only [List.length_map]; omega) (by simpa using hc) (by rw [hmap]; show (Lib.join l s).length ≤ _; omega)
  rw [hmap, List.length_map] at hj
  exact hj
theorem f_join_ok : PureOK Tryz.prog 60 true g_join := by
  intro ds d hd
  obtain ⟨⟨l, s⟩, rfl, ⟨hx1, hx2⟩, rfl⟩ := encSpec_some hd
  refine ⟨fun _ => .str _, fun w B vs hB hz hvs => ⟨⟨Tryz.f60, Tryz.func60, by kernel_rfl, by kernel_rfl⟩, ?_⟩⟩
  have hz2 : vs.size = 2 := hz
  have h0 : 0 < vs.size := by omega
  have h1 : 1 < vs.size := by omega
  have hv0 := hvs 0 (by simp) (vs[0]'h0) (Array.getElem?_eq_getElem h0)
  have hv1 := hvs 1 (by simp) (vs[1]'h1) (Array.getElem?_eq_getElem h1)
  have e : vs = #[vs[0]'h0, vs[1]'h1] := Array.ext hz2 fun i i1 i2 => by
    match i, i2 with
    | 0, _ => rfl
    | 1, _ => rfl
  have e1 : vs[1]'h1 = .string ⟨s.toArray⟩ := DR.str_eq hv1
  rw [e, e1]
  refine (join_calls hB hv0 hx1 hx2).mono fun e w' h => ⟨_, h.1, .str _, h.2⟩
end Go.Ab
namespace Go.Ab
open Go Go.RowKit Go.Proofs Go.Shelf
set_option maxRecDepth 100000
set_option maxHeartbeats 4000000
noncomputable def g_idx1 : List D → Option D := encSpec (fun x : List UInt8 × UInt8 => [.str x.1, .str [x.2]]) (fun x => x.1.length ≤ 1099511627776) (fun x => i64 (Lib.indexByte x.1 x.2))
theorem f_idx1_ok : PureOK Tryz.prog 85 true g_idx1 := pure_calls Tryz.func85 (by kernel_rfl) (by kernel_rfl) (fun _ => ⟨rfl, rfl⟩) fun x hs w =>
  (Any.strings_Index_one lay143 ⟨x.1.toArray⟩ x.2 w).mono fun e w' h => ⟨by rw [h.1]; simp [D.val], h.2 ▸ Below.refl _ _⟩
theorem g_idx1_eq {s : List UInt8} {b : UInt8} (h : s.length ≤ 1099511627776) : g_idx1 [.str s, .str [b]] = some (.int .i64 (Lib.indexByte s b)) := encSpec_eq (x := (s, b)) h fun y hy => by
  obtain ⟨y0, y1⟩ := y
  simp only [List.cons.injEq, and_true, D.str.injEq] at hy
  obtain ⟨rfl, rfl⟩ := hy
  rfl
noncomputable def g_cnt1 : List D → Option D := encSpec (fun x : List UInt8 × UInt8 => [.str x.1, .str [x.2]]) (fun x => x.1.length ≤ 1099511627776) (fun x => i64 (Lib.countByte x.1 x.2))
theorem f_cnt1_ok : PureOK Tryz.prog 55 true g_cnt1 := pure_calls Tryz.func55 (by kernel_rfl) (by kernel_rfl) (fun _ => ⟨rfl, rfl⟩) fun x hs w =>
  (Any.strings_Count_one lay138 ⟨x.1.toArray⟩ x.2 w).mono fun e w' h => ⟨by rw [h.1]; simp [D.val], h.2 ▸ Below.refl _ _⟩
theorem g_cnt1_eq {s : List UInt8} {b : UInt8} (h : s.length ≤ 1099511627776) : g_cnt1 [.str s, .str [b]] = some (.int .i64 (Lib.countByte s b)) := encSpec_eq (x := (s, b)) h fun y hy => by
  obtain ⟨y0, y1⟩ := y
  simp only [List.cons.injEq, and_true, D.str.injEq] at hy
  obtain ⟨rfl, rfl⟩ := hy
  rfl
end Go.Ab
namespace Go.Ab
open Go Go.RowKit Go.Proofs
set_option maxRecDepth 10000
set_option maxHeartbeats 8000000
theorem idx_split (c : UInt8) : ∀ s : Bs, (Lib.indexByte s c = -1 ∧ splitB c s = [s]) ∨ ∃ k : Nat, Lib.indexByte s c = (k : Int) ∧ k < s.length ∧ splitB c s = s.take k :: splitB c (s.drop (k + 1))
  | [] => .inl ⟨rfl, rfl⟩
  | b :: l => by
    rw [Lib.indexByte, splitB]
    by_cases hb : (b == c) = true
    · rw [if_pos hb, if_pos hb]
      exact .inr ⟨0, rfl, by simp, rfl⟩
    · rw [if_neg hb, if_neg hb]
      rcases idx_split c l with ⟨h1, h2⟩ | ⟨k, h1, h2, h3⟩
      · rw [h1, h2]
        exact .inl ⟨rfl, rfl⟩
      · rw [h1, h3]
        have hk : ((k : Int) == -1) = false := by rw [beq_eq_false_iff_ne]; omega
        rw [hk]
        exact .inr ⟨k + 1, rfl, by simp; omega, rfl⟩
theorem split_count (c : UInt8) : ∀ s : Bs, (splitB c s).length = s.count c + 1
  | [] => rfl
  | b :: l => by
    have ih := split_count c l
    rw [splitB, List.count_cons]
    split
    · rw [List.length_cons, ih]
    · rw [cons1_len (splitB_ne c l), ih]
noncomputable def g_genSplit : List D → Option D := encSpec (fun x : Bs × UInt8 => [.str x.1, .str [x.2], i64 0, i64 (-1)]) (fun x : Bs × UInt8 => x.1.length ≤ 1099511627776) (fun x : Bs × UInt8 => .list ((splitB x.2 x.1).map .str))
theorem g_genSplit_eq {s : Bs} {c : UInt8} (hd : s.length ≤ 1099511627776) : g_genSplit [.str s, .str [c], .int .i64 0, .int .i64 (-1)] = some (.list ((splitB c s).map .str)) := encSpec_eq (x := (s, c)) hd fun y hy => by
    obtain ⟨y0, y1⟩ := y; simp only [List.cons.injEq, and_true, true_and, D.str.injEq, D.int.injEq, D.list.injEq, D.bool.injEq, D.agg.injEq, D.clo.injEq, Int.natCast_inj, inj_ie] at hy
    (try obtain ⟨rfl, rfl⟩ := hy)
    (try subst_vars)
    rfl
theorem f_genSplit_ok : PureOK Tryz.prog 86 false g_genSplit := by
  have hΓ := Γp f_idx1_ok (Γp f_cnt1_ok (Γn))
  refine pure_enc (n := 66) (rs := [.tmp 8]) Tryz.func86 (by kernel_rfl) rfl (by kernel_rfl) (by kernel_rfl) ?_
  rintro ⟨s, c⟩ hd
  (try dsimp only at hd ⊢)
  refine ⟨fun h => (by cases h), fun k hz0 => ?_⟩
  have e1 := g_cnt1_eq (s := s) (b := c) hd
  have hcn := split_count c s
  have hcl : s.count c ≤ s.length := List.count_le_length
  rw [show Lib.countByte s c = s.count c from rfl] at e1
  generalize s.count c = n at *
  have hmin : min ((n : Int) + 1) ((s.length : Int) + 1) = (n : Int) + 1 := by omega
  have hne : ([c] == ([] : Bs)) = false := rfl
  have hn1 : ((n : Int) + 1).toNat = n + 1 := by omega
  have hn2 : (n : Int) + 1 - 1 = n := by omega
  rw [start_frame (by simp)]; simp only [enumV, go_sem, emptyH]
  repeat (first
    | (apply axJ; (focus ((with_reducible constructor) <;> rfl)))
    | (apply awT mixedOK hΓ (by kernel_rfl); (simp (disch := omega) only [go_sem, ↓reduceIte, dk, ↓lk, Int.reduceBEq, Int.reduceBNe, Bool.true_bne, Bool.false_bne, Bool.not_true, Bool.not_false, e1, hmin, hne, hn1, hn2] <;> with_reducible rfl))
    | ((first | apply awR hΓ | apply awG | apply awH mixedOK hΓ rfl (by kernel_rfl) | apply ovE rfl); (simp (disch := omega) only [go_sem, ↓reduceIte, dk, ↓lk, Int.reduceBEq, Int.reduceBNe, Bool.true_bne, Bool.false_bne, Bool.not_true, Bool.not_false, e1, hmin, hne, hn1, hn2] <;> with_reducible rfl); exact trivial)
    | rfl)
  refine awp_loop_at (X := Nat × Bs) (fun y => (frame 66 [(0, .data (.str y.2)), (1, .data (.str [c])), (2, .data (i64 0)), (3, .data (i64 n)), (9, .row 19 (n + 1)), (10, .data (i64 y.1))])) (fun y => [(19, .row 9 1 (((splitB c s).take y.1 ++ List.replicate (n + 1 - y.1) []).map .str))]) 25
    (fun y => y.1 ≤ n ∧ splitB c s = (splitB c s).take y.1 ++ splitB c y.2 ∧ y.2.length ≤ s.length) (fun y => n + 1 - y.1) (0, s)
    ⟨Nat.zero_le _, rfl, Nat.le_refl _⟩ (Weak.v (by (simp [ConvF, lookV, Conv, ints, List.map_replicate, List.take_zero, List.nil_append, Nat.sub_zero]; done)) (by (simp (disch := omega) only [TabSub, look, if_pos, if_neg, Obj.refsOK, refsOKs, AV.refsOK, decide_eq_true_eq, Bool.and_true, Bool.and_self, List.map_replicate, List.take_zero, List.nil_append, Nat.sub_zero] ) <;> ((repeat' apply And.intro) <;> first | exact True.intro | omega | (simp; done) | rfl))) ?_
  rintro ⟨i, r⟩ ⟨h1, h2, h3⟩
  dsimp only at h1 h2 h3 ⊢
  have e2 := g_idx1_eq (s := r) (b := c) (Nat.le_trans h3 hd)
  have hlt : ((splitB c s).take i).length = i := by rw [List.length_take]; omega
  have hsl := congrArg List.length h2
  rw [List.length_append, hlt, hcn, split_count] at hsl
  have hnext : ∀ w : Bs, i ≤ n → ((splitB c s).take i ++ List.replicate (n + 1 - i) ([] : Bs)).set i w = (splitB c s).take i ++ w :: List.replicate (n - i) [] := fun w hi => by
    rw [List.set_append_right _ _ (by omega), hlt, Nat.sub_self, show n + 1 - i = (n - i) + 1 by omega, List.replicate_succ, List.set_cons_zero]
  have hset : ∀ w : Bs, (((splitB c s).take i ++ List.replicate (n + 1 - i) ([] : Bs)).map D.str).set i (D.str w) = ((splitB c s).take i ++ w :: List.replicate (n - i) []).map D.str := fun w => by
    rw [← hnext w h1, List.map_set]
  have hll : ((splitB c s).take i ++ List.replicate (n + 1 - i) ([] : Bs)).length = n + 1 := by rw [List.length_append, hlt, List.length_replicate]; omega
  have hnl : ∀ w : Bs, ((splitB c s).take i ++ w :: List.replicate (n - i) ([] : Bs)).length = n + 1 := fun w => by rw [List.length_append, hlt, List.length_cons, List.length_replicate]; omega
  generalize hM : (splitB c s).take i ++ List.replicate (n + 1 - i) ([] : Bs) = M at *
  have hend : splitB c r = [r] → splitB c s = (splitB c s).take i ++ [r] := fun h => by rw [h] at h2; exact h2
  by_cases hi : i < n
  · rcases idx_split c r with ⟨k1, k2⟩ | ⟨m, k1, k2, k3⟩
    · exfalso
      have := congrArg List.length k2
      rw [split_count] at this
      simp only [List.length_singleton] at this
      omega
    · rw [k1] at e2
      rw [k3] at h2
      have hm0 : decide ((m : Int) < 0) = false := decide_eq_false (by omega)
      have hm1 : ((m : Int) + 1).toNat = m + 1 := by omega
      have hdr : List.take (r.length - (m + 1)) (List.drop (m + 1) r) = List.drop (m + 1) r := List.take_of_length_le (by rw [List.length_drop]; omega)
      have htk : (splitB c s).take (i + 1) = (splitB c s).take i ++ [r.take m] := by
        generalize splitB c s = L at *
        generalize hA : L.take i = A at *
        rw [h2, List.take_append, hlt, show i + 1 - i = 1 by omega, List.take_of_length_le (by omega)]
        rfl
      have hrow : (splitB c s).take (i + 1) ++ List.replicate (n + 1 - (i + 1)) ([] : Bs) = (splitB c s).take i ++ r.take m :: List.replicate (n - i) [] := by
        rw [htk, show n + 1 - (i + 1) = n - i by omega, List.append_assoc]
        rfl
      repeat (first
        | (apply axJ; (focus ((with_reducible constructor) <;> rfl)))
        | (apply awT mixedOK hΓ (by kernel_rfl); (simp (disch := omega) only [go_sem, ↓reduceIte, dk, ↓lk, Int.reduceBEq, Int.reduceBNe, Bool.true_bne, Bool.false_bne, Bool.not_true, Bool.not_false, e2, hm0, hset, hll, hnl, Int.add_zero, Nat.sub_zero, Int.natCast_one, hm1, hdr] <;> with_reducible rfl))
        | ((first | apply awR hΓ | apply awG | apply awH mixedOK hΓ rfl (by kernel_rfl) | apply ovE rfl); (simp (disch := omega) only [go_sem, ↓reduceIte, dk, ↓lk, Int.reduceBEq, Int.reduceBNe, Bool.true_bne, Bool.false_bne, Bool.not_true, Bool.not_false, e2, hm0, hset, hll, hnl, Int.add_zero, Nat.sub_zero, Int.natCast_one, hm1, hdr] <;> with_reducible rfl); exact trivial)
        | rfl)
      refine ⟨(i + 1, r.drop (m + 1)), ⟨by dsimp only; omega, ?_, by dsimp only; rw [List.length_drop]; omega⟩, by dsimp only; omega, Weak.v (by (simp [ConvF, lookV, Conv, ints, hrow]; done)) (by (simp (disch := omega) only [TabSub, look, if_pos, if_neg, Obj.refsOK, refsOKs, AV.refsOK, decide_eq_true_eq, Bool.and_true, Bool.and_self, hrow] ) <;> ((repeat' apply And.intro) <;> first | exact True.intro | omega | (simp; done) | rfl))⟩
      dsimp only
      rw [htk, List.append_assoc]
      exact h2
  · have hin : i = n := by omega
    have hr : splitB c r = [r] := by
      rcases idx_split c r with ⟨k1, k2⟩ | ⟨m, k1, k2, k3⟩
      · exact k2
      · exfalso
        have := congrArg List.length k3
        rw [split_count] at this
        have := split_count c (r.drop (m + 1))
        simp only [List.length_cons] at *
        omega
    have h4 := hend hr
    subst hin
    have hfin : splitB c s = ((splitB c s).take i ++ r :: List.replicate (i - i) []) := by
      rw [Nat.sub_self]
      exact h4
    repeat (first
      | (apply axJ; (focus ((with_reducible constructor) <;> rfl)))
      | (apply awT mixedOK hΓ (by kernel_rfl); (simp (disch := omega) only [go_sem, ↓reduceIte, dk, ↓lk, Int.reduceBEq, Int.reduceBNe, Bool.true_bne, Bool.false_bne, Bool.not_true, Bool.not_false, hset, hll, hnl, Int.add_zero] <;> with_reducible rfl))
      | ((first | apply awR hΓ | apply awG | apply awH mixedOK hΓ rfl (by kernel_rfl) | apply ovE rfl); (simp (disch := omega) only [go_sem, ↓reduceIte, dk, ↓lk, Int.reduceBEq, Int.reduceBNe, Bool.true_bne, Bool.false_bne, Bool.not_true, Bool.not_false, hset, hll, hnl, Int.add_zero] <;> with_reducible rfl); exact trivial)
      | rfl)
    rw [← hfin]
    congr 1
    exact List.take_of_length_le (by rw [List.length_map, hcn]; omega)
noncomputable def g_split : List D → Option D := encSpec (fun x : Bs × UInt8 => [.str x.1, .str [x.2]]) (fun x : Bs × UInt8 => x.1.length ≤ 1099511627776) (fun x : Bs × UInt8 => .list ((splitB x.2 x.1).map .str))
theorem g_split_eq {s : Bs} {c : UInt8} (hd : s.length ≤ 1099511627776) : g_split [.str s, .str [c]] = some (.list ((splitB c s).map .str)) := encSpec_eq (x := (s, c)) hd fun y hy => by
    obtain ⟨y0, y1⟩ := y; simp only [List.cons.injEq, and_true, true_and, D.str.injEq, D.int.injEq, D.list.injEq, D.bool.injEq, D.agg.injEq, D.clo.injEq, Int.natCast_inj, inj_ie] at hy
    (try obtain ⟨rfl, rfl⟩ := hy)
    (try subst_vars)
    rfl
theorem f_split_ok : PureOK Tryz.prog 56 false g_split := by
  have hΓ := Γp f_genSplit_ok (Γn)
  refine pure_enc (n := 8) (rs := [.tmp 4]) Tryz.func56 (by kernel_rfl) rfl (by kernel_rfl) (by kernel_rfl) ?_
  rintro ⟨s, c⟩ hd
  (try dsimp only at hd ⊢)
  refine ⟨fun h => (by cases h), fun k hz0 => ?_⟩
  have e1 := g_genSplit_eq (c := c) hd
  rw [start_frame (by simp)]; simp only [enumV, go_sem, emptyH]
  repeat (first
    | (apply axJ; (focus ((with_reducible constructor) <;> rfl)))
    | (apply awT mixedOK hΓ (by kernel_rfl); (simp (disch := omega) only [go_sem, ↓reduceIte, dk, ↓lk, e1] <;> with_reducible rfl))
    | ((first | apply awR hΓ | apply awG | apply awH mixedOK hΓ rfl (by kernel_rfl) | apply ovE rfl); (simp (disch := omega) only [go_sem, ↓reduceIte, dk, ↓lk, e1] <;> with_reducible rfl); exact trivial)
    | rfl)
  try rfl
end Go.Ab
namespace Go.Ab
open Go Go.RowKit Go.Proofs Go.Shelf
set_option maxRecDepth 10000
set_option maxHeartbeats 8000000
theorem idxFrom (p : Nat → Bool) (hp : ∀ r, 128 ≤ r → p r = true) (s : Bs) : ∀ (f pos : Nat), pos ≤ s.length → s.length ≤ pos + f → (s.take pos).any (fun b => p b.toNat) = false →
    Lib.idxFuncFrom p true ⟨s.toArray⟩ f pos = idx (fun b => p b.toNat) s := by
  have hsz : (⟨s.toArray⟩ : ByteArray).size = s.length := by simp [ByteArray.size]
  intro f
  induction f with
  | zero =>
    intro pos h1 h2 h3
    have : pos = s.length := by omega
    subst this
    rw [List.take_length] at h3
    rw [idx_none h3]
    rfl
  | succ f ih =>
    intro pos h1 h2 h3
    rw [Lib.idxFuncFrom]
    by_cases hi : pos < s.length
    · have hi2 : pos < (⟨s.toArray⟩ : ByteArray).size := by rw [hsz]; exact hi
      rw [if_pos hi2]
      have hg : ((⟨s.toArray⟩ : ByteArray)[pos]'hi2) = s[pos] := rfl
      by_cases ha : s[pos].toNat < 128
      · rw [decode_ascii _ _ hi2 (by rw [hg]; exact ha), hg]
        dsimp only
        by_cases hq : p s[pos].toNat = true
        · rw [if_pos hq, idx_at hi hq h3]
        · rw [if_neg hq]
          exact ih (pos + 1) (by omega) (by omega) (any_next (p := fun b : UInt8 => p b.toNat) hi h3 (by simpa using hq))
      · have hd := decode_high _ _ hi2 (by rw [hg]; omega)
        rw [if_pos (hp _ hd.1), idx_at (p := fun b : UInt8 => p b.toNat) hi (hp _ (by omega)) h3]
    · have : pos = s.length := by omega
      subst this
      rw [List.take_length] at h3
      rw [if_neg (by rw [hsz]; omega), idx_none h3]
theorem idxFn (p : Nat → Bool) (hp : ∀ r, 128 ≤ r → p r = true) (s : Bs) : Lib.idxFunc p true ⟨s.toArray⟩ = idx (fun b => p b.toNat) s := by
  unfold Lib.idxFunc
  exact idxFrom p hp s _ 0 (Nat.zero_le _) (by simp [ByteArray.size]) rfl
end Go.Ab
namespace Go.Ab
open Go Go.RowKit Go.Proofs Go.Shelf
set_option maxRecDepth 10000
set_option maxHeartbeats 8000000
end Go.Ab
namespace Go.Ab
open Go Go.RowKit Go.Proofs Go.Shelf
set_option maxRecDepth 10000
set_option maxHeartbeats 8000000
end Go.Ab
