/-
  One text of the proof (own work): contracts of functions of the program, by the abstract machine.
-/
import Derived.Test.YtdodjhiofpiaaaaDoorX19
import Derived.Test.YtdodjhiofpiaaaaDoorX28
set_option linter.unusedVariables false
set_option linter.unusedSimpArgs false
namespace Go.Ab
open Go Go.RowKit Go.Proofs Go.Shelf
set_option maxRecDepth 10000
set_option maxHeartbeats 8000000
theorem idx_two (c : UInt8) (s : Bs) : decide (Lib.indexByte s c ≥ 0) = decide (((splitB c s).length : Int) > 1) := by
  rcases idx_split c s with ⟨h1, h2⟩ | ⟨k, h1, h2, h3⟩
  · rw [h1, h2]; rfl
  · rw [h1, h3, decide_eq_true (by omega), decide_eq_true]
    have := split_count c (s.drop (k + 1))
    rw [List.length_cons]
    omega
noncomputable def g_cont1 : List D → Option D := encSpec (fun x : Bs × UInt8 => [.str x.1, .str [x.2]]) (fun x : Bs × UInt8 => x.1.length ≤ 1099511627776) (fun x : Bs × UInt8 => .bool (decide (((splitB x.2 x.1).length : Int) > 1)))
theorem g_cont1_eq {s : Bs} {c : UInt8} (hd : s.length ≤ 1099511627776) : g_cont1 [.str s, .str [c]] = some (.bool (decide (((splitB c s).length : Int) > 1))) := encSpec_eq (x := (s, c)) hd fun y hy => by
    obtain ⟨y0, y1⟩ := y; simp only [List.cons.injEq, and_true, true_and, D.str.injEq, D.int.injEq, D.list.injEq, D.bool.injEq, D.agg.injEq, D.clo.injEq, Int.natCast_inj, inj_ie] at hy
    (try obtain ⟨rfl, rfl⟩ := hy)
    (try subst_vars)
    rfl
theorem f_cont1_ok : PureOK Tryd.prog 41 true g_cont1 := by
  have hΓ := Γp f_idx1_ok (Γn)
  refine pure_enc (n := 9) (rs := [.tmp 4]) Tryd.func41 (by kernel_rfl) rfl (by kernel_rfl) (by kernel_rfl) ?_
  rintro ⟨s, c⟩ hd
  (try dsimp only at hd ⊢)
  refine ⟨fun _ => by (repeat (first | exact .int _ _ | exact .bool _ | exact .str _ | (refine .tup _ (fun d hd => ?_); simp only [List.mem_cons, List.not_mem_nil, or_false] at hd; rcases hd with rfl | hd))), fun k hz0 => ?_⟩
  have e1 := g_idx1_eq (b := c) hd
  rw [← idx_two]
  generalize Lib.indexByte s c = n at *
  rw [start_frame (by simp)]; simp only [enumV, go_sem, emptyH]
  generalize hc : decide (n ≥ 0) = b
  cases b
  · repeat (first
    | (apply axJ; (focus ((with_reducible constructor) <;> rfl)))
    | (apply awT mixedOK hΓ (by kernel_rfl); (simp (disch := omega) only [go_sem, ↓reduceIte, dk, ↓lk, e1, hc] <;> with_reducible rfl))
    | ((first | apply awR hΓ | apply awG | apply awH mixedOK hΓ rfl (by kernel_rfl) | apply ovE rfl); (simp (disch := omega) only [go_sem, ↓reduceIte, dk, ↓lk, e1, hc] <;> with_reducible rfl); exact trivial)
    | rfl)
    try rfl
  · repeat (first
    | (apply axJ; (focus ((with_reducible constructor) <;> rfl)))
    | (apply awT mixedOK hΓ (by kernel_rfl); (simp (disch := omega) only [go_sem, ↓reduceIte, dk, ↓lk, e1, hc] <;> with_reducible rfl))
    | ((first | apply awR hΓ | apply awG | apply awH mixedOK hΓ rfl (by kernel_rfl) | apply ovE rfl); (simp (disch := omega) only [go_sem, ↓reduceIte, dk, ↓lk, e1, hc] <;> with_reducible rfl); exact trivial)
    | rfl)
    try rfl
def hasP (s : Bs) (c : UInt8) : Bool := match s with
  | [] => false
  | b :: _ => b == c
def cutP (s : Bs) (c : UInt8) : Bs × Bool := match s with
  | [] => ([], false)
  | b :: r => if b == c then (r, true) else (b :: r, false)
def eSB (p : Bs × Bool) : D := .tup [.str p.1, .bool p.2]
theorem beq_one (b c : UInt8) : ([b] == [c]) = (b == c) := by
  rw [Bool.eq_iff_iff]
  simp
noncomputable def g_hasP1 : List D → Option D := encSpec (fun x : Bs × UInt8 => [.str x.1, .str [x.2]]) (fun x : Bs × UInt8 => x.1.length ≤ 1099511627776) (fun x : Bs × UInt8 => .bool (hasP x.1 x.2))
theorem g_hasP1_eq {s : Bs} {c : UInt8} (hd : s.length ≤ 1099511627776) : g_hasP1 [.str s, .str [c]] = some (.bool (hasP s c)) := encSpec_eq (x := (s, c)) hd fun y hy => by
    obtain ⟨y0, y1⟩ := y; simp only [List.cons.injEq, and_true, true_and, D.str.injEq, D.int.injEq, D.list.injEq, D.bool.injEq, D.agg.injEq, D.clo.injEq, Int.natCast_inj, inj_ie] at hy
    (try obtain ⟨rfl, rfl⟩ := hy)
    (try subst_vars)
    rfl
theorem f_hasP1_ok : PureOK Tryd.prog 104 true g_hasP1 := by
  have hΓ := Γ0_ok
  refine pure_enc (n := 18) (rs := [.tmp 4]) Tryd.func104 (by kernel_rfl) rfl (by kernel_rfl) (by kernel_rfl) ?_
  rintro ⟨s, c⟩ hd
  (try dsimp only at hd ⊢)
  refine ⟨fun _ => by (repeat (first | exact .int _ _ | exact .bool _ | exact .str _ | (refine .tup _ (fun d hd => ?_); simp only [List.mem_cons, List.not_mem_nil, or_false] at hd; rcases hd with rfl | hd))), fun k hz0 => ?_⟩
  rw [start_frame (by simp)]; simp only [enumV, go_sem, emptyH]
  cases s with
  | nil =>
    have h0 : decide (((0 : Nat) : Int) ≥ ((1 : Nat) : Int)) = false := rfl
    repeat (first
      | (apply axJ; (focus ((with_reducible constructor) <;> rfl)))
      | (apply awT mixedOK hΓ (by kernel_rfl); (simp (disch := omega) only [go_sem, ↓reduceIte, dk, ↓lk, List.length_nil, List.length_cons, h0, Nat.zero_add] <;> with_reducible rfl))
      | ((first | apply awR hΓ | apply awG | apply awH mixedOK hΓ rfl (by kernel_rfl) | apply ovE rfl); (simp (disch := omega) only [go_sem, ↓reduceIte, dk, ↓lk, List.length_nil, List.length_cons, h0, Nat.zero_add] <;> with_reducible rfl); exact trivial)
      | rfl)
    try rfl
  | cons b r =>
    have hdef : hasP (b :: r) c = (b == c) := rfl
    rw [hdef]
    have hlen : 1 ≤ (b :: r).length := by simp
    have ht : (b :: r).take 1 = [b] := rfl
    generalize b :: r = s at *
    have h1 : decide ((s.length : Int) ≥ 1) = true := decide_eq_true (by omega)
    have hq := beq_one b c
    generalize (b == c) = q at *
    repeat (first
      | (apply axJ; (focus ((with_reducible constructor) <;> rfl)))
      | (apply awT mixedOK hΓ (by kernel_rfl); (simp (disch := omega) only [go_sem, ↓reduceIte, dk, ↓lk, List.length_nil, List.length_cons, Nat.zero_add, Int.natCast_one, h1, Int.reduceToNat, Nat.sub_zero, ht, hq] <;> with_reducible rfl))
      | ((first | apply awR hΓ | apply awG | apply awH mixedOK hΓ rfl (by kernel_rfl) | apply ovE rfl); (simp (disch := omega) only [go_sem, ↓reduceIte, dk, ↓lk, List.length_nil, List.length_cons, Nat.zero_add, Int.natCast_one, h1, Int.reduceToNat, Nat.sub_zero, ht, hq] <;> with_reducible rfl); exact trivial)
      | rfl)
    try rfl
noncomputable def g_cutP1 : List D → Option D := encSpec (fun x : Bs × UInt8 => [.str x.1, .str [x.2]]) (fun x : Bs × UInt8 => x.1.length ≤ 1099511627776) (fun x : Bs × UInt8 => eSB (cutP x.1 x.2))
theorem g_cutP1_eq {s : Bs} {c : UInt8} (hd : s.length ≤ 1099511627776) : g_cutP1 [.str s, .str [c]] = some (eSB (cutP s c)) := encSpec_eq (x := (s, c)) hd fun y hy => by
    obtain ⟨y0, y1⟩ := y; simp only [List.cons.injEq, and_true, true_and, D.str.injEq, D.int.injEq, D.list.injEq, D.bool.injEq, D.agg.injEq, D.clo.injEq, Int.natCast_inj, inj_ie] at hy
    (try obtain ⟨rfl, rfl⟩ := hy)
    (try subst_vars)
    rfl
theorem f_cutP1_ok : PureOK Tryd.prog 97 false g_cutP1 := by
  have hΓ := Γp f_hasP1_ok (Γn)
  refine pure_enc (n := 15) (rs := [.tmp 4, .tmp 5]) Tryd.func97 (by kernel_rfl) rfl (by kernel_rfl) (by kernel_rfl) ?_
  rintro ⟨s, c⟩ hd
  (try dsimp only at hd ⊢)
  refine ⟨fun h => (by cases h), fun k hz0 => ?_⟩
  have e1 := g_hasP1_eq (c := c) hd
  rw [start_frame (by simp)]; simp only [enumV, go_sem, emptyH]
  cases s with
  | nil =>
    have e1 : g_hasP1 [.str [], .str [c]] = some (.bool false) := e1
    repeat (first
      | (apply axJ; (focus ((with_reducible constructor) <;> rfl)))
      | (apply awT mixedOK hΓ (by kernel_rfl); (simp (disch := omega) only [go_sem, ↓reduceIte, dk, ↓lk, e1] <;> with_reducible rfl))
      | ((first | apply awR hΓ | apply awG | apply awH mixedOK hΓ rfl (by kernel_rfl) | apply ovE rfl); (simp (disch := omega) only [go_sem, ↓reduceIte, dk, ↓lk, e1] <;> with_reducible rfl); exact trivial)
      | rfl)
    try rfl
  | cons b r =>
    have hdef : cutP (b :: r) c = if b == c then (r, true) else (b :: r, false) := rfl
    rw [hdef]
    replace e1 : g_hasP1 [.str (b :: r), .str [c]] = some (.bool (b == c)) := e1
    have hdr : ((b :: r).drop 1).take ((b :: r).length - 1) = r := List.take_of_length_le (by simp)
    have hlen : 1 ≤ (b :: r).length := by simp
    generalize b :: r = s at *
    generalize (b == c) = q at *
    cases q
    · repeat (first
      | (apply axJ; (focus ((with_reducible constructor) <;> rfl)))
      | (apply awT mixedOK hΓ (by kernel_rfl); (simp (disch := omega) only [go_sem, ↓reduceIte, dk, ↓lk, e1] <;> with_reducible rfl))
      | ((first | apply awR hΓ | apply awG | apply awH mixedOK hΓ rfl (by kernel_rfl) | apply ovE rfl); (simp (disch := omega) only [go_sem, ↓reduceIte, dk, ↓lk, e1] <;> with_reducible rfl); exact trivial)
      | rfl)
      try rfl
    · repeat (first
      | (apply axJ; (focus ((with_reducible constructor) <;> rfl)))
      | (apply awT mixedOK hΓ (by kernel_rfl); (simp (disch := omega) only [go_sem, ↓reduceIte, dk, ↓lk, e1, List.length_nil, List.length_cons, Nat.zero_add, Int.natCast_one, Int.reduceToNat, hdr] <;> with_reducible rfl))
      | ((first | apply awR hΓ | apply awG | apply awH mixedOK hΓ rfl (by kernel_rfl) | apply ovE rfl); (simp (disch := omega) only [go_sem, ↓reduceIte, dk, ↓lk, e1, List.length_nil, List.length_cons, Nat.zero_add, Int.natCast_one, Int.reduceToNat, hdr] <;> with_reducible rfl); exact trivial)
      | rfl)
      try rfl
noncomputable def g_cutP2 : List D → Option D := encSpec (fun x : Bs × UInt8 => [.str x.1, .str [x.2]]) (fun x : Bs × UInt8 => x.1.length ≤ 1099511627776) (fun x : Bs × UInt8 => eSB (cutP x.1 x.2))
theorem g_cutP2_eq {s : Bs} {c : UInt8} (hd : s.length ≤ 1099511627776) : g_cutP2 [.str s, .str [c]] = some (eSB (cutP s c)) := encSpec_eq (x := (s, c)) hd fun y hy => by
    obtain ⟨y0, y1⟩ := y; simp only [List.cons.injEq, and_true, true_and, D.str.injEq, D.int.injEq, D.list.injEq, D.bool.injEq, D.agg.injEq, D.clo.injEq, Int.natCast_inj, inj_ie] at hy
    (try obtain ⟨rfl, rfl⟩ := hy)
    (try subst_vars)
    rfl
theorem f_cutP2_ok : PureOK Tryd.prog 86 false g_cutP2 := by
  have hΓ := Γp f_cutP1_ok (Γn)
  refine pure_enc (n := 11) (rs := [.tmp 4, .tmp 5]) Tryd.func86 (by kernel_rfl) rfl (by kernel_rfl) (by kernel_rfl) ?_
  rintro ⟨s, c⟩ hd
  (try dsimp only at hd ⊢)
  refine ⟨fun h => (by cases h), fun k hz0 => ?_⟩
  have e1 := g_cutP1_eq (c := c) hd
  generalize cutP s c = p at *
  obtain ⟨r, b⟩ := p
  replace e1 : g_cutP1 [.str s, .str [c]] = some (.tup [.str r, .bool b]) := e1
  rw [start_frame (by simp)]; simp only [enumV, go_sem, emptyH]
  repeat (first
    | (apply axJ; (focus ((with_reducible constructor) <;> rfl)))
    | (apply awT mixedOK hΓ (by kernel_rfl); (simp (disch := omega) only [go_sem, ↓reduceIte, dk, ↓lk, e1] <;> with_reducible rfl))
    | ((first | apply awR hΓ | apply awG | apply awH mixedOK hΓ rfl (by kernel_rfl) | apply ovE rfl); (simp (disch := omega) only [go_sem, ↓reduceIte, dk, ↓lk, e1] <;> with_reducible rfl); exact trivial)
    | rfl)
  try rfl
noncomputable def g_refP : List D → Option D := encSpec (fun x : Bs => [.str x]) (fun x : Bs => x.length ≤ 1099511627776) (fun x : Bs => .bool (refB x))
theorem g_refP_eq {s : Bs} (hd : s.length ≤ 1099511627776) : g_refP [.str s] = some (.bool (refB s)) := encSpec_eq (x := s) hd fun y hy => by
    simp only [List.cons.injEq, and_true, true_and, D.str.injEq, D.int.injEq, D.list.injEq, D.bool.injEq, D.agg.injEq, D.clo.injEq, Int.natCast_inj, inj_ie] at hy
    rw [hy]
theorem f_refP_ok : PureOK Tryd.prog 72 false g_refP := by
  have hΓ := Γp f_cutP2_ok (Γp f_pathP_ok (Γp f_cont1_ok (Γn)))
  refine pure_enc (n := 21) (rs := [.tmp 2]) Tryd.func72 (by kernel_rfl) rfl (by kernel_rfl) (by kernel_rfl) ?_
  rintro s hd
  (try dsimp only at hd ⊢)
  refine ⟨fun h => (by cases h), fun k hz0 => ?_⟩
  have e1 := g_cutP2_eq (c := 64) hd
  have hdf : refB s = ((pathE (cutP s 64).1 == 0) && (!(cutP s 64).2 || decide (((splitB 47 (cutP s 64).1).length : Int) > 1))) := by
    cases s with
    | nil => rw [refB, cutP]; simp
    | cons b r =>
      rw [refB, cutP]
      have hb : ((b.toNat : Int) == 64) = (b == 64) := byteEq b 64
      rw [hb]
      cases (b == 64) <;> simp
  have hle : (cutP s 64).1.length ≤ 1099511627776 := by
    cases s with
    | nil => exact hd
    | cons b r =>
      rw [cutP]
      split
      · simp only [List.length_cons] at hd; dsimp only; omega
      · exact hd
  rw [hdf]
  generalize cutP s 64 = p at *
  obtain ⟨r, full⟩ := p
  dsimp only at hle ⊢
  replace e1 : g_cutP2 [.str s, .str [64]] = some (.tup [.str r, .bool full]) := e1
  have e2 := g_pathP_eq hle
  have e3 := g_cont1_eq (c := 47) hle
  generalize pathE r = pe at *
  generalize decide (((splitB 47 r).length : Int) > 1) = c2 at *
  rw [start_frame (by simp)]; simp only [enumV, go_sem, emptyH]
  generalize hc1 : (pe == 0) = c1
  cases c1
  · repeat (first
    | (apply axJ; (focus ((with_reducible constructor) <;> rfl)))
    | (apply awT mixedOK hΓ (by kernel_rfl); (simp (disch := omega) only [go_sem, ↓reduceIte, dk, ↓lk, e1, e2, e3, hc1] <;> with_reducible rfl))
    | ((first | apply awR hΓ | apply awG | apply awH mixedOK hΓ rfl (by kernel_rfl) | apply ovE rfl); (simp (disch := omega) only [go_sem, ↓reduceIte, dk, ↓lk, e1, e2, e3, hc1] <;> with_reducible rfl); exact trivial)
    | rfl)
    try rfl
  cases full
  · repeat (first
    | (apply axJ; (focus ((with_reducible constructor) <;> rfl)))
    | (apply awT mixedOK hΓ (by kernel_rfl); (simp (disch := omega) only [go_sem, ↓reduceIte, dk, ↓lk, e1, e2, e3, hc1] <;> with_reducible rfl))
    | ((first | apply awR hΓ | apply awG | apply awH mixedOK hΓ rfl (by kernel_rfl) | apply ovE rfl); (simp (disch := omega) only [go_sem, ↓reduceIte, dk, ↓lk, e1, e2, e3, hc1] <;> with_reducible rfl); exact trivial)
    | rfl)
    try rfl
  cases c2
  · repeat (first
    | (apply axJ; (focus ((with_reducible constructor) <;> rfl)))
    | (apply awT mixedOK hΓ (by kernel_rfl); (simp (disch := omega) only [go_sem, ↓reduceIte, dk, ↓lk, e1, e2, e3, hc1] <;> with_reducible rfl))
    | ((first | apply awR hΓ | apply awG | apply awH mixedOK hΓ rfl (by kernel_rfl) | apply ovE rfl); (simp (disch := omega) only [go_sem, ↓reduceIte, dk, ↓lk, e1, e2, e3, hc1] <;> with_reducible rfl); exact trivial)
    | rfl)
    try rfl
  · repeat (first
    | (apply axJ; (focus ((with_reducible constructor) <;> rfl)))
    | (apply awT mixedOK hΓ (by kernel_rfl); (simp (disch := omega) only [go_sem, ↓reduceIte, dk, ↓lk, e1, e2, e3, hc1] <;> with_reducible rfl))
    | ((first | apply awR hΓ | apply awG | apply awH mixedOK hΓ rfl (by kernel_rfl) | apply ovE rfl); (simp (disch := omega) only [go_sem, ↓reduceIte, dk, ↓lk, e1, e2, e3, hc1] <;> with_reducible rfl); exact trivial)
    | rfl)
    try rfl
end Go.Ab
namespace Go.Ab
open Go Go.RowKit Go.Proofs Go.Shelf
set_option maxRecDepth 10000
set_option maxHeartbeats 8000000
noncomputable def g_letP : List D → Option D := encSpec (fun x : Int => [.int .i32 x]) (fun x : Int => True) (fun x : Int => .bool (lettI x))
theorem g_letP_eq {r : Int} (hd : True) : g_letP [.int .i32 r] = some (.bool (lettI r)) := encSpec_eq (x := r) hd fun y hy => by
    simp only [List.cons.injEq, and_true, true_and, D.str.injEq, D.int.injEq, D.list.injEq, D.bool.injEq, D.agg.injEq, D.clo.injEq, Int.natCast_inj, inj_ie, D.ref.injEq] at hy
    rw [hy]
theorem f_letP_ok : PureOK Tryd.prog 98 true g_letP := by
  have hΓ := Γ0_ok
  refine pure_enc (n := 13) (rs := [.tmp 2]) Tryd.func98 (by kernel_rfl) rfl (by kernel_rfl) (by kernel_rfl) ?_
  rintro r hd
  (try dsimp only at hd ⊢)
  refine ⟨fun _ => by (repeat (first | exact .int _ _ | exact .bool _ | exact .str _ | (refine .tup _ (fun d hd => ?_); simp only [List.mem_cons, List.not_mem_nil, or_false] at hd; rcases hd with rfl | hd))), fun k hz0 => ?_⟩
  unfold lettI
  rw [start_frame (by simp)]; simp only [enumV, go_sem, emptyH]
  generalize h1 : decide (r ≥ 97) = a1
  generalize h2 : decide (r ≤ 122) = a2
  generalize h3 : (r == 95) = a3
  (cases a1; (focus (cases a3; (focus ((repeat (first | (apply axJ; (focus ((with_reducible constructor) <;> rfl))) | (apply awT mixedOK hΓ (by kernel_rfl); (simp (disch := omega) only [go_sem, ↓reduceIte, dk, h1, h2, h3] <;> with_reducible rfl)) | ((first | apply awR hΓ | apply awG | apply awH mixedOK hΓ rfl (by kernel_rfl) | apply ovE rfl); (simp (disch := omega) only [go_sem, ↓reduceIte, dk, h1, h2, h3] <;> with_reducible rfl); exact trivial) | rfl)); (first | done | rfl))); (focus ((repeat (first | (apply axJ; (focus ((with_reducible constructor) <;> rfl))) | (apply awT mixedOK hΓ (by kernel_rfl); (simp (disch := omega) only [go_sem, ↓reduceIte, dk, h1, h2, h3] <;> with_reducible rfl)) | ((first | apply awR hΓ | apply awG | apply awH mixedOK hΓ rfl (by kernel_rfl) | apply ovE rfl); (simp (disch := omega) only [go_sem, ↓reduceIte, dk, h1, h2, h3] <;> with_reducible rfl); exact trivial) | rfl)); (first | done | rfl))))); (focus (cases a2; (focus (cases a3; (focus ((repeat (first | (apply axJ; (focus ((with_reducible constructor) <;> rfl))) | (apply awT mixedOK hΓ (by kernel_rfl); (simp (disch := omega) only [go_sem, ↓reduceIte, dk, h1, h2, h3] <;> with_reducible rfl)) | ((first | apply awR hΓ | apply awG | apply awH mixedOK hΓ rfl (by kernel_rfl) | apply ovE rfl); (simp (disch := omega) only [go_sem, ↓reduceIte, dk, h1, h2, h3] <;> with_reducible rfl); exact trivial) | rfl)); (first | done | rfl))); (focus ((repeat (first | (apply axJ; (focus ((with_reducible constructor) <;> rfl))) | (apply awT mixedOK hΓ (by kernel_rfl); (simp (disch := omega) only [go_sem, ↓reduceIte, dk, h1, h2, h3] <;> with_reducible rfl)) | ((first | apply awR hΓ | apply awG | apply awH mixedOK hΓ rfl (by kernel_rfl) | apply ovE rfl); (simp (disch := omega) only [go_sem, ↓reduceIte, dk, h1, h2, h3] <;> with_reducible rfl); exact trivial) | rfl)); (first | done | rfl))))); (focus ((repeat (first | (apply axJ; (focus ((with_reducible constructor) <;> rfl))) | (apply awT mixedOK hΓ (by kernel_rfl); (simp (disch := omega) only [go_sem, ↓reduceIte, dk, h1, h2, h3] <;> with_reducible rfl)) | ((first | apply awR hΓ | apply awG | apply awH mixedOK hΓ rfl (by kernel_rfl) | apply ovE rfl); (simp (disch := omega) only [go_sem, ↓reduceIte, dk, h1, h2, h3] <;> with_reducible rfl); exact trivial) | rfl)); (first | done | rfl))))))
noncomputable def g_digP : List D → Option D := encSpec (fun x : Int => [.int .i32 x]) (fun x : Int => True) (fun x : Int => .bool (digI x))
theorem g_digP_eq {r : Int} (hd : True) : g_digP [.int .i32 r] = some (.bool (digI r)) := encSpec_eq (x := r) hd fun y hy => by
    simp only [List.cons.injEq, and_true, true_and, D.str.injEq, D.int.injEq, D.list.injEq, D.bool.injEq, D.agg.injEq, D.clo.injEq, Int.natCast_inj, inj_ie, D.ref.injEq] at hy
    rw [hy]
theorem f_digP_ok : PureOK Tryd.prog 100 true g_digP := by
  have hΓ := Γ0_ok
  refine pure_enc (n := 9) (rs := [.tmp 2]) Tryd.func100 (by kernel_rfl) rfl (by kernel_rfl) (by kernel_rfl) ?_
  rintro r hd
  (try dsimp only at hd ⊢)
  refine ⟨fun _ => by (repeat (first | exact .int _ _ | exact .bool _ | exact .str _ | (refine .tup _ (fun d hd => ?_); simp only [List.mem_cons, List.not_mem_nil, or_false] at hd; rcases hd with rfl | hd))), fun k hz0 => ?_⟩
  unfold digI
  rw [start_frame (by simp)]; simp only [enumV, go_sem, emptyH]
  generalize h1 : decide (r ≥ 48) = a1
  generalize h2 : decide (r ≤ 57) = a2
  (cases a1; (focus ((repeat (first | (apply axJ; (focus ((with_reducible constructor) <;> rfl))) | (apply awT mixedOK hΓ (by kernel_rfl); (simp (disch := omega) only [go_sem, ↓reduceIte, dk, h1, h2] <;> with_reducible rfl)) | ((first | apply awR hΓ | apply awG | apply awH mixedOK hΓ rfl (by kernel_rfl) | apply ovE rfl); (simp (disch := omega) only [go_sem, ↓reduceIte, dk, h1, h2] <;> with_reducible rfl); exact trivial) | rfl)); (first | done | rfl))); (focus (cases a2; (focus ((repeat (first | (apply axJ; (focus ((with_reducible constructor) <;> rfl))) | (apply awT mixedOK hΓ (by kernel_rfl); (simp (disch := omega) only [go_sem, ↓reduceIte, dk, h1, h2] <;> with_reducible rfl)) | ((first | apply awR hΓ | apply awG | apply awH mixedOK hΓ rfl (by kernel_rfl) | apply ovE rfl); (simp (disch := omega) only [go_sem, ↓reduceIte, dk, h1, h2] <;> with_reducible rfl); exact trivial) | rfl)); (first | done | rfl))); (focus ((repeat (first | (apply axJ; (focus ((with_reducible constructor) <;> rfl))) | (apply awT mixedOK hΓ (by kernel_rfl); (simp (disch := omega) only [go_sem, ↓reduceIte, dk, h1, h2] <;> with_reducible rfl)) | ((first | apply awR hΓ | apply awG | apply awH mixedOK hΓ rfl (by kernel_rfl) | apply ovE rfl); (simp (disch := omega) only [go_sem, ↓reduceIte, dk, h1, h2] <;> with_reducible rfl); exact trivial) | rfl)); (first | done | rfl))))))
def runQ (nm : Bool) (r : Int) : Bool := !(digI r) && !(nm && lettI r)
noncomputable def g_runC : List D → Option D := encSpec (fun x : Int × Bool => [.int .i32 x.1, .ref [.bool x.2]]) (fun x : Int × Bool => True) (fun x : Int × Bool => .bool (runQ x.2 x.1))
theorem g_runC_eq {r : Int} {nm : Bool} (hd : True) : g_runC [.int .i32 r, .ref [.bool nm]] = some (.bool (runQ nm r)) := encSpec_eq (x := (r, nm)) hd fun y hy => by
    obtain ⟨y0, y1⟩ := y; simp only [List.cons.injEq, and_true, true_and, D.str.injEq, D.int.injEq, D.list.injEq, D.bool.injEq, D.agg.injEq, D.clo.injEq, Int.natCast_inj, inj_ie, D.ref.injEq] at hy
    (try obtain ⟨rfl, rfl⟩ := hy)
    (try subst_vars)
    rfl
theorem f_runC_ok : PureOK Tryd.prog 105 true g_runC := by
  have hΓ := Γp f_letP_ok (Γp f_digP_ok (Γn))
  refine pure_enc (n := 15) (rs := [.tmp 3]) Tryd.func105 (by kernel_rfl) rfl (by kernel_rfl) (by kernel_rfl) ?_
  rintro ⟨r, nm⟩ hd
  (try dsimp only at hd ⊢)
  refine ⟨fun _ => by (repeat (first | exact .int _ _ | exact .bool _ | exact .str _ | (refine .tup _ (fun d hd => ?_); simp only [List.mem_cons, List.not_mem_nil, or_false] at hd; rcases hd with rfl | hd))), fun k hz0 => ?_⟩
  have e1 := g_digP_eq (r := r) trivial
  have e2 := g_letP_eq (r := r) trivial
  unfold runQ
  generalize digI r = d at *
  generalize lettI r = t at *
  rw [start_frame (by simp)]; simp only [enumV, go_sem, emptyH]
  (cases d; (focus (cases nm; (focus ((repeat (first | (apply axJ; (focus ((with_reducible constructor) <;> rfl))) | (apply awT mixedOK hΓ (by kernel_rfl); (simp (disch := omega) only [go_sem, ↓reduceIte, dk, e1, e2] <;> with_reducible rfl)) | ((first | apply awR hΓ | apply awG | apply awH mixedOK hΓ rfl (by kernel_rfl) | apply ovE rfl); (simp (disch := omega) only [go_sem, ↓reduceIte, dk, e1, e2] <;> with_reducible rfl); exact trivial) | rfl)); (first | done | rfl))); (focus (cases t; (focus ((repeat (first | (apply axJ; (focus ((with_reducible constructor) <;> rfl))) | (apply awT mixedOK hΓ (by kernel_rfl); (simp (disch := omega) only [go_sem, ↓reduceIte, dk, e1, e2] <;> with_reducible rfl)) | ((first | apply awR hΓ | apply awG | apply awH mixedOK hΓ rfl (by kernel_rfl) | apply ovE rfl); (simp (disch := omega) only [go_sem, ↓reduceIte, dk, e1, e2] <;> with_reducible rfl); exact trivial) | rfl)); (first | done | rfl))); (focus ((repeat (first | (apply axJ; (focus ((with_reducible constructor) <;> rfl))) | (apply awT mixedOK hΓ (by kernel_rfl); (simp (disch := omega) only [go_sem, ↓reduceIte, dk, e1, e2] <;> with_reducible rfl)) | ((first | apply awR hΓ | apply awG | apply awH mixedOK hΓ rfl (by kernel_rfl) | apply ovE rfl); (simp (disch := omega) only [go_sem, ↓reduceIte, dk, e1, e2] <;> with_reducible rfl); exact trivial) | rfl)); (first | done | rfl))))))); (focus ((repeat (first | (apply axJ; (focus ((with_reducible constructor) <;> rfl))) | (apply awT mixedOK hΓ (by kernel_rfl); (simp (disch := omega) only [go_sem, ↓reduceIte, dk, e1, e2] <;> with_reducible rfl)) | ((first | apply awR hΓ | apply awG | apply awH mixedOK hΓ rfl (by kernel_rfl) | apply ovE rfl); (simp (disch := omega) only [go_sem, ↓reduceIte, dk, e1, e2] <;> with_reducible rfl); exact trivial) | rfl)); (first | done | rfl))))
noncomputable def g_linesP : List D → Option D := encSpec (fun x : Bs => [.str x]) (fun x : Bs => x.length ≤ 1099511627776) (fun x : Bs => eLs (linesE x))
theorem g_linesP_eq {s : Bs} (hd : s.length ≤ 1099511627776) : g_linesP [.str s] = some (eLs (linesE s)) := encSpec_eq (x := s) hd fun y hy => by
    simp only [List.cons.injEq, and_true, true_and, D.str.injEq, D.int.injEq, D.list.injEq, D.bool.injEq, D.agg.injEq, D.clo.injEq, Int.natCast_inj, inj_ie, D.ref.injEq] at hy
    rw [hy]
theorem f_linesP_ok : PureOK Tryd.prog 22 false g_linesP := by
  have hΓ := Γp f_cnt1_ok (Γp f_split_ok (Γn))
  refine pure_enc (n := 14) (rs := [.tmp 2, .tmp 3]) Tryd.func22 (by kernel_rfl) rfl (by kernel_rfl) (by kernel_rfl) ?_
  rintro s hd
  (try dsimp only at hd ⊢)
  refine ⟨fun h => (by cases h), fun k hz0 => ?_⟩
  have e1 := g_cnt1_eq (b := 10) hd
  have e2 := g_split_eq (c := 10) hd
  have h1 := split_count 10 s
  rw [show Lib.countByte s 10 = s.count 10 from rfl] at e1
  unfold linesE
  generalize splitB 10 s = l at *
  generalize s.count 10 = n at *
  generalize hc1 : decide ((s.length : Int) > 65536) = c1
  have hc2' : decide ((l.length : Int) > 1024) = decide ((n : Int) ≥ 1024) := by
    rw [h1, Bool.eq_iff_iff]
    simp only [decide_eq_true_eq]
    omega
  rw [hc2']
  generalize hc2 : decide ((n : Int) ≥ 1024) = c2
  rw [start_frame (by simp)]; simp only [enumV, go_sem, emptyH]
  cases c1
  rotate_left
  · repeat (first
    | (apply axJ; (focus ((with_reducible constructor) <;> rfl)))
    | (apply awT mixedOK hΓ (by kernel_rfl); (simp (disch := omega) only [go_sem, ↓reduceIte, dk, ↓lk, hc1] <;> with_reducible rfl))
    | ((first | apply awR hΓ | apply awG | apply awH mixedOK hΓ rfl (by kernel_rfl) | apply ovE rfl); (simp (disch := omega) only [go_sem, ↓reduceIte, dk, ↓lk, hc1] <;> with_reducible rfl); exact trivial)
    | rfl)
    try rfl
  cases c2
  · repeat (first
    | (apply axJ; (focus ((with_reducible constructor) <;> rfl)))
    | (apply awT mixedOK hΓ (by kernel_rfl); (simp (disch := omega) only [go_sem, ↓reduceIte, dk, ↓lk, e1, e2, hc1, hc2] <;> with_reducible rfl))
    | ((first | apply awR hΓ | apply awG | apply awH mixedOK hΓ rfl (by kernel_rfl) | apply ovE rfl); (simp (disch := omega) only [go_sem, ↓reduceIte, dk, ↓lk, e1, e2, hc1, hc2] <;> with_reducible rfl); exact trivial)
    | rfl)
    try rfl
  · repeat (first
    | (apply axJ; (focus ((with_reducible constructor) <;> rfl)))
    | (apply awT mixedOK hΓ (by kernel_rfl); (simp (disch := omega) only [go_sem, ↓reduceIte, dk, ↓lk, e1, e2, hc1, hc2] <;> with_reducible rfl))
    | ((first | apply awR hΓ | apply awG | apply awH mixedOK hΓ rfl (by kernel_rfl) | apply ovE rfl); (simp (disch := omega) only [go_sem, ↓reduceIte, dk, ↓lk, e1, e2, hc1, hc2] <;> with_reducible rfl); exact trivial)
    | rfl)
    try rfl
end Go.Ab
namespace Go.Ab
open Go Go.RowKit Go.Proofs Go.Shelf
set_option maxRecDepth 10000
set_option maxHeartbeats 8000000
noncomputable def g_equalS : List D → Option D := encSpec (fun x : (List Bs) × (List Bs) => [.list (x.1.map .str), .list (x.2.map .str)]) (fun x : (List Bs) × (List Bs) => x.1.length ≤ 1099511627776 ∧ x.2.length ≤ 1099511627776) (fun x : (List Bs) × (List Bs) => .bool (x.1 == x.2))
theorem g_equalS_eq {a : List Bs} {b : List Bs} (hd : a.length ≤ 1099511627776 ∧ b.length ≤ 1099511627776) : g_equalS [.list (a.map .str), .list (b.map .str)] = some (.bool (a == b)) := encSpec_eq (x := (a, b)) hd fun y hy => by
    obtain ⟨y0, y1⟩ := y; simp only [List.cons.injEq, and_true, true_and, D.str.injEq, D.int.injEq, D.list.injEq, D.bool.injEq, D.agg.injEq, D.clo.injEq, Int.natCast_inj, inj_ie] at hy
    (try obtain ⟨rfl, rfl⟩ := hy)
    (try subst_vars)
    rfl
theorem f_equalS_ok : PureOK Tryd.prog 18 true g_equalS := by
  have hΓ := Γ0_ok
  refine pure_enc (n := 26) (rs := [.tmp 4]) Tryd.func18 (by kernel_rfl) rfl (by kernel_rfl) (by kernel_rfl) ?_
  rintro ⟨a, b⟩ hd
  (try dsimp only at hd ⊢)
  refine ⟨fun _ => by (repeat (first | exact .int _ _ | exact .bool _ | exact .str _ | (refine .tup _ (fun d hd => ?_); simp only [List.mem_cons, List.not_mem_nil, or_false] at hd; rcases hd with rfl | hd))), fun k hz0 => ?_⟩
  obtain ⟨ha, hb⟩ := hd
  rw [start_frame (by simp)]; simp only [enumV, go_sem, emptyH]
  by_cases hne : a.length = b.length
  · have hb1 : (((a.length : Nat) : Int) != ((b.length : Nat) : Int)) = false := by rw [hne]; simp
    have hb2 : (((b.length : Nat) : Int) != ((b.length : Nat) : Int)) = false := by simp
    repeat (first
      | (apply axJ; (focus ((with_reducible constructor) <;> rfl)))
      | (apply awT mixedOK hΓ (by kernel_rfl); (simp (disch := omega) only [go_sem, ↓reduceIte, dk, ↓lk, hb1, hb2] <;> with_reducible rfl))
      | ((first | apply awR hΓ | apply awG | apply awH mixedOK hΓ rfl (by kernel_rfl) | apply ovE rfl); (simp (disch := omega) only [go_sem, ↓reduceIte, dk, ↓lk, hb1, hb2] <;> with_reducible rfl); exact trivial)
      | rfl)
    refine awp_loop_at (X := Nat) (fun i => (frame 26 [(0, .data (.list (a.map .str))), (1, .data (.list (b.map .str))), (11, .data (.list (a.map .str))), (12, .data (i64 a.length)), (13, .data (i64 i))])) (fun _ => []) 16
      (fun i => i ≤ a.length ∧ a.take i = b.take i) (fun i => a.length - i) 0 ⟨Nat.zero_le _, rfl⟩ (Weak.w) ?_
    rintro i ⟨h1, h2⟩
    by_cases hi : i < a.length
    · have hi2 : i < b.length := by omega
      by_cases hc : a[i] = b[i]
      · have hs : a.take (i + 1) = b.take (i + 1) := by rw [List.take_add_one, List.take_add_one, h2, List.getElem?_eq_getElem hi, List.getElem?_eq_getElem hi2, hc]
        have hcn : (a[i] != b[i]) = false := by rw [hc]; simp
        have hcn2 : (b[i] != b[i]) = false := by simp
        generalize hx : a[i] = x at *
        generalize hy : b[i] = y at *
        subst hc
        repeat (first
          | (apply axJ; (focus ((with_reducible constructor) <;> rfl)))
          | (apply awT mixedOK hΓ (by kernel_rfl); (simp (disch := omega) only [go_sem, ↓reduceIte, dk, ↓lk, hx, hy, hcn2] <;> with_reducible rfl))
          | ((first | apply awR hΓ | apply awG | apply awH mixedOK hΓ rfl (by kernel_rfl) | apply ovE rfl); (simp (disch := omega) only [go_sem, ↓reduceIte, dk, ↓lk, hx, hy, hcn2] <;> with_reducible rfl); exact trivial)
          | rfl)
        exact ⟨i + 1, ⟨by omega, hs⟩, by omega, Weak.w⟩
      · have hab : (a == b) = false := by
          rw [beq_eq_false_iff_ne]
          intro h
          subst h
          exact hc rfl
        have hcn : (a[i] == b[i]) = false := beq_eq_false_iff_ne.2 hc
        rw [hab]
        generalize hx : a[i] = x at *
        generalize hy : b[i] = y at *
        repeat (first
          | (apply axJ; (focus ((with_reducible constructor) <;> rfl)))
          | (apply awT mixedOK hΓ (by kernel_rfl); (simp (disch := omega) only [go_sem, ↓reduceIte, dk, ↓lk, hx, hy, hcn, Int.reduceBEq, Int.reduceBNe, Bool.true_bne, Bool.false_bne, Bool.not_true, Bool.not_false] <;> with_reducible rfl))
          | ((first | apply awR hΓ | apply awG | apply awH mixedOK hΓ rfl (by kernel_rfl) | apply ovE rfl); (simp (disch := omega) only [go_sem, ↓reduceIte, dk, ↓lk, hx, hy, hcn, Int.reduceBEq, Int.reduceBNe, Bool.true_bne, Bool.false_bne, Bool.not_true, Bool.not_false] <;> with_reducible rfl); exact trivial)
          | rfl)
        try rfl
    · have hi3 : i = a.length := by omega
      subst hi3
      rw [List.take_length, hne, List.take_length] at h2
      subst h2
      have hab : (a == a) = true := by simp
      rw [hab]
      repeat (first
        | (apply axJ; (focus ((with_reducible constructor) <;> rfl)))
        | (apply awT mixedOK hΓ (by kernel_rfl); (simp (disch := omega) only [go_sem, ↓reduceIte, dk, ↓lk] <;> with_reducible rfl))
        | ((first | apply awR hΓ | apply awG | apply awH mixedOK hΓ rfl (by kernel_rfl) | apply ovE rfl); (simp (disch := omega) only [go_sem, ↓reduceIte, dk, ↓lk] <;> with_reducible rfl); exact trivial)
        | rfl)
      try rfl
  · have hb1 : (((a.length : Nat) : Int) != ((b.length : Nat) : Int)) = true := by
      simp only [bne_iff_ne, ne_eq]
      omega
    have hab : (a == b) = false := by
      rw [beq_eq_false_iff_ne]
      intro h
      exact hne (by rw [h])
    rw [hab]
    repeat (first
      | (apply axJ; (focus ((with_reducible constructor) <;> rfl)))
      | (apply awT mixedOK hΓ (by kernel_rfl); (simp (disch := omega) only [go_sem, ↓reduceIte, dk, ↓lk, hb1] <;> with_reducible rfl))
      | ((first | apply awR hΓ | apply awG | apply awH mixedOK hΓ rfl (by kernel_rfl) | apply ovE rfl); (simp (disch := omega) only [go_sem, ↓reduceIte, dk, ↓lk, hb1] <;> with_reducible rfl); exact trivial)
      | rfl)
    try rfl
noncomputable def g_joinC : List D → Option D := encSpec (fun x : Bs => [.str x]) (fun x : Bs => x.length ≤ 1099511627776) (fun x : Bs => .bool (decide (((splitB 10 x).length : Int) > 1)))
theorem g_joinC_eq {s : Bs} (hd : s.length ≤ 1099511627776) : g_joinC [.str s] = some (.bool (decide (((splitB 10 s).length : Int) > 1))) := encSpec_eq (x := s) hd fun y hy => by
    simp only [List.cons.injEq, and_true, true_and, D.str.injEq, D.int.injEq, D.list.injEq, D.bool.injEq, D.agg.injEq, D.clo.injEq, Int.natCast_inj, inj_ie] at hy
    rw [hy]
theorem f_joinC_ok : PureOK Tryd.prog 40 true g_joinC := by
  have hΓ := Γp f_cont1_ok (Γn)
  refine pure_enc (n := 5) (rs := [.tmp 2]) Tryd.func40 (by kernel_rfl) rfl (by kernel_rfl) (by kernel_rfl) ?_
  rintro s hd
  (try dsimp only at hd ⊢)
  refine ⟨fun _ => by (repeat (first | exact .int _ _ | exact .bool _ | exact .str _ | (refine .tup _ (fun d hd => ?_); simp only [List.mem_cons, List.not_mem_nil, or_false] at hd; rcases hd with rfl | hd))), fun k hz0 => ?_⟩
  have e1 := g_cont1_eq (c := 10) hd
  generalize decide (((splitB 10 s).length : Int) > 1) = b at *
  rw [start_frame (by simp)]; simp only [enumV, go_sem, emptyH]
  repeat (first
    | (apply axJ; (focus ((with_reducible constructor) <;> rfl)))
    | (apply awT mixedOK hΓ (by kernel_rfl); (simp (disch := omega) only [go_sem, ↓reduceIte, dk, ↓lk, e1] <;> with_reducible rfl))
    | ((first | apply awR hΓ | apply awG | apply awH mixedOK hΓ rfl (by kernel_rfl) | apply ovE rfl); (simp (disch := omega) only [go_sem, ↓reduceIte, dk, ↓lk, e1] <;> with_reducible rfl); exact trivial)
    | rfl)
  try rfl
end Go.Ab
