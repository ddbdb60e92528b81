/-
  One text of the proof (own work): contracts of functions of the program, by the abstract machine.
-/
import Derived.Test.YtapnigckcnknoaaGreatDoorX12
import Derived.Test.YtapnigckcnknoaaGreatDoorX17
import Derived.Test.YtapnigckcnknoaaGreatDoorX15
set_option linter.unusedVariables false
set_option linter.unusedSimpArgs false
namespace Go.Ab
open Go Go.RowKit Go.Proofs
set_option maxRecDepth 10000
set_option maxHeartbeats 16000000
def printE (l : List Tk) : Bs × Int := if decide ((l.length : Int) > 256) then ([], 10) else if l.all (fun t => validB t.1 t.2) then (Lib.join (l.map Prod.snd) [32], 0) else ([], 1)
theorem join_max (m : Nat) : ∀ l : List Bs, (∀ s ∈ l, s.length ≤ m) → (Lib.join l [32]).length ≤ l.length * (m + 1)
  | [], _ => Nat.zero_le _
  | [x], h => by
    have := h x (by simp)
    simp [Lib.join]
    omega
  | x :: y :: r, h => by
    have h1 := h x (by simp)
    have h2 := join_max m (y :: r) (fun s hs => h s (by simp [hs]))
    have e : Lib.join (x :: y :: r) [32] = x ++ [32] ++ Lib.join (y :: r) [32] := by simp [Lib.join]
    rw [e, List.length_append, List.length_append, List.length_cons (a := x), Nat.succ_mul]
    simp only [List.length_cons, List.length_nil] at *
    omega
theorem all_take {α : Type} {p : α → Bool} {l : List α} {i : Nat} (hi : i < l.length) (hb : (l.take i).all p = true) (hp : p l[i] = true) : (l.take (i + 1)).all p = true := by
  rw [List.take_add_one, List.all_append, hb, List.getElem?_eq_getElem hi]
  simp [hp]
theorem all_at {α : Type} {p : α → Bool} {l : List α} {i : Nat} (hi : i < l.length) (hp : p l[i] = false) : l.all p = false := by
  rw [List.all_eq_false]
  exact ⟨l[i], List.getElem_mem hi, by rw [hp]; simp⟩
noncomputable def g_tprint : List D → Option D := encSpec (fun x : (List Tk) => [.list (x.map eTk)]) (fun x : (List Tk) => x.length ≤ 1099511627776 ∧ ∀ t ∈ x, t.2.length ≤ 1000000000) (fun x : (List Tk) => .tup [.str (printE x).1, i64 (printE x).2])
theorem g_tprint_eq {l : List Tk} (hd : l.length ≤ 1099511627776 ∧ ∀ t ∈ l, t.2.length ≤ 1000000000) : g_tprint [.list (l.map eTk)] = some (.tup [.str (printE l).1, i64 (printE l).2]) := encSpec_eq (x := l) hd fun y hy => by
    simp only [List.cons.injEq, and_true, true_and, D.str.injEq, D.int.injEq, D.list.injEq, D.bool.injEq, D.agg.injEq, D.clo.injEq, Int.natCast_inj, inj_ie, D.ref.injEq, eTk_ie, eTk_e] at hy
    rw [hy]
theorem f_tprint_ok : PureOK Tryz.prog 39 true g_tprint := by
  have hΓ := Γp f_validP_ok (Γp f_join_ok (Γn))
  refine pure_enc (n := 27) (rs := [.tmp 2, .tmp 3]) Tryz.func39 (by kernel_rfl) rfl (by kernel_rfl) (by kernel_rfl) ?_
  rintro l hd
  (try dsimp only at hd ⊢)
  refine ⟨fun _ => by (refine .tup _ (fun d hd => ?_); simp only [List.mem_cons, List.not_mem_nil, or_false] at hd; repeat (first | exact .int _ _ | exact .bool _ | exact .str _ | (rcases hd with rfl | hd) | subst hd | (refine .agg _ (fun d hd => ?_); simp only [List.mem_cons, List.not_mem_nil, or_false] at hd))), fun k hz0 => ?_⟩
  obtain ⟨d1, d2⟩ := hd
  unfold printE
  rw [start_frame (by simp)]; simp only [enumV, go_sem, emptyH]
  by_cases hl : (l.length : Int) > 256
  · have h1 : decide ((l.length : Int) > 256) = true := decide_eq_true hl
    rw [h1]
    simp only [if_true]
    repeat (first
      | (apply axJ; (focus ((with_reducible constructor) <;> rfl)))
      | (apply awT mixedOK hΓ (by kernel_rfl); (simp (disch := omega) only [go_sem, ↓reduceIte, dk, ↓lk, Int.reduceBEq, Int.reduceBNe, Bool.true_bne, Bool.false_bne, Bool.not_true, Bool.not_false, h1] <;> with_reducible rfl))
      | ((first | apply awR hΓ | apply awG | apply awH mixedOK hΓ rfl (by kernel_rfl) | apply ovE rfl); (simp (disch := omega) only [go_sem, ↓reduceIte, dk, ↓lk, Int.reduceBEq, Int.reduceBNe, Bool.true_bne, Bool.false_bne, Bool.not_true, Bool.not_false, h1] <;> with_reducible rfl); exact trivial)
      | rfl)
    try rfl
  have h1 : decide ((l.length : Int) > 256) = false := decide_eq_false hl
  rw [h1]
  simp only [Bool.false_eq_true, if_false]
  repeat (first
    | (apply axJ; (focus ((with_reducible constructor) <;> rfl)))
    | (apply awT mixedOK hΓ (by kernel_rfl); (simp (disch := omega) only [go_sem, ↓reduceIte, dk, ↓lk, Int.reduceBEq, Int.reduceBNe, Bool.true_bne, Bool.false_bne, Bool.not_true, Bool.not_false, h1] <;> with_reducible rfl))
    | ((first | apply awR hΓ | apply awG | apply awH mixedOK hΓ rfl (by kernel_rfl) | apply ovE rfl); (simp (disch := omega) only [go_sem, ↓reduceIte, dk, ↓lk, Int.reduceBEq, Int.reduceBNe, Bool.true_bne, Bool.false_bne, Bool.not_true, Bool.not_false, h1] <;> with_reducible rfl); exact trivial)
    | rfl)
  refine awp_weak (Weak.nilrowF (i := 4) 9 (sz := 1) (by omega) (by omega) rfl) ?_
  refine awp_loop_at (X := Nat) (fun i => (frame 27 [(4, .row 9 i), (10, .data (.list (l.map eTk))), (11, .data (i64 l.length)), (12, .data (i64 i))])) (fun i => [(9, .row 9 1 (((l.map Prod.snd).take i).map .str))]) 10
    (fun i => i ≤ l.length ∧ (l.take i).all (fun t => validB t.1 t.2) = true) (fun i => l.length - i) 0 ⟨Nat.zero_le _, rfl⟩ (Weak.v (by (simp [ConvF, lookV, Conv, ints, upd]; done)) (by (simp (disch := omega) only [TabSub, look, if_pos, if_neg, Obj.refsOK, refsOKs, AV.refsOK, decide_eq_true_eq, Bool.and_true, Bool.and_self, upd] ) <;> ((repeat' apply And.intro) <;> first | exact True.intro | omega | (simp; done) | rfl))) ?_
  rintro i ⟨hi, hpre⟩
  (try dsimp only at hi hpre ⊢)
  by_cases hi2 : i < l.length
  · have hdy := d2 l[i] (List.getElem_mem hi2)
    have ev := g_validP_eq (kd := (l[i]).1) (s := (l[i]).2) (by omega)
    have hat := @all_at _ (fun t : Tk => validB t.1 t.2) l i hi2
    have htk := @all_take _ (fun t : Tk => validB t.1 t.2) l i hi2 hpre
    have hst : (((l.map Prod.snd).take (i + 1)).map D.str) = ((l.map Prod.snd).take i).map D.str ++ [.str (l[i]).2] := by
      rw [List.take_add_one, List.getElem?_map, List.getElem?_eq_getElem hi2, List.map_append]
      rfl
    have hll : (((l.map Prod.snd).take i).map D.str).length = i := by simp; omega
    generalize ((l.map Prod.snd).take i).map D.str = R at *
    generalize hy : l[i] = y at *
    obtain ⟨yk, yt⟩ := y
    dsimp only at ev hat htk hst hdy
    generalize validB yk yt = b at *
    cases b
    · rw [hat rfl]
      simp only [Bool.false_eq_true, if_false]
      repeat (first
        | (apply axJ; (focus ((with_reducible constructor) <;> rfl)))
        | (apply awT mixedOK hΓ (by kernel_rfl); (simp (disch := omega) only [go_sem, ↓reduceIte, dk, ↓lk, Int.reduceBEq, Int.reduceBNe, Bool.true_bne, Bool.false_bne, Bool.not_true, Bool.not_false, hy, ev, hll] <;> with_reducible rfl))
        | ((first | apply awR hΓ | apply awG | apply awH mixedOK hΓ rfl (by kernel_rfl) | apply ovE rfl); (simp (disch := omega) only [go_sem, ↓reduceIte, dk, ↓lk, Int.reduceBEq, Int.reduceBNe, Bool.true_bne, Bool.false_bne, Bool.not_true, Bool.not_false, hy, ev, hll] <;> with_reducible rfl); exact trivial)
        | rfl)
      try rfl
    · repeat (first
      | (apply axJ; (focus ((with_reducible constructor) <;> rfl)))
      | (apply awT mixedOK hΓ (by kernel_rfl); (simp (disch := omega) only [go_sem, ↓reduceIte, dk, ↓lk, Int.reduceBEq, Int.reduceBNe, Bool.true_bne, Bool.false_bne, Bool.not_true, Bool.not_false, hy, ev, hll] <;> with_reducible rfl))
      | ((first | apply awR hΓ | apply awG | apply awH mixedOK hΓ rfl (by kernel_rfl) | apply ovE rfl); (simp (disch := omega) only [go_sem, ↓reduceIte, dk, ↓lk, Int.reduceBEq, Int.reduceBNe, Bool.true_bne, Bool.false_bne, Bool.not_true, Bool.not_false, hy, ev, hll] <;> with_reducible rfl); exact trivial)
      | rfl)
      exact ⟨i + 1, ⟨by omega, htk rfl⟩, by omega, by rw [hst]; exact Weak.w⟩
  have hi3 : i = l.length := by omega
  subst hi3
  rw [List.take_length] at hpre
  rw [hpre]
  simp only [if_true]
  rw [show (l.map Prod.snd).take l.length = l.map Prod.snd from List.take_of_length_le (by simp)]
  have hj := join_max 1000000000 (l.map Prod.snd) (fun s hs => by obtain ⟨t, ht, rfl⟩ := List.mem_map.1 hs; exact d2 t ht)
  rw [List.length_map] at hj
  have e2 := g_join_eq (l := l.map Prod.snd) (s := [32]) ⟨by simp; omega, by omega⟩
  have hlm : (l.map Prod.snd).length = l.length := List.length_map _
  generalize Lib.join (l.map Prod.snd) [32] = J at *
  generalize l.map Prod.snd = L at *
  rw [← hlm] at *
  repeat (first
    | (apply axJ; (focus ((with_reducible constructor) <;> rfl)))
    | (apply awT mixedOK hΓ (by kernel_rfl); (simp (disch := omega) only [go_sem, ↓reduceIte, dk, ↓lk, Int.reduceBEq, Int.reduceBNe, Bool.true_bne, Bool.false_bne, Bool.not_true, Bool.not_false, e2] <;> with_reducible rfl))
    | ((first | apply awR hΓ | apply awG | apply awH mixedOK hΓ rfl (by kernel_rfl) | apply ovE rfl); (simp (disch := omega) only [go_sem, ↓reduceIte, dk, ↓lk, Int.reduceBEq, Int.reduceBNe, Bool.true_bne, Bool.false_bne, Bool.not_true, Bool.not_false, e2] <;> with_reducible rfl); exact trivial)
    | rfl)
  try rfl
end Go.Ab
namespace Go.Ab
open Go Go.RowKit Go.Proofs
set_option maxRecDepth 10000
set_option maxHeartbeats 16000000
theorem list_diff {α : Type} {a b : List α} {i : Nat} (ha : i < a.length) (hb : i < b.length) (h : a[i] ≠ b[i]) : a ≠ b := fun e => by
  subst e
  exact h rfl
noncomputable def g_sameT : List D → Option D := encSpec (fun x : (List Tk) × (List Tk) => [.list (x.1.map eTk), .list (x.2.map eTk)]) (fun x : (List Tk) × (List Tk) => x.1.length ≤ 1099511627776 ∧ x.2.length ≤ 1099511627776) (fun x : (List Tk) × (List Tk) => .bool (decide (x.1 = x.2)))
theorem g_sameT_eq {a : List Tk} {b : List Tk} (hd : a.length ≤ 1099511627776 ∧ b.length ≤ 1099511627776) : g_sameT [.list (a.map eTk), .list (b.map eTk)] = some (.bool (decide (a = b))) := encSpec_eq (x := (a, b)) hd fun y hy => by
    obtain ⟨y0, y1⟩ := y; simp only [List.cons.injEq, and_true, true_and, D.str.injEq, D.int.injEq, D.list.injEq, D.bool.injEq, D.agg.injEq, D.clo.injEq, Int.natCast_inj, inj_ie, D.ref.injEq, eTk_ie, eTk_e, eFl_ie] at hy
    (try obtain ⟨rfl, rfl⟩ := hy)
    (try subst_vars)
    rfl
theorem f_sameT_ok : PureOK Tryz.prog 14 true g_sameT := by
  have hΓ := Γ0_ok
  refine pure_enc (n := 26) (rs := [.tmp 4]) Tryz.func14 (by kernel_rfl) rfl (by kernel_rfl) (by kernel_rfl) ?_
  rintro ⟨a, b⟩ hd
  (try dsimp only at hd ⊢)
  refine ⟨fun _ => by (repeat (first | exact .int _ _ | exact .bool _ | exact .str _ | (refine .tup _ (fun d hd => ?_); simp only [List.mem_cons, List.not_mem_nil, or_false] at hd; rcases hd with rfl | hd))), fun k hz0 => ?_⟩
  obtain ⟨d1, d2⟩ := hd
  rw [start_frame (by simp)]; simp only [enumV, go_sem, emptyH]
  by_cases hl : a.length = b.length
  case neg =>
    have hab : decide (a = b) = false := decide_eq_false fun e => hl (by rw [e])
    rw [hab]
    have h1 : (((a.length : Nat) : Int) != (b.length : Int)) = true := by
      simp only [bne_iff_ne, ne_eq]
      omega
    repeat (first
      | (apply axJ; (focus ((with_reducible constructor) <;> rfl)))
      | (apply awT mixedOK hΓ (by kernel_rfl); (simp (disch := omega) only [go_sem, ↓reduceIte, dk, ↓lk, Int.reduceBEq, Int.reduceBNe, Bool.true_bne, Bool.false_bne, Bool.not_true, Bool.not_false, h1] <;> with_reducible rfl))
      | ((first | apply awR hΓ | apply awG | apply awH mixedOK hΓ rfl (by kernel_rfl) | apply ovE rfl); (simp (disch := omega) only [go_sem, ↓reduceIte, dk, ↓lk, Int.reduceBEq, Int.reduceBNe, Bool.true_bne, Bool.false_bne, Bool.not_true, Bool.not_false, h1] <;> with_reducible rfl); exact trivial)
      | rfl)
    try rfl
  have h1 : (((a.length : Nat) : Int) != (b.length : Int)) = false := by simp [hl]
  repeat (first
    | (apply axJ; (focus ((with_reducible constructor) <;> rfl)))
    | (apply awT mixedOK hΓ (by kernel_rfl); (simp (disch := omega) only [go_sem, ↓reduceIte, dk, ↓lk, Int.reduceBEq, Int.reduceBNe, Bool.true_bne, Bool.false_bne, Bool.not_true, Bool.not_false, h1] <;> with_reducible rfl))
    | ((first | apply awR hΓ | apply awG | apply awH mixedOK hΓ rfl (by kernel_rfl) | apply ovE rfl); (simp (disch := omega) only [go_sem, ↓reduceIte, dk, ↓lk, Int.reduceBEq, Int.reduceBNe, Bool.true_bne, Bool.false_bne, Bool.not_true, Bool.not_false, h1] <;> with_reducible rfl); exact trivial)
    | rfl)
  refine awp_loop_at (X := Nat) (fun i => (frame 26 [(0, .data (.list (a.map eTk))), (1, .data (.list (b.map eTk))), (12, .data (i64 a.length)), (13, .data (i64 i))])) (fun _ => []) 12
    (fun i => i ≤ a.length ∧ a.take i = b.take i) (fun i => a.length - i) 0 ⟨Nat.zero_le _, rfl⟩ (Weak.w) ?_
  rintro i ⟨hi, hpre⟩
  (try dsimp only at hi hpre ⊢)
  by_cases hi2 : i < a.length
  · have hi3 : i < b.length := by omega
    have hdf := list_diff hi2 hi3
    have hnx : a[i] = b[i] → a.take (i + 1) = b.take (i + 1) := fun h => by
      rw [List.take_add_one, List.take_add_one, hpre, List.getElem?_eq_getElem hi2, List.getElem?_eq_getElem hi3, h]
    generalize hy : a[i] = y at *
    generalize hz : b[i] = z at *
    obtain ⟨y1, y2⟩ := y
    obtain ⟨z1, z2⟩ := z
    by_cases he : ((y1, y2) : Tk) = (z1, z2)
    · have hq : ((y1 == z1) && (y2 == z2)) = true := by
        simp only [Prod.mk.injEq] at he
        simp [he.1, he.2]
      repeat (first
        | (apply axJ; (focus ((with_reducible constructor) <;> rfl)))
        | (apply awT mixedOK hΓ (by kernel_rfl); (simp (disch := omega) only [go_sem, ↓reduceIte, dk, ↓lk, Int.reduceBEq, Int.reduceBNe, Bool.true_bne, Bool.false_bne, Bool.not_true, Bool.not_false, hy, hz, eq_tok, hq] <;> with_reducible rfl))
        | ((first | apply awR hΓ | apply awG | apply awH mixedOK hΓ rfl (by kernel_rfl) | apply ovE rfl); (simp (disch := omega) only [go_sem, ↓reduceIte, dk, ↓lk, Int.reduceBEq, Int.reduceBNe, Bool.true_bne, Bool.false_bne, Bool.not_true, Bool.not_false, hy, hz, eq_tok, hq] <;> with_reducible rfl); exact trivial)
        | rfl)
      exact ⟨i + 1, ⟨by omega, hnx he⟩, by omega, Weak.w⟩
    · have hq : ((y1 == z1) && (y2 == z2)) = false := by
        rw [Bool.eq_false_iff]
        intro h
        simp only [Bool.and_eq_true, beq_iff_eq] at h
        exact he (by rw [h.1, h.2])
      have hab : decide (a = b) = false := decide_eq_false (hdf he)
      rw [hab]
      repeat (first
        | (apply axJ; (focus ((with_reducible constructor) <;> rfl)))
        | (apply awT mixedOK hΓ (by kernel_rfl); (simp (disch := omega) only [go_sem, ↓reduceIte, dk, ↓lk, Int.reduceBEq, Int.reduceBNe, Bool.true_bne, Bool.false_bne, Bool.not_true, Bool.not_false, hy, hz, eq_tok, hq] <;> with_reducible rfl))
        | ((first | apply awR hΓ | apply awG | apply awH mixedOK hΓ rfl (by kernel_rfl) | apply ovE rfl); (simp (disch := omega) only [go_sem, ↓reduceIte, dk, ↓lk, Int.reduceBEq, Int.reduceBNe, Bool.true_bne, Bool.false_bne, Bool.not_true, Bool.not_false, hy, hz, eq_tok, hq] <;> with_reducible rfl); exact trivial)
        | rfl)
      try rfl
  have hi3 : i = a.length := by omega
  subst hi3
  rw [List.take_length, List.take_of_length_le (by omega)] at hpre
  rw [decide_eq_true hpre]
  repeat (first
    | (apply axJ; (focus ((with_reducible constructor) <;> rfl)))
    | (apply awT mixedOK hΓ (by kernel_rfl); (simp (disch := omega) only [go_sem, ↓reduceIte, dk, ↓lk, Int.reduceBEq, Int.reduceBNe, Bool.true_bne, Bool.false_bne, Bool.not_true, Bool.not_false] <;> with_reducible rfl))
    | ((first | apply awR hΓ | apply awG | apply awH mixedOK hΓ rfl (by kernel_rfl) | apply ovE rfl); (simp (disch := omega) only [go_sem, ↓reduceIte, dk, ↓lk, Int.reduceBEq, Int.reduceBNe, Bool.true_bne, Bool.false_bne, Bool.not_true, Bool.not_false] <;> with_reducible rfl); exact trivial)
    | rfl)
  try rfl
end Go.Ab
namespace Go.Ab
open Go Go.RowKit Go.Proofs Go.Shelf
set_option maxRecDepth 10000
set_option maxHeartbeats 16000000
theorem wrapU8 {n : Int} (h : 0 ≤ n) (h' : n < 256) : IntKind.wrap .u8 n = n := by show n % 256 = n; omega
theorem wrapU64 {n : Int} (h : 0 ≤ n) (h' : n < 18446744073709551616) : IntKind.wrap .u64 n = n := by show n % 18446744073709551616 = n; omega
theorem wrapU32 {n : Int} (h : 0 ≤ n) (h' : n < 4294967296) : IntKind.wrap .u32 n = n := by show n % 4294967296 = n; omega
def numRGo : Int → Bool → Bs → Int × Int
  | n, l, [] => if l then (0, 3) else (n, 0)
  | n, l, c :: r => if digI c.toNat then (if decide (10 * n + ((c.toNat : Int) - 48) > 4294967295) then numRGo 4294967296 true r else numRGo (10 * n + ((c.toNat : Int) - 48)) l r) else (0, 4)
theorem numRGo_bad : ∀ (r : Bs) (n : Int) (l : Bool), (∃ c ∈ r, digI c.toNat = false) → numRGo n l r = (0, 4)
  | [], _, _, h => by obtain ⟨c, hc, _⟩ := h; cases hc
  | c :: r, n, l, h => by
    rw [numRGo]
    cases hc : digI c.toNat
    · rfl
    · have h2 : ∃ c ∈ r, digI c.toNat = false := by
        obtain ⟨d, hd, hq⟩ := h
        rcases List.mem_cons.1 hd with rfl | hd
        · rw [hc] at hq; cases hq
        · exact ⟨d, hd, hq⟩
      rw [if_pos rfl, numRGo_bad r _ _ h2, numRGo_bad r _ _ h2]
      split <;> rfl
theorem dig_ge {c : UInt8} (h : digI c.toNat = true) : 48 ≤ (c.toNat : Int) ∧ (c.toNat : Int) ≤ 57 := by
  unfold digI at h
  simp only [Bool.and_eq_true, decide_eq_true_eq] at h
  exact h
theorem numRGo_large : ∀ (r : Bs), (∀ c ∈ r, digI c.toNat = true) → numRGo 4294967296 true r = (0, 3)
  | [], _ => rfl
  | c :: r, h => by
    have := dig_ge (h c (by simp))
    rw [numRGo, h c (by simp), if_pos rfl, if_pos (by simp only [decide_eq_true_eq]; omega)]
    exact numRGo_large r fun x hx => h x (by simp [hx])
theorem numRGo_ok : ∀ (r : Bs) (n : Int), (∀ c ∈ r, digI c.toNat = true) → numRGo n false r = numGo n r
  | [], _, _ => rfl
  | c :: r, n, h => by
    rw [numRGo, h c (by simp), if_pos rfl, numGo]
    split
    · exact numRGo_large r fun x hx => h x (by simp [hx])
    · exact numRGo_ok r _ fun x hx => h x (by simp [hx])
theorem numR_eq (s : Bs) : (if s == [] || (decide ((s.length : Int) > 1) && s.headD 0 == 48) then ((0, 4) : Int × Int) else numRGo 0 false s) = numE s := by
  unfold numE
  by_cases hr : runI s false = s.length
  · have hd : ∀ c ∈ s, digI c.toNat = true := fun c hc => by
      have := (runI_all s false).1 hr
      rw [List.any_eq_false] at this
      have := this c hc
      unfold runQ at this
      simp only [Bool.false_and, Bool.not_false, Bool.and_true, Bool.not_eq_true, Bool.not_eq_false'] at this
      exact this
    rw [decide_eq_true hr, numRGo_ok s 0 hd]
    simp
  · have hb : ∃ c ∈ s, digI c.toNat = false := by
      have h1 : s.any (fun b => runQ false b.toNat) = true := by
        cases h2 : s.any (fun b => runQ false b.toNat) with
        | true => rfl
        | false => exact absurd ((runI_all s false).2 h2) hr
      rw [List.any_eq_true] at h1
      obtain ⟨c, hc, hq⟩ := h1
      refine ⟨c, hc, ?_⟩
      unfold runQ at hq
      simpa using hq
    rw [decide_eq_false hr, numRGo_bad s 0 false hb]
    simp
theorem numE_bd (s : Bs) : 0 ≤ (numE s).1 ∧ (numE s).1 ≤ 4294967295 := by
  have h : ∀ (r : Bs) (n : Int), 0 ≤ n → n ≤ 4294967295 → (∀ c ∈ r, digI c.toNat = true) → 0 ≤ (numGo n r).1 ∧ (numGo n r).1 ≤ 4294967295 := by
    intro r
    induction r with
    | nil => intro n h1 h2 _; exact ⟨h1, h2⟩
    | cons c r ih =>
      intro n h1 h2 h3
      have := dig_ge (h3 c (by simp))
      rw [numGo]
      split
      · exact ⟨by decide, by decide⟩
      · rename_i hq
        simp only [decide_eq_true_eq] at hq
        exact ih _ (by omega) (by omega) fun x hx => h3 x (by simp [hx])
  rw [← numR_eq]
  split
  · exact ⟨by decide, by decide⟩
  · by_cases hd : ∀ c ∈ s, digI c.toNat = true
    · rw [numRGo_ok s 0 hd]
      exact h s 0 (by decide) (by decide) hd
    · have : ∃ c ∈ s, digI c.toNat = false := by
        simp only [Classical.not_forall] at hd
        obtain ⟨c, hc, hq⟩ := hd
        exact ⟨c, hc, by simpa using hq⟩
      rw [numRGo_bad s 0 false this]
      exact ⟨by decide, by decide⟩
noncomputable def g_numR5 : List D → Option D := encSpec (fun x : Bs => [.str x]) (fun x : Bs => x.length ≤ 1099511627776) (fun x : Bs => .tup [.int .u32 (numE x).1, i64 (numE x).2])
theorem g_numR5_eq {s : Bs} (hd : s.length ≤ 1099511627776) : g_numR5 [.str s] = some (.tup [.int .u32 (numE s).1, i64 (numE s).2]) := encSpec_eq (x := s) hd fun y hy => by
    simp only [List.cons.injEq, and_true, true_and, D.str.injEq, D.int.injEq, D.list.injEq, D.bool.injEq, D.agg.injEq, D.clo.injEq, Int.natCast_inj, inj_ie, D.ref.injEq, eTk_ie, eTk_e] at hy
    rw [hy]
theorem f_numR5_ok : PureOK Tryz.prog 77 true g_numR5 := by
  have hΓ := Γp f_digR_ok (Γn)
  refine pure_enc (n := 43) (rs := [.tmp 2, .tmp 3]) Tryz.func77 (by kernel_rfl) rfl (by kernel_rfl) (by kernel_rfl) ?_
  rintro s hd
  (try dsimp only at hd ⊢)
  refine ⟨fun _ => by (refine .tup _ (fun d hd => ?_); simp only [List.mem_cons, List.not_mem_nil, or_false] at hd; repeat (first | exact .int _ _ | exact .bool _ | exact .str _ | (rcases hd with rfl | hd) | subst hd | (refine .agg _ (fun d hd => ?_); simp only [List.mem_cons, List.not_mem_nil, or_false] at hd))), fun k hz0 => ?_⟩
  rw [← numR_eq]
  have hbd := numE_bd s
  rw [← numR_eq] at hbd
  rcases hs : s with _ | ⟨c, r⟩
  · rw [start_frame (by simp)]; simp only [enumV, go_sem, emptyH]
    repeat (first
      | (apply axJ; (focus ((with_reducible constructor) <;> rfl)))
      | (apply awT mixedOK hΓ (by kernel_rfl); (simp (disch := omega) only [go_sem, ↓reduceIte, dk, ↓lk, Int.reduceBEq, Int.reduceBNe, Bool.true_bne, Bool.false_bne, Bool.not_true, Bool.not_false] <;> with_reducible rfl))
      | ((first | apply awR hΓ | apply awG | apply awH mixedOK hΓ rfl (by kernel_rfl) | apply ovE rfl); (simp (disch := omega) only [go_sem, ↓reduceIte, dk, ↓lk, Int.reduceBEq, Int.reduceBNe, Bool.true_bne, Bool.false_bne, Bool.not_true, Bool.not_false] <;> with_reducible rfl); exact trivial)
      | rfl)
    try rfl
  have hne : (s == []) = false := by rw [hs]; rfl
  have hhd : s.headD 0 = c := by rw [hs]; rfl
  have hb0 : ∀ h : 0 < s.length, s[0]'h = c := fun h => by subst hs; rfl
  have hlen : 0 < s.length := by rw [hs]; simp
  rw [← hs]
  rw [hne, hhd, Bool.false_or] at hbd ⊢
  clear hs
  have hb : (((c.toNat : Nat) : Int) == 48) = (c == 48) := byteEq c 48
  rw [start_frame (by simp)]; simp only [enumV, go_sem, emptyH]
  cases k1 : decide ((s.length : Int) > 1)
  · rw [k1] at hbd
    simp only [Bool.false_eq_true, Bool.false_and, if_false] at hbd ⊢
    repeat (first
      | (apply axJ; (focus ((with_reducible constructor) <;> rfl)))
      | (apply awT mixedOK hΓ (by kernel_rfl); (simp (disch := omega) only [go_sem, ↓reduceIte, dk, ↓lk, Int.reduceBEq, Int.reduceBNe, Bool.true_bne, Bool.false_bne, Bool.not_true, Bool.not_false, Int.reduceToNat, hne, k1, hb0, hb] <;> with_reducible rfl))
      | ((first | apply awR hΓ | apply awG | apply awH mixedOK hΓ rfl (by kernel_rfl) | apply ovE rfl); (simp (disch := omega) only [go_sem, ↓reduceIte, dk, ↓lk, Int.reduceBEq, Int.reduceBNe, Bool.true_bne, Bool.false_bne, Bool.not_true, Bool.not_false, Int.reduceToNat, hne, k1, hb0, hb] <;> with_reducible rfl); exact trivial)
      | rfl)
    refine awp_loop_at (X := Nat × Int × Bool) (fun y => (frame 43 [(0, .data (.str s)), (4, .data (.int .u64 y.2.1)), (5, .data (.bool y.2.2)), (6, .data (i64 y.1))])) (fun _ => []) 6
      (fun y => y.1 ≤ s.length ∧ numRGo 0 false s = numRGo y.2.1 y.2.2 (s.drop y.1) ∧ 0 ≤ y.2.1 ∧ y.2.1 ≤ 4294967296 ∧ (y.2.2 = false → y.2.1 ≤ 4294967295)) (fun y => s.length - y.1) (0, 0, false) ⟨Nat.zero_le _, rfl, by decide, by decide, fun _ => by decide⟩ (Weak.w) ?_
    rintro ⟨i, n, l⟩ ⟨hi, hpre, hn1, hn2, hn3⟩
    (try dsimp only at hi hpre hn1 hn2 hn3 ⊢)
    by_cases hi2 : i < s.length
    · have hdr := List.drop_eq_getElem_cons hi2
      have e1 := g_digR_eq (c := (s[i].toNat : Int)) trivial
      have hge : digI (s[i].toNat : Int) = true → _ := fun h => dig_ge h
      rw [hdr, numRGo] at hpre
      generalize hy : s[i] = y at *
      cases hq : digI (y.toNat : Int)
      · rw [hq] at hpre e1
        simp only [Bool.false_eq_true, if_false] at hpre
        rw [hpre]
        repeat (first
          | (apply axJ; (focus ((with_reducible constructor) <;> rfl)))
          | (apply awT mixedOK hΓ (by kernel_rfl); (simp (disch := omega) only [go_sem, ↓reduceIte, dk, ↓lk, Int.reduceBEq, Int.reduceBNe, Bool.true_bne, Bool.false_bne, Bool.not_true, Bool.not_false, hy, e1] <;> with_reducible rfl))
          | ((first | apply awR hΓ | apply awG | apply awH mixedOK hΓ rfl (by kernel_rfl) | apply ovE rfl); (simp (disch := omega) only [go_sem, ↓reduceIte, dk, ↓lk, Int.reduceBEq, Int.reduceBNe, Bool.true_bne, Bool.false_bne, Bool.not_true, Bool.not_false, hy, e1] <;> with_reducible rfl); exact trivial)
          | rfl)
        try rfl
      · rw [hq] at hpre e1
        obtain ⟨g1, g2⟩ := hge hq
        have w1 := wrapU8 (n := (y.toNat : Int) - 48) (by omega) (by omega)
        have w2 := wrapU64 (n := (y.toNat : Int) - 48) (by omega) (by omega)
        have w3 := wrapU64 (n := 10 * n) (by omega) (by omega)
        have w4 := wrapU64 (n := 10 * n + ((y.toNat : Int) - 48)) (by omega) (by omega)
        simp only [if_true] at hpre
        cases hg : decide (10 * n + ((y.toNat : Int) - 48) > 4294967295)
        · rw [hg] at hpre
          simp only [Bool.false_eq_true, if_false] at hpre
          have hg2 := of_decide_eq_false hg
          repeat (first
            | (apply axJ; (focus ((with_reducible constructor) <;> rfl)))
            | (apply awT mixedOK hΓ (by kernel_rfl); (simp (disch := omega) only [go_sem, ↓reduceIte, dk, ↓lk, Int.reduceBEq, Int.reduceBNe, Bool.true_bne, Bool.false_bne, Bool.not_true, Bool.not_false, hy, e1, w1, w2, w3, w4, hg] <;> with_reducible rfl))
            | ((first | apply awR hΓ | apply awG | apply awH mixedOK hΓ rfl (by kernel_rfl) | apply ovE rfl); (simp (disch := omega) only [go_sem, ↓reduceIte, dk, ↓lk, Int.reduceBEq, Int.reduceBNe, Bool.true_bne, Bool.false_bne, Bool.not_true, Bool.not_false, hy, e1, w1, w2, w3, w4, hg] <;> with_reducible rfl); exact trivial)
            | rfl)
          exact ⟨(i + 1, 10 * n + ((y.toNat : Int) - 48), l), ⟨by dsimp only; omega, hpre, by dsimp only; omega, by dsimp only; omega, fun _ => by dsimp only; omega⟩, by dsimp only; omega, Weak.w⟩
        · rw [hg] at hpre
          simp only [if_true] at hpre
          repeat (first
            | (apply axJ; (focus ((with_reducible constructor) <;> rfl)))
            | (apply awT mixedOK hΓ (by kernel_rfl); (simp (disch := omega) only [go_sem, ↓reduceIte, dk, ↓lk, Int.reduceBEq, Int.reduceBNe, Bool.true_bne, Bool.false_bne, Bool.not_true, Bool.not_false, hy, e1, w1, w2, w3, w4, hg] <;> with_reducible rfl))
            | ((first | apply awR hΓ | apply awG | apply awH mixedOK hΓ rfl (by kernel_rfl) | apply ovE rfl); (simp (disch := omega) only [go_sem, ↓reduceIte, dk, ↓lk, Int.reduceBEq, Int.reduceBNe, Bool.true_bne, Bool.false_bne, Bool.not_true, Bool.not_false, hy, e1, w1, w2, w3, w4, hg] <;> with_reducible rfl); exact trivial)
            | rfl)
          exact ⟨(i + 1, 4294967296, true), ⟨by dsimp only; omega, hpre, by dsimp only; omega, by dsimp only; omega, fun h => by cases h⟩, by dsimp only; omega, Weak.w⟩
    · have hi3 : i = s.length := by omega
      subst hi3
      rw [List.drop_length, numRGo] at hpre
      cases l
      · simp only [Bool.false_eq_true, if_false] at hpre
        rw [hpre]
        have w1 := wrapU32 (n := n) hn1 (by have := hn3 rfl; omega)
        repeat (first
          | (apply axJ; (focus ((with_reducible constructor) <;> rfl)))
          | (apply awT mixedOK hΓ (by kernel_rfl); (simp (disch := omega) only [go_sem, ↓reduceIte, dk, ↓lk, Int.reduceBEq, Int.reduceBNe, Bool.true_bne, Bool.false_bne, Bool.not_true, Bool.not_false, w1] <;> with_reducible rfl))
          | ((first | apply awR hΓ | apply awG | apply awH mixedOK hΓ rfl (by kernel_rfl) | apply ovE rfl); (simp (disch := omega) only [go_sem, ↓reduceIte, dk, ↓lk, Int.reduceBEq, Int.reduceBNe, Bool.true_bne, Bool.false_bne, Bool.not_true, Bool.not_false, w1] <;> with_reducible rfl); exact trivial)
          | rfl)
        try rfl
      · simp only [if_true] at hpre
        rw [hpre]
        repeat (first
          | (apply axJ; (focus ((with_reducible constructor) <;> rfl)))
          | (apply awT mixedOK hΓ (by kernel_rfl); (simp (disch := omega) only [go_sem, ↓reduceIte, dk, ↓lk, Int.reduceBEq, Int.reduceBNe, Bool.true_bne, Bool.false_bne, Bool.not_true, Bool.not_false] <;> with_reducible rfl))
          | ((first | apply awR hΓ | apply awG | apply awH mixedOK hΓ rfl (by kernel_rfl) | apply ovE rfl); (simp (disch := omega) only [go_sem, ↓reduceIte, dk, ↓lk, Int.reduceBEq, Int.reduceBNe, Bool.true_bne, Bool.false_bne, Bool.not_true, Bool.not_false] <;> with_reducible rfl); exact trivial)
          | rfl)
        try rfl
  cases k2 : (c == 48)
  · rw [k1, k2] at hbd
    rw [k2] at hb
    simp only [Bool.false_eq_true, Bool.and_false, if_false] at hbd ⊢
    repeat (first
      | (apply axJ; (focus ((with_reducible constructor) <;> rfl)))
      | (apply awT mixedOK hΓ (by kernel_rfl); (simp (disch := omega) only [go_sem, ↓reduceIte, dk, ↓lk, Int.reduceBEq, Int.reduceBNe, Bool.true_bne, Bool.false_bne, Bool.not_true, Bool.not_false, Int.reduceToNat, hne, k1, hb0, hb] <;> with_reducible rfl))
      | ((first | apply awR hΓ | apply awG | apply awH mixedOK hΓ rfl (by kernel_rfl) | apply ovE rfl); (simp (disch := omega) only [go_sem, ↓reduceIte, dk, ↓lk, Int.reduceBEq, Int.reduceBNe, Bool.true_bne, Bool.false_bne, Bool.not_true, Bool.not_false, Int.reduceToNat, hne, k1, hb0, hb] <;> with_reducible rfl); exact trivial)
      | rfl)
    refine awp_loop_at (X := Nat × Int × Bool) (fun y => (frame 43 [(0, .data (.str s)), (4, .data (.int .u64 y.2.1)), (5, .data (.bool y.2.2)), (6, .data (i64 y.1))])) (fun _ => []) 6
      (fun y => y.1 ≤ s.length ∧ numRGo 0 false s = numRGo y.2.1 y.2.2 (s.drop y.1) ∧ 0 ≤ y.2.1 ∧ y.2.1 ≤ 4294967296 ∧ (y.2.2 = false → y.2.1 ≤ 4294967295)) (fun y => s.length - y.1) (0, 0, false) ⟨Nat.zero_le _, rfl, by decide, by decide, fun _ => by decide⟩ (Weak.w) ?_
    rintro ⟨i, n, l⟩ ⟨hi, hpre, hn1, hn2, hn3⟩
    (try dsimp only at hi hpre hn1 hn2 hn3 ⊢)
    by_cases hi2 : i < s.length
    · have hdr := List.drop_eq_getElem_cons hi2
      have e1 := g_digR_eq (c := (s[i].toNat : Int)) trivial
      have hge : digI (s[i].toNat : Int) = true → _ := fun h => dig_ge h
      rw [hdr, numRGo] at hpre
      generalize hy : s[i] = y at *
      cases hq : digI (y.toNat : Int)
      · rw [hq] at hpre e1
        simp only [Bool.false_eq_true, if_false] at hpre
        rw [hpre]
        repeat (first
          | (apply axJ; (focus ((with_reducible constructor) <;> rfl)))
          | (apply awT mixedOK hΓ (by kernel_rfl); (simp (disch := omega) only [go_sem, ↓reduceIte, dk, ↓lk, Int.reduceBEq, Int.reduceBNe, Bool.true_bne, Bool.false_bne, Bool.not_true, Bool.not_false, hy, e1] <;> with_reducible rfl))
          | ((first | apply awR hΓ | apply awG | apply awH mixedOK hΓ rfl (by kernel_rfl) | apply ovE rfl); (simp (disch := omega) only [go_sem, ↓reduceIte, dk, ↓lk, Int.reduceBEq, Int.reduceBNe, Bool.true_bne, Bool.false_bne, Bool.not_true, Bool.not_false, hy, e1] <;> with_reducible rfl); exact trivial)
          | rfl)
        try rfl
      · rw [hq] at hpre e1
        obtain ⟨g1, g2⟩ := hge hq
        have w1 := wrapU8 (n := (y.toNat : Int) - 48) (by omega) (by omega)
        have w2 := wrapU64 (n := (y.toNat : Int) - 48) (by omega) (by omega)
        have w3 := wrapU64 (n := 10 * n) (by omega) (by omega)
        have w4 := wrapU64 (n := 10 * n + ((y.toNat : Int) - 48)) (by omega) (by omega)
        simp only [if_true] at hpre
        cases hg : decide (10 * n + ((y.toNat : Int) - 48) > 4294967295)
        · rw [hg] at hpre
          simp only [Bool.false_eq_true, if_false] at hpre
          have hg2 := of_decide_eq_false hg
          repeat (first
            | (apply axJ; (focus ((with_reducible constructor) <;> rfl)))
            | (apply awT mixedOK hΓ (by kernel_rfl); (simp (disch := omega) only [go_sem, ↓reduceIte, dk, ↓lk, Int.reduceBEq, Int.reduceBNe, Bool.true_bne, Bool.false_bne, Bool.not_true, Bool.not_false, hy, e1, w1, w2, w3, w4, hg] <;> with_reducible rfl))
            | ((first | apply awR hΓ | apply awG | apply awH mixedOK hΓ rfl (by kernel_rfl) | apply ovE rfl); (simp (disch := omega) only [go_sem, ↓reduceIte, dk, ↓lk, Int.reduceBEq, Int.reduceBNe, Bool.true_bne, Bool.false_bne, Bool.not_true, Bool.not_false, hy, e1, w1, w2, w3, w4, hg] <;> with_reducible rfl); exact trivial)
            | rfl)
          exact ⟨(i + 1, 10 * n + ((y.toNat : Int) - 48), l), ⟨by dsimp only; omega, hpre, by dsimp only; omega, by dsimp only; omega, fun _ => by dsimp only; omega⟩, by dsimp only; omega, Weak.w⟩
        · rw [hg] at hpre
          simp only [if_true] at hpre
          repeat (first
            | (apply axJ; (focus ((with_reducible constructor) <;> rfl)))
            | (apply awT mixedOK hΓ (by kernel_rfl); (simp (disch := omega) only [go_sem, ↓reduceIte, dk, ↓lk, Int.reduceBEq, Int.reduceBNe, Bool.true_bne, Bool.false_bne, Bool.not_true, Bool.not_false, hy, e1, w1, w2, w3, w4, hg] <;> with_reducible rfl))
            | ((first | apply awR hΓ | apply awG | apply awH mixedOK hΓ rfl (by kernel_rfl) | apply ovE rfl); (simp (disch := omega) only [go_sem, ↓reduceIte, dk, ↓lk, Int.reduceBEq, Int.reduceBNe, Bool.true_bne, Bool.false_bne, Bool.not_true, Bool.not_false, hy, e1, w1, w2, w3, w4, hg] <;> with_reducible rfl); exact trivial)
            | rfl)
          exact ⟨(i + 1, 4294967296, true), ⟨by dsimp only; omega, hpre, by dsimp only; omega, by dsimp only; omega, fun h => by cases h⟩, by dsimp only; omega, Weak.w⟩
    · have hi3 : i = s.length := by omega
      subst hi3
      rw [List.drop_length, numRGo] at hpre
      cases l
      · simp only [Bool.false_eq_true, if_false] at hpre
        rw [hpre]
        have w1 := wrapU32 (n := n) hn1 (by have := hn3 rfl; omega)
        repeat (first
          | (apply axJ; (focus ((with_reducible constructor) <;> rfl)))
          | (apply awT mixedOK hΓ (by kernel_rfl); (simp (disch := omega) only [go_sem, ↓reduceIte, dk, ↓lk, Int.reduceBEq, Int.reduceBNe, Bool.true_bne, Bool.false_bne, Bool.not_true, Bool.not_false, w1] <;> with_reducible rfl))
          | ((first | apply awR hΓ | apply awG | apply awH mixedOK hΓ rfl (by kernel_rfl) | apply ovE rfl); (simp (disch := omega) only [go_sem, ↓reduceIte, dk, ↓lk, Int.reduceBEq, Int.reduceBNe, Bool.true_bne, Bool.false_bne, Bool.not_true, Bool.not_false, w1] <;> with_reducible rfl); exact trivial)
          | rfl)
        try rfl
      · simp only [if_true] at hpre
        rw [hpre]
        repeat (first
          | (apply axJ; (focus ((with_reducible constructor) <;> rfl)))
          | (apply awT mixedOK hΓ (by kernel_rfl); (simp (disch := omega) only [go_sem, ↓reduceIte, dk, ↓lk, Int.reduceBEq, Int.reduceBNe, Bool.true_bne, Bool.false_bne, Bool.not_true, Bool.not_false] <;> with_reducible rfl))
          | ((first | apply awR hΓ | apply awG | apply awH mixedOK hΓ rfl (by kernel_rfl) | apply ovE rfl); (simp (disch := omega) only [go_sem, ↓reduceIte, dk, ↓lk, Int.reduceBEq, Int.reduceBNe, Bool.true_bne, Bool.false_bne, Bool.not_true, Bool.not_false] <;> with_reducible rfl); exact trivial)
          | rfl)
        try rfl
  · rw [k2] at hb
    repeat (first
      | (apply axJ; (focus ((with_reducible constructor) <;> rfl)))
      | (apply awT mixedOK hΓ (by kernel_rfl); (simp (disch := omega) only [go_sem, ↓reduceIte, dk, ↓lk, Int.reduceBEq, Int.reduceBNe, Bool.true_bne, Bool.false_bne, Bool.not_true, Bool.not_false, Int.reduceToNat, hne, k1, hb0, hb] <;> with_reducible rfl))
      | ((first | apply awR hΓ | apply awG | apply awH mixedOK hΓ rfl (by kernel_rfl) | apply ovE rfl); (simp (disch := omega) only [go_sem, ↓reduceIte, dk, ↓lk, Int.reduceBEq, Int.reduceBNe, Bool.true_bne, Bool.false_bne, Bool.not_true, Bool.not_false, Int.reduceToNat, hne, k1, hb0, hb] <;> with_reducible rfl); exact trivial)
      | rfl)
    try rfl
end Go.Ab
