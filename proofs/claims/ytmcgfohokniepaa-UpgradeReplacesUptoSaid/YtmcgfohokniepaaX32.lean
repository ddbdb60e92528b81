/-
  One text of the proof (own work): contracts of functions of the program, by the abstract machine.
-/
import Derived.Test.YtmcgfohokniepaaX25
import Derived.Test.YtmcgfohokniepaaX31
set_option linter.unusedVariables false
set_option linter.unusedSimpArgs false
namespace Go.Ab
open Go Go.RowKit Go.Proofs
set_option maxRecDepth 4000
set_option maxHeartbeats 4000000
structure Now where
  q : List UInt8
  s : List UInt8
  d : List UInt8
  deriving DecidableEq
@[go_sem] def eN (x : Now) : D := .agg [.str x.q, .str x.s, .str x.d]
theorem eN_inj (a b : Now) (h : eN a = eN b) : a = b := by
  cases a; cases b
  simp only [eN, D.agg.injEq, List.cons.injEq, D.str.injEq, and_true] at h
  simp [h]
theorem map_inj {α : Type} {e : α → D} (he : ∀ a b, e a = e b → a = b) {l m : List α} (h : l.map e = m.map e) : l = m := List.map_inj_right he |>.1 h
def bl (a b : List UInt8) : Bool := Op.bytesLess a b
noncomputable def g88 : List D → Option D := encSpec (fun s : List UInt8 => [.str s]) (fun _ => True) (fun _ => .bool false)
theorem g88_eq (s : List UInt8) : g88 [.str s] = some (.bool false) := encSpec_eq (x := s) trivial fun y hy => rfl
theorem f88_ok : PureOK Try.prog 88 true g88 := by
  have hΓ := Γ0_ok
  refine pure_enc (n := 6) (rs := [.tmp 2]) Try.func88 (by kernel_rfl) rfl (by kernel_rfl) (by kernel_rfl) ?_
  intro s hs
  refine ⟨fun _ => .bool _, fun k hz0 => ?_⟩
  rw [start_frame (by simp)]; simp only [enumV, go_sem, emptyH]
  repeat (first
    | (apply axJ; (focus ((with_reducible constructor) <;> rfl)))
    | (apply awT mixedOK hΓ (by kernel_rfl); (simp (disch := omega) only [go_sem, ↓reduceIte, dk] <;> with_reducible rfl))
    | ((first | apply awR hΓ | apply awG | apply awH mixedOK hΓ rfl (by kernel_rfl) | apply ovE rfl); (simp (disch := omega) only [go_sem, ↓reduceIte, dk] <;> with_reducible rfl); exact trivial)
    | rfl)
def cmpS (a b : List UInt8) : Int := if bl a b then -1 else if a == b then 0 else 1
noncomputable def g64 : List D → Option D := encSpec (fun x : List UInt8 × List UInt8 => [.str x.1, .str x.2]) (fun _ => True) (fun x => i64 (cmpS x.1 x.2))
theorem g64_eq (a b : List UInt8) : g64 [.str a, .str b] = some (.int .i64 (cmpS a b)) := encSpec_eq (x := (a, b)) trivial fun y hy => by
  obtain ⟨y1, y2⟩ := y
  simp only [List.cons.injEq, and_true, D.str.injEq] at hy
  rw [hy.1, hy.2]
noncomputable def Γ64 : FuncId → Option CSpec := fun f => if f = 88 then some (.pure true (g88)) else none
theorem Γ64_ok : ∀ f s, Γ64 f = some s → SpecOK Try.prog f s := by
  intro f s h
  unfold Γ64 at h
  split at h
  · rename_i hf; cases h; subst hf; exact f88_ok
  · cases h
theorem f64_ok : PureOK Try.prog 64 true g64 := by
  have hΓ := Γ64_ok
  refine pure_enc (n := 20) (rs := [.tmp 4]) Try.func64 (by kernel_rfl) rfl (by kernel_rfl) (by kernel_rfl) ?_
  rintro ⟨a, b⟩ hs
  refine ⟨fun _ => .int _ _, fun k hz0 => ?_⟩
  have e1 := g88_eq a
  have e2 := g88_eq b
  unfold cmpS bl
  rw [start_frame (by simp)]; simp only [enumV, go_sem, emptyH]
  cases h1 : Op.bytesLess a b
  · cases h2 : (a == b)
    · repeat (first
      | (apply axJ; (focus ((with_reducible constructor) <;> rfl)))
      | (apply awT mixedOK hΓ (by kernel_rfl); (simp (disch := omega) only [go_sem, ↓reduceIte, dk, Γ64, e1, e2, h1, h2] <;> with_reducible rfl))
      | ((first | apply awR hΓ | apply awG | apply awH mixedOK hΓ rfl (by kernel_rfl) | apply ovE rfl); (simp (disch := omega) only [go_sem, ↓reduceIte, dk, Γ64, e1, e2, h1, h2] <;> with_reducible rfl); exact trivial)
      | rfl)
    · repeat (first
      | (apply axJ; (focus ((with_reducible constructor) <;> rfl)))
      | (apply awT mixedOK hΓ (by kernel_rfl); (simp (disch := omega) only [go_sem, ↓reduceIte, dk, Γ64, e1, e2, h1, h2] <;> with_reducible rfl))
      | ((first | apply awR hΓ | apply awG | apply awH mixedOK hΓ rfl (by kernel_rfl) | apply ovE rfl); (simp (disch := omega) only [go_sem, ↓reduceIte, dk, Γ64, e1, e2, h1, h2] <;> with_reducible rfl); exact trivial)
      | rfl)
  · repeat (first
    | (apply axJ; (focus ((with_reducible constructor) <;> rfl)))
    | (apply awT mixedOK hΓ (by kernel_rfl); (simp (disch := omega) only [go_sem, ↓reduceIte, dk, Γ64, e1, e2, h1] <;> with_reducible rfl))
    | ((first | apply awR hΓ | apply awG | apply awH mixedOK hΓ rfl (by kernel_rfl) | apply ovE rfl); (simp (disch := omega) only [go_sem, ↓reduceIte, dk, Γ64, e1, e2, h1] <;> with_reducible rfl); exact trivial)
    | rfl)
def or2 (a b : Int) : Int := if a != 0 then a else b
noncomputable def g63 : List D → Option D := encSpec (fun x : Int × Int => [.list [i64 x.1, i64 x.2]]) (fun _ => True) (fun x => i64 (or2 x.1 x.2))
theorem g63_eq (a b : Int) : g63 [.list [.int .i64 a, .int .i64 b]] = some (.int .i64 (or2 a b)) := encSpec_eq (x := (a, b)) trivial fun y hy => by
  obtain ⟨y1, y2⟩ := y
  simp only [List.cons.injEq, and_true, D.list.injEq] at hy
  rw [i64_inj _ _ hy.1, i64_inj _ _ hy.2]
theorem f63_ok : PureOK Try.prog 63 true g63 := by
  have hΓ := Γ0_ok
  refine pure_enc (n := 18) (rs := [.tmp 2]) Try.func63 (by kernel_rfl) rfl (by kernel_rfl) (by kernel_rfl) ?_
  rintro ⟨a, b⟩ hs
  refine ⟨fun _ => .int _ _, fun k hz0 => ?_⟩
  dsimp only
  rw [start_frame (by simp)]; simp only [enumV, go_sem, emptyH]
  repeat (first
    | (apply axJ; (focus ((with_reducible constructor) <;> rfl)))
    | (apply awT mixedOK hΓ (by kernel_rfl); (simp (disch := omega) only [go_sem, ↓reduceIte, dk] <;> with_reducible rfl))
    | ((first | apply awR hΓ | apply awG | apply awH mixedOK hΓ rfl (by kernel_rfl) | apply ovE rfl); (simp (disch := omega) only [go_sem, ↓reduceIte, dk] <;> with_reducible rfl); exact trivial)
    | rfl)
  refine awp_loop_at (X := Nat) (fun i => (frame 18 [(3, .data (i64 0)), (6, .data (.list [i64 a, i64 b])), (7, .data (i64 2)), (8, .data (i64 i))])) (fun _ => []) 0
    (fun i => i ≤ 2 ∧ (i = 1 → a = 0) ∧ (i = 2 → a = 0 ∧ b = 0)) (fun i => 2 - i) 0 ⟨by omega, by omega, by omega⟩ (Weak.w) ?_
  rintro i ⟨hi, h1, h2⟩
  have t0 : (0 : Int).toNat = 0 := rfl
  have t1 : (((1 : Nat) : Int)).toNat = 1 := rfl
  match i, hi, h1, h2 with
  | 0, _, _, _ =>
    by_cases ha : a = 0
    · have hn : (a != 0) = false := by simp [ha]
      repeat (first
        | (apply axJ; (focus ((with_reducible constructor) <;> rfl)))
        | (apply awT mixedOK hΓ (by kernel_rfl); (simp (disch := omega) only [go_sem, ↓reduceIte, dk, hn, t0, Int.toNat_natCast] <;> with_reducible rfl))
        | ((first | apply awR hΓ | apply awG | apply awH mixedOK hΓ rfl (by kernel_rfl) | apply ovE rfl); (simp (disch := omega) only [go_sem, ↓reduceIte, dk, hn, t0, Int.toNat_natCast] <;> with_reducible rfl); exact trivial)
        | rfl)
      exact ⟨1, ⟨by omega, by omega, by omega⟩, by omega, Weak.w⟩
    · have hn : (a != 0) = true := by simpa using ha
      repeat (first
        | (apply axJ; (focus ((with_reducible constructor) <;> rfl)))
        | (apply awT mixedOK hΓ (by kernel_rfl); (simp (disch := omega) only [go_sem, ↓reduceIte, dk, hn, t0, Int.toNat_natCast] <;> with_reducible rfl))
        | ((first | apply awR hΓ | apply awG | apply awH mixedOK hΓ rfl (by kernel_rfl) | apply ovE rfl); (simp (disch := omega) only [go_sem, ↓reduceIte, dk, hn, t0, Int.toNat_natCast] <;> with_reducible rfl); exact trivial)
        | rfl)
      simp [or2, ha]
  | 1, _, h1, _ =>
    have ha := h1 rfl
    by_cases hb : b = 0
    · have hn : (b != 0) = false := by simp [hb]
      repeat (first
        | (apply axJ; (focus ((with_reducible constructor) <;> rfl)))
        | (apply awT mixedOK hΓ (by kernel_rfl); (simp (disch := omega) only [go_sem, ↓reduceIte, dk, hn, t1, Int.toNat_natCast] <;> with_reducible rfl))
        | ((first | apply awR hΓ | apply awG | apply awH mixedOK hΓ rfl (by kernel_rfl) | apply ovE rfl); (simp (disch := omega) only [go_sem, ↓reduceIte, dk, hn, t1, Int.toNat_natCast] <;> with_reducible rfl); exact trivial)
        | rfl)
      exact ⟨2, ⟨by omega, by omega, by omega⟩, by omega, Weak.w⟩
    · have hn : (b != 0) = true := by simpa using hb
      repeat (first
        | (apply axJ; (focus ((with_reducible constructor) <;> rfl)))
        | (apply awT mixedOK hΓ (by kernel_rfl); (simp (disch := omega) only [go_sem, ↓reduceIte, dk, hn, t1, Int.toNat_natCast] <;> with_reducible rfl))
        | ((first | apply awR hΓ | apply awG | apply awH mixedOK hΓ rfl (by kernel_rfl) | apply ovE rfl); (simp (disch := omega) only [go_sem, ↓reduceIte, dk, hn, t1, Int.toNat_natCast] <;> with_reducible rfl); exact trivial)
        | rfl)
      simp [or2, ha]
  | 2, _, _, h2 =>
    obtain ⟨ha, hb⟩ := h2 rfl
    repeat (first
      | (apply axJ; (focus ((with_reducible constructor) <;> rfl)))
      | (apply awT mixedOK hΓ (by kernel_rfl); (simp (disch := omega) only [go_sem, ↓reduceIte, dk] <;> with_reducible rfl))
      | ((first | apply awR hΓ | apply awG | apply awH mixedOK hΓ rfl (by kernel_rfl) | apply ovE rfl); (simp (disch := omega) only [go_sem, ↓reduceIte, dk] <;> with_reducible rfl); exact trivial)
      | rfl)
    simp [or2, ha, hb]
def nOrd (a b : Now) : Int := or2 (cmpS a.q b.q) (cmpS a.s b.s)
def nLt (a b : Now) : Bool := bl a.q b.q || ((a.q == b.q) && bl a.s b.s)
theorem nOrd_ge (a b : Now) : decide (nOrd a b ≥ 0) = !(nLt a b) := by
  simp only [nOrd, nLt, or2, cmpS]
  rcases Bool.eq_false_or_eq_true (bl a.q b.q) with h1 | h1 <;> rcases Bool.eq_false_or_eq_true (a.q == b.q) with h2 | h2 <;> rcases Bool.eq_false_or_eq_true (bl a.s b.s) with h3 | h3 <;> rcases Bool.eq_false_or_eq_true (a.s == b.s) with h4 | h4 <;> simp only [h1, h2, h3, h4] <;> decide
noncomputable def g42 : List D → Option D := encSpec (fun x : Now × Now => [eN x.1, eN x.2]) (fun _ => True) (fun x => i64 (nOrd x.1 x.2))
theorem g42_eq (a b : Now) : g42 [.agg [.str a.q, .str a.s, .str a.d], .agg [.str b.q, .str b.s, .str b.d]] = some (.int .i64 (nOrd a b)) := encSpec_eq (x := (a, b)) trivial fun y hy => by
  obtain ⟨y1, y2⟩ := y
  simp only [List.cons.injEq, and_true] at hy
  rw [eN_inj _ _ hy.1, eN_inj _ _ hy.2]
noncomputable def Γ42 : FuncId → Option CSpec := fun f => if f = 64 then some (.pure true (g64)) else if f = 63 then some (.pure true (g63)) else none
theorem Γ42_ok : ∀ f s, Γ42 f = some s → SpecOK Try.prog f s := by
  intro f s h
  unfold Γ42 at h
  split at h
  · rename_i hf; cases h; subst hf; exact f64_ok
  split at h
  · rename_i hf; cases h; subst hf; exact f63_ok
  · cases h
theorem f42_ok : PureOK Try.prog 42 true g42 := by
  have hΓ := Γ42_ok
  refine pure_enc (n := 17) (rs := [.tmp 4]) Try.func42 (by kernel_rfl) rfl (by kernel_rfl) (by kernel_rfl) ?_
  rintro ⟨a, b⟩ hs
  refine ⟨fun _ => .int _ _, fun k hz0 => ?_⟩
  have e1 := g64_eq a.q b.q
  have e2 := g64_eq a.s b.s
  have e3 := g63_eq (cmpS a.q b.q) (cmpS a.s b.s)
  rw [start_frame (by simp)]; simp only [enumV, go_sem, emptyH]
  repeat (first
    | (apply axJ; (focus ((with_reducible constructor) <;> rfl)))
    | (apply awT mixedOK hΓ (by kernel_rfl); (simp (disch := omega) only [go_sem, ↓reduceIte, ↓lk, dk, Γ42, e1, e2, e3] <;> with_reducible rfl))
    | ((first | apply awR hΓ | apply awG | apply awH mixedOK hΓ rfl (by kernel_rfl) | apply ovE rfl); (simp (disch := omega) only [go_sem, ↓reduceIte, ↓lk, dk, Γ42, e1, e2, e3] <;> with_reducible rfl); exact trivial)
    | rfl)
noncomputable def g43 : List D → Option D := encSpec (fun x : Now × Now => [eN x.1, eN x.2]) (fun _ => True) (fun x => .bool (nLt x.1 x.2))
theorem g43_eq (a b : Now) : g43 [.agg [.str a.q, .str a.s, .str a.d], .agg [.str b.q, .str b.s, .str b.d]] = some (.bool (nLt a b)) := encSpec_eq (x := (a, b)) trivial fun y hy => by
  obtain ⟨y1, y2⟩ := y
  simp only [List.cons.injEq, and_true] at hy
  rw [eN_inj _ _ hy.1, eN_inj _ _ hy.2]
theorem f43_ok : PureOK Try.prog 43 true g43 := by
  have hΓ := Γ0_ok
  refine pure_enc (n := 24) (rs := [.tmp 4]) Try.func43 (by kernel_rfl) rfl (by kernel_rfl) (by kernel_rfl) ?_
  rintro ⟨a, b⟩ hs
  refine ⟨fun _ => .bool _, fun k hz0 => ?_⟩
  unfold nLt bl
  rw [start_frame (by simp)]; simp only [enumV, go_sem, emptyH]
  cases h1 : Op.bytesLess a.q b.q
  · cases h2 : (a.q == b.q)
    · repeat (first
      | (apply axJ; (focus ((with_reducible constructor) <;> rfl)))
      | (apply awT mixedOK hΓ (by kernel_rfl); (simp (disch := omega) only [go_sem, ↓reduceIte, dk, h1, h2] <;> with_reducible rfl))
      | ((first | apply awR hΓ | apply awG | apply awH mixedOK hΓ rfl (by kernel_rfl) | apply ovE rfl); (simp (disch := omega) only [go_sem, ↓reduceIte, dk, h1, h2] <;> with_reducible rfl); exact trivial)
      | rfl)
    · repeat (first
      | (apply axJ; (focus ((with_reducible constructor) <;> rfl)))
      | (apply awT mixedOK hΓ (by kernel_rfl); (simp (disch := omega) only [go_sem, ↓reduceIte, dk, h1, h2] <;> with_reducible rfl))
      | ((first | apply awR hΓ | apply awG | apply awH mixedOK hΓ rfl (by kernel_rfl) | apply ovE rfl); (simp (disch := omega) only [go_sem, ↓reduceIte, dk, h1, h2] <;> with_reducible rfl); exact trivial)
      | rfl)
  · repeat (first
    | (apply axJ; (focus ((with_reducible constructor) <;> rfl)))
    | (apply awT mixedOK hΓ (by kernel_rfl); (simp (disch := omega) only [go_sem, ↓reduceIte, dk, h1] <;> with_reducible rfl))
    | ((first | apply awR hΓ | apply awG | apply awH mixedOK hΓ rfl (by kernel_rfl) | apply ovE rfl); (simp (disch := omega) only [go_sem, ↓reduceIte, dk, h1] <;> with_reducible rfl); exact trivial)
    | rfl)
end Go.Ab
namespace Go.Ab
open Go Go.RowKit Go.Proofs
set_option maxRecDepth 4000
set_option maxHeartbeats 4000000
def okPair (l : List Now) : Nat → Now → Bool
  | 0, _ => true
  | j + 1, x => match l[j]? with
    | some y => nLt y x
    | none => true
def okAt (l : List Now) (i : Nat) : Bool := match l[i]? with
  | some x => decide (x.d.length = 32) && okPair l i x
  | none => true
def vld (l : List Now) : Int := if l.length > 1024 then 1 else if (List.range l.length).all (okAt l) then 0 else 1
theorem vld_pre {l : List Now} {i : Nat} (hi : i < l.length) (hl : ¬ l.length > 1024) (h : okAt l i = false) : vld l = 1 := by
  have : (List.range l.length).all (okAt l) = false := List.all_eq_false.2 ⟨i, List.mem_range.2 hi, by simp [h]⟩
  simp [vld, hl, this]
theorem vld_all {l : List Now} (hl : ¬ l.length > 1024) (h : ∀ i, i < l.length → okAt l i = true) : vld l = 0 := by
  have : (List.range l.length).all (okAt l) = true := List.all_eq_true.2 fun i hi => h i (List.mem_range.1 hi)
  simp [vld, hl, this]
noncomputable def g22 : List D → Option D := encSpec (fun l : List Now => [.list (l.map eN)]) (fun l => l.length ≤ 1099511627776) (fun l => i64 (vld l))
theorem g22_eq {l : List Now} (h : l.length ≤ 1099511627776) : g22 [.list (l.map eN)] = some (.int .i64 (vld l)) := encSpec_eq (x := l) h fun y hy => by
  simp only [List.cons.injEq, D.list.injEq, and_true] at hy
  rw [map_inj eN_inj hy]
noncomputable def Γ22 : FuncId → Option CSpec := fun f => if f = 42 then some (.pure true (g42)) else none
theorem Γ22_ok : ∀ f s, Γ22 f = some s → SpecOK Try.prog f s := by
  intro f s h
  unfold Γ22 at h
  split at h
  · rename_i hf; cases h; subst hf; exact f42_ok
  · cases h
theorem f22_ok : PureOK Try.prog 22 true g22 := by
  have hΓ := Γ22_ok
  refine pure_enc (n := 34) (rs := [.tmp 2]) Try.func22 (by kernel_rfl) rfl (by kernel_rfl) (by kernel_rfl) ?_
  intro l hl
  refine ⟨fun _ => .int _ _, fun k hz0 => ?_⟩
  rw [start_frame (by simp)]; simp only [enumV, go_sem, emptyH]
  by_cases hb : l.length > 1024
  · have hv : vld l = 1 := by simp [vld, hb]
    repeat (first
      | (apply axJ; (focus ((with_reducible constructor) <;> rfl)))
      | (apply awT mixedOK hΓ (by kernel_rfl); (simp (disch := omega) only [go_sem, ↓reduceIte, dk] <;> with_reducible rfl))
      | ((first | apply awR hΓ | apply awG | apply awH mixedOK hΓ rfl (by kernel_rfl) | apply ovE rfl); (simp (disch := omega) only [go_sem, ↓reduceIte, dk] <;> with_reducible rfl); exact trivial)
      | rfl)
    rw [hv]
  repeat (first
    | (apply axJ; (focus ((with_reducible constructor) <;> rfl)))
    | (apply awT mixedOK hΓ (by kernel_rfl); (simp (disch := omega) only [go_sem, ↓reduceIte, dk] <;> with_reducible rfl))
    | ((first | apply awR hΓ | apply awG | apply awH mixedOK hΓ rfl (by kernel_rfl) | apply ovE rfl); (simp (disch := omega) only [go_sem, ↓reduceIte, dk] <;> with_reducible rfl); exact trivial)
    | rfl)
  refine awp_loop_at (X := Nat) (fun i => (frame 34 [(0, .data (.list (l.map eN))), (8, .data (.list (l.map eN))), (9, .data (i64 l.length)), (10, .data (i64 i))])) (fun _ => []) 0
    (fun i => i ≤ l.length ∧ ∀ j, j < i → okAt l j = true) (fun i => l.length - i) 0 ⟨Nat.zero_le _, fun j hj => by omega⟩ (Weak.w) ?_
  rintro i ⟨hi, hp⟩
  by_cases hi2 : i < l.length
  case neg =>
    have hv := vld_all hb fun j hj => hp j (by omega)
    repeat (first
      | (apply axJ; (focus ((with_reducible constructor) <;> rfl)))
      | (apply awT mixedOK hΓ (by kernel_rfl); (simp (disch := omega) only [go_sem, ↓reduceIte, dk] <;> with_reducible rfl))
      | ((first | apply awR hΓ | apply awG | apply awH mixedOK hΓ rfl (by kernel_rfl) | apply ovE rfl); (simp (disch := omega) only [go_sem, ↓reduceIte, dk] <;> with_reducible rfl); exact trivial)
      | rfl)
    rw [hv]
  have hok : okAt l i = (decide (l[i].d.length = 32) && okPair l i l[i]) := by simp only [okAt, List.getElem?_eq_getElem hi2]
  have hnext : okAt l i = true → ∀ j, j < i + 1 → okAt l j = true := fun h j hj => by
    by_cases hji : j = i
    · rw [hji]; exact h
    · exact hp j (by omega)
  generalize hx : l[i] = x at hok
  by_cases hd : x.d.length = 32
  case neg =>
    have hv := vld_pre hi2 hb (by rw [hok]; simp [hd])
    have hdn : ((x.d.length : Int) != 32) = true := by simp; omega
    repeat (first
      | (apply axJ; (focus ((with_reducible constructor) <;> rfl)))
      | (apply awT mixedOK hΓ (by kernel_rfl); (simp (disch := omega) only [go_sem, ↓reduceIte, dk, hx, eN, hdn] <;> with_reducible rfl))
      | ((first | apply awR hΓ | apply awG | apply awH mixedOK hΓ rfl (by kernel_rfl) | apply ovE rfl); (simp (disch := omega) only [go_sem, ↓reduceIte, dk, hx, eN, hdn] <;> with_reducible rfl); exact trivial)
      | rfl)
    rw [hv]
  have hdn : ((x.d.length : Int) != 32) = false := by simp; omega
  cases i with
  | zero =>
    have hk := hnext (by rw [hok]; simp [hd, okPair])
    repeat (first
      | (apply axJ; (focus ((with_reducible constructor) <;> rfl)))
      | (apply awT mixedOK hΓ (by kernel_rfl); (simp (disch := omega) only [go_sem, ↓reduceIte, dk, hx, eN, hdn] <;> with_reducible rfl))
      | ((first | apply awR hΓ | apply awG | apply awH mixedOK hΓ rfl (by kernel_rfl) | apply ovE rfl); (simp (disch := omega) only [go_sem, ↓reduceIte, dk, hx, eN, hdn] <;> with_reducible rfl); exact trivial)
      | rfl)
    exact ⟨1, ⟨by omega, hk⟩, by omega, Weak.w⟩
  | succ j =>
    have hj : j < l.length := by omega
    simp only [okPair, List.getElem?_eq_getElem hj] at hok
    have tj : (((j + 1 : Nat) : Int) - 1).toNat = j := by omega
    generalize hy : l[j] = y at hok
    have e42 := g42_eq y x
    have hge := nOrd_ge y x
    cases hlt : nLt y x with
    | true =>
      rw [hlt] at hge hok
      have hk := hnext (by rw [hok]; simp [hd])
      repeat (first
        | (apply axJ; (focus ((with_reducible constructor) <;> rfl)))
        | (apply awT mixedOK hΓ (by kernel_rfl); (simp (disch := omega) only [go_sem, ↓reduceIte, dk, hx, eN, hdn, tj, hy, Γ22, e42, hge] <;> with_reducible rfl))
        | ((first | apply awR hΓ | apply awG | apply awH mixedOK hΓ rfl (by kernel_rfl) | apply ovE rfl); (simp (disch := omega) only [go_sem, ↓reduceIte, dk, hx, eN, hdn, tj, hy, Γ22, e42, hge] <;> with_reducible rfl); exact trivial)
        | rfl)
      exact ⟨j + 1 + 1, ⟨by omega, hk⟩, by omega, Weak.w⟩
    | false =>
      rw [hlt] at hge hok
      have hv := vld_pre hi2 hb (by rw [hok]; simp)
      repeat (first
        | (apply axJ; (focus ((with_reducible constructor) <;> rfl)))
        | (apply awT mixedOK hΓ (by kernel_rfl); (simp (disch := omega) only [go_sem, ↓reduceIte, dk, hx, eN, hdn, tj, hy, Γ22, e42, hge] <;> with_reducible rfl))
        | ((first | apply awR hΓ | apply awG | apply awH mixedOK hΓ rfl (by kernel_rfl) | apply ovE rfl); (simp (disch := omega) only [go_sem, ↓reduceIte, dk, hx, eN, hdn, tj, hy, Γ22, e42, hge] <;> with_reducible rfl); exact trivial)
        | rfl)
      rw [hv]
noncomputable def Γ23 : FuncId → Option CSpec := fun f => if f = 43 then some (.pure true (g43)) else none
theorem Γ23_ok : ∀ f s, Γ23 f = some s → SpecOK Try.prog f s := by
  intro f s h
  unfold Γ23 at h
  split at h
  · rename_i hf; cases h; subst hf; exact f43_ok
  · cases h
theorem f23_ok : PureOK Try.prog 23 true g22 := by
  have hΓ := Γ23_ok
  refine pure_enc (n := 37) (rs := [.tmp 2]) Try.func23 (by kernel_rfl) rfl (by kernel_rfl) (by kernel_rfl) ?_
  intro l hl
  refine ⟨fun _ => .int _ _, fun k hz0 => ?_⟩
  rw [start_frame (by simp)]; simp only [enumV, go_sem, emptyH]
  by_cases hb : l.length > 1024
  · have hv : vld l = 1 := by simp [vld, hb]
    repeat (first
      | (apply axJ; (focus ((with_reducible constructor) <;> rfl)))
      | (apply awT mixedOK hΓ (by kernel_rfl); (simp (disch := omega) only [go_sem, ↓reduceIte, dk] <;> with_reducible rfl))
      | ((first | apply awR hΓ | apply awG | apply awH mixedOK hΓ rfl (by kernel_rfl) | apply ovE rfl); (simp (disch := omega) only [go_sem, ↓reduceIte, dk] <;> with_reducible rfl); exact trivial)
      | rfl)
    rw [hv]
  repeat (first
    | (apply axJ; (focus ((with_reducible constructor) <;> rfl)))
    | (apply awT mixedOK hΓ (by kernel_rfl); (simp (disch := omega) only [go_sem, ↓reduceIte, dk] <;> with_reducible rfl))
    | ((first | apply awR hΓ | apply awG | apply awH mixedOK hΓ rfl (by kernel_rfl) | apply ovE rfl); (simp (disch := omega) only [go_sem, ↓reduceIte, dk] <;> with_reducible rfl); exact trivial)
    | rfl)
  refine awp_loop_at (X := Nat) (fun i => (frame 37 [(0, .data (.list (l.map eN))), (3, .data (i64 i))])) (fun _ => []) 0
    (fun i => i ≤ l.length ∧ ∀ j, j < i → okAt l j = true) (fun i => l.length - i) 0 ⟨Nat.zero_le _, fun j hj => by omega⟩ (Weak.w) ?_
  rintro i ⟨hi, hp⟩
  by_cases hi2 : i < l.length
  case neg =>
    have hv := vld_all hb fun j hj => hp j (by omega)
    repeat (first
      | (apply axJ; (focus ((with_reducible constructor) <;> rfl)))
      | (apply awT mixedOK hΓ (by kernel_rfl); (simp (disch := omega) only [go_sem, ↓reduceIte, dk] <;> with_reducible rfl))
      | ((first | apply awR hΓ | apply awG | apply awH mixedOK hΓ rfl (by kernel_rfl) | apply ovE rfl); (simp (disch := omega) only [go_sem, ↓reduceIte, dk] <;> with_reducible rfl); exact trivial)
      | rfl)
    rw [hv]
  have hok : okAt l i = (decide (l[i].d.length = 32) && okPair l i l[i]) := by simp only [okAt, List.getElem?_eq_getElem hi2]
  have hnext : okAt l i = true → ∀ j, j < i + 1 → okAt l j = true := fun h j hj => by
    by_cases hji : j = i
    · rw [hji]; exact h
    · exact hp j (by omega)
  generalize hx : l[i] = x at hok
  by_cases hd : x.d.length = 32
  case neg =>
    have hv := vld_pre hi2 hb (by rw [hok]; simp [hd])
    have hdn : ((x.d.length : Int) != 32) = true := by simp; omega
    repeat (first
      | (apply axJ; (focus ((with_reducible constructor) <;> rfl)))
      | (apply awT mixedOK hΓ (by kernel_rfl); (simp (disch := omega) only [go_sem, ↓reduceIte, dk, hx, eN, hdn] <;> with_reducible rfl))
      | ((first | apply awR hΓ | apply awG | apply awH mixedOK hΓ rfl (by kernel_rfl) | apply ovE rfl); (simp (disch := omega) only [go_sem, ↓reduceIte, dk, hx, eN, hdn] <;> with_reducible rfl); exact trivial)
      | rfl)
    rw [hv]
  have hdn : ((x.d.length : Int) != 32) = false := by simp; omega
  cases i with
  | zero =>
    have hk := hnext (by rw [hok]; simp [hd, okPair])
    repeat (first
      | (apply axJ; (focus ((with_reducible constructor) <;> rfl)))
      | (apply awT mixedOK hΓ (by kernel_rfl); (simp (disch := omega) only [go_sem, ↓reduceIte, dk, hx, eN, hdn] <;> with_reducible rfl))
      | ((first | apply awR hΓ | apply awG | apply awH mixedOK hΓ rfl (by kernel_rfl) | apply ovE rfl); (simp (disch := omega) only [go_sem, ↓reduceIte, dk, hx, eN, hdn] <;> with_reducible rfl); exact trivial)
      | rfl)
    exact ⟨1, ⟨by omega, hk⟩, by omega, Weak.w⟩
  | succ j =>
    have hj : j < l.length := by omega
    simp only [okPair, List.getElem?_eq_getElem hj] at hok
    have tj : (((j + 1 : Nat) : Int) - 1).toNat = j := by omega
    generalize hy : l[j] = y at hok
    have e43 := g43_eq y x
    cases hlt : nLt y x with
    | true =>
      rw [hlt] at hok e43
      have hk := hnext (by rw [hok]; simp [hd])
      repeat (first
        | (apply axJ; (focus ((with_reducible constructor) <;> rfl)))
        | (apply awT mixedOK hΓ (by kernel_rfl); (simp (disch := omega) only [go_sem, ↓reduceIte, dk, hx, eN, hdn, tj, hy, Γ23, e43] <;> with_reducible rfl))
        | ((first | apply awR hΓ | apply awG | apply awH mixedOK hΓ rfl (by kernel_rfl) | apply ovE rfl); (simp (disch := omega) only [go_sem, ↓reduceIte, dk, hx, eN, hdn, tj, hy, Γ23, e43] <;> with_reducible rfl); exact trivial)
        | rfl)
      exact ⟨j + 1 + 1, ⟨by omega, hk⟩, by omega, Weak.w⟩
    | false =>
      rw [hlt] at hok e43
      have hv := vld_pre hi2 hb (by rw [hok]; simp)
      repeat (first
        | (apply axJ; (focus ((with_reducible constructor) <;> rfl)))
        | (apply awT mixedOK hΓ (by kernel_rfl); (simp (disch := omega) only [go_sem, ↓reduceIte, dk, hx, eN, hdn, tj, hy, Γ23, e43] <;> with_reducible rfl))
        | ((first | apply awR hΓ | apply awG | apply awH mixedOK hΓ rfl (by kernel_rfl) | apply ovE rfl); (simp (disch := omega) only [go_sem, ↓reduceIte, dk, hx, eN, hdn, tj, hy, Γ23, e43] <;> with_reducible rfl); exact trivial)
        | rfl)
      rw [hv]
end Go.Ab
