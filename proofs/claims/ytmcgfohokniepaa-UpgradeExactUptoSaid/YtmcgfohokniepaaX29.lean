/-
  One text of the proof (own work): contracts of functions of the program, by the abstract machine.
-/
import Derived.Test.YtmcgfohokniepaaX21
import Derived.Test.YtmcgfohokniepaaX28
import Derived.Test.YtmcgfohokniepaaX26
import Derived.Test.YtmcgfohokniepaaX18
set_option linter.unusedVariables false
set_option linter.unusedSimpArgs false
namespace Go.Ab
open Go Go.RowKit Go.Proofs
set_option maxRecDepth 4000
set_option maxHeartbeats 4000000
def okPair (l : List Now) : Nat → Now → Bool
  | 0, _ => true
  | j + 1, x => match l[j]? with
    | some y => nLt y x
    | none => true
def okAt (l : List Now) (i : Nat) : Bool := match l[i]? with
  | some x => decide (x.d.length = 32) && okPair l i x
  | none => true
def vld (l : List Now) : Int := if l.length > 1024 then 1 else if (List.range l.length).all (okAt l) then 0 else 1
theorem vld_pre {l : List Now} {i : Nat} (hi : i < l.length) (hl : ¬ l.length > 1024) (h : okAt l i = false) : vld l = 1 := by
  have : (List.range l.length).all (okAt l) = false := List.all_eq_false.2 ⟨i, List.mem_range.2 hi, by simp [h]⟩
  simp [vld, hl, this]
theorem vld_all {l : List Now} (hl : ¬ l.length > 1024) (h : ∀ i, i < l.length → okAt l i = true) : vld l = 0 := by
  have : (List.range l.length).all (okAt l) = true := List.all_eq_true.2 fun i hi => h i (List.mem_range.1 hi)
  simp [vld, hl, this]
noncomputable def g22 : List D → Option D := encSpec (fun l : List Now => [.list (l.map eN)]) (fun l => l.length ≤ 1099511627776) (fun l => i64 (vld l))
theorem g22_eq {l : List Now} (h : l.length ≤ 1099511627776) : g22 [.list (l.map eN)] = some (.int .i64 (vld l)) := encSpec_eq (x := l) h fun y hy => by
  simp only [List.cons.injEq, D.list.injEq, and_true] at hy
  rw [map_inj eN_inj hy]
noncomputable def Γ22 : FuncId → Option CSpec := fun f => if f = 42 then some (.pure true (g42)) else none
theorem Γ22_ok : ∀ f s, Γ22 f = some s → SpecOK Try.prog f s := by
  intro f s h
  unfold Γ22 at h
  split at h
  · rename_i hf; cases h; subst hf; exact f42_ok
  · cases h
theorem f22_ok : PureOK Try.prog 22 true g22 := by
  have hΓ := Γ22_ok
  refine pure_enc (n := 34) (rs := [.tmp 2]) Try.func22 (by kernel_rfl) rfl (by kernel_rfl) (by kernel_rfl) ?_
  intro l hl
  refine ⟨fun _ => .int _ _, fun k hz0 => ?_⟩
  rw [start_frame (by simp)]; simp only [enumV, go_sem, emptyH]
  by_cases hb : l.length > 1024
  · have hv : vld l = 1 := by simp [vld, hb]
    repeat (first
      | (apply axJ; (focus ((with_reducible constructor) <;> rfl)))
      | (apply awT mixedOK hΓ (by kernel_rfl); (simp (disch := omega) only [go_sem, ↓reduceIte, dk] <;> with_reducible rfl))
      | ((first | apply awR hΓ | apply awG | apply awH mixedOK hΓ rfl (by kernel_rfl) | apply ovE rfl); (simp (disch := omega) only [go_sem, ↓reduceIte, dk] <;> with_reducible rfl); exact trivial)
      | rfl)
    rw [hv]
  repeat (first
    | (apply axJ; (focus ((with_reducible constructor) <;> rfl)))
    | (apply awT mixedOK hΓ (by kernel_rfl); (simp (disch := omega) only [go_sem, ↓reduceIte, dk] <;> with_reducible rfl))
    | ((first | apply awR hΓ | apply awG | apply awH mixedOK hΓ rfl (by kernel_rfl) | apply ovE rfl); (simp (disch := omega) only [go_sem, ↓reduceIte, dk] <;> with_reducible rfl); exact trivial)
    | rfl)
  refine awp_loop_at (X := Nat) (fun i => (frame 34 [(0, .data (.list (l.map eN))), (8, .data (.list (l.map eN))), (9, .data (i64 l.length)), (10, .data (i64 i))])) (fun _ => []) 0
    (fun i => i ≤ l.length ∧ ∀ j, j < i → okAt l j = true) (fun i => l.length - i) 0 ⟨Nat.zero_le _, fun j hj => by omega⟩ (Weak.w) ?_
  rintro i ⟨hi, hp⟩
  by_cases hi2 : i < l.length
  case neg =>
    have hv := vld_all hb fun j hj => hp j (by omega)
    repeat (first
      | (apply axJ; (focus ((with_reducible constructor) <;> rfl)))
      | (apply awT mixedOK hΓ (by kernel_rfl); (simp (disch := omega) only [go_sem, ↓reduceIte, dk] <;> with_reducible rfl))
      | ((first | apply awR hΓ | apply awG | apply awH mixedOK hΓ rfl (by kernel_rfl) | apply ovE rfl); (simp (disch := omega) only [go_sem, ↓reduceIte, dk] <;> with_reducible rfl); exact trivial)
      | rfl)
    rw [hv]
  have hok : okAt l i = (decide (l[i].d.length = 32) && okPair l i l[i]) := by simp only [okAt, List.getElem?_eq_getElem hi2]
  have hnext : okAt l i = true → ∀ j, j < i + 1 → okAt l j = true := fun h j hj => by
    by_cases hji : j = i
    · rw [hji]; exact h
    · exact hp j (by omega)
  generalize hx : l[i] = x at hok
  by_cases hd : x.d.length = 32
  case neg =>
    have hv := vld_pre hi2 hb (by rw [hok]; simp [hd])
    have hdn : ((x.d.length : Int) != 32) = true := by simp; omega
    repeat (first
      | (apply axJ; (focus ((with_reducible constructor) <;> rfl)))
      | (apply awT mixedOK hΓ (by kernel_rfl); (simp (disch := omega) only [go_sem, ↓reduceIte, dk, hx, eN, hdn] <;> with_reducible rfl))
      | ((first | apply awR hΓ | apply awG | apply awH mixedOK hΓ rfl (by kernel_rfl) | apply ovE rfl); (simp (disch := omega) only [go_sem, ↓reduceIte, dk, hx, eN, hdn] <;> with_reducible rfl); exact trivial)
      | rfl)
    rw [hv]
  have hdn : ((x.d.length : Int) != 32) = false := by simp; omega
  cases i with
  | zero =>
    have hk := hnext (by rw [hok]; simp [hd, okPair])
    repeat (first
      | (apply axJ; (focus ((with_reducible constructor) <;> rfl)))
      | (apply awT mixedOK hΓ (by kernel_rfl); (simp (disch := omega) only [go_sem, ↓reduceIte, dk, hx, eN, hdn] <;> with_reducible rfl))
      | ((first | apply awR hΓ | apply awG | apply awH mixedOK hΓ rfl (by kernel_rfl) | apply ovE rfl); (simp (disch := omega) only [go_sem, ↓reduceIte, dk, hx, eN, hdn] <;> with_reducible rfl); exact trivial)
      | rfl)
    exact ⟨1, ⟨by omega, hk⟩, by omega, Weak.w⟩
  | succ j =>
    have hj : j < l.length := by omega
    simp only [okPair, List.getElem?_eq_getElem hj] at hok
    have tj : (((j + 1 : Nat) : Int) - 1).toNat = j := by omega
    generalize hy : l[j] = y at hok
    have e42 := g42_eq y x
    have hge := nOrd_ge y x
    cases hlt : nLt y x with
    | true =>
      rw [hlt] at hge hok
      have hk := hnext (by rw [hok]; simp [hd])
      repeat (first
        | (apply axJ; (focus ((with_reducible constructor) <;> rfl)))
        | (apply awT mixedOK hΓ (by kernel_rfl); (simp (disch := omega) only [go_sem, ↓reduceIte, dk, hx, eN, hdn, tj, hy, Γ22, e42, hge] <;> with_reducible rfl))
        | ((first | apply awR hΓ | apply awG | apply awH mixedOK hΓ rfl (by kernel_rfl) | apply ovE rfl); (simp (disch := omega) only [go_sem, ↓reduceIte, dk, hx, eN, hdn, tj, hy, Γ22, e42, hge] <;> with_reducible rfl); exact trivial)
        | rfl)
      exact ⟨j + 1 + 1, ⟨by omega, hk⟩, by omega, Weak.w⟩
    | false =>
      rw [hlt] at hge hok
      have hv := vld_pre hi2 hb (by rw [hok]; simp)
      repeat (first
        | (apply axJ; (focus ((with_reducible constructor) <;> rfl)))
        | (apply awT mixedOK hΓ (by kernel_rfl); (simp (disch := omega) only [go_sem, ↓reduceIte, dk, hx, eN, hdn, tj, hy, Γ22, e42, hge] <;> with_reducible rfl))
        | ((first | apply awR hΓ | apply awG | apply awH mixedOK hΓ rfl (by kernel_rfl) | apply ovE rfl); (simp (disch := omega) only [go_sem, ↓reduceIte, dk, hx, eN, hdn, tj, hy, Γ22, e42, hge] <;> with_reducible rfl); exact trivial)
        | rfl)
      rw [hv]
noncomputable def Γ23 : FuncId → Option CSpec := fun f => if f = 43 then some (.pure true (g43)) else none
theorem Γ23_ok : ∀ f s, Γ23 f = some s → SpecOK Try.prog f s := by
  intro f s h
  unfold Γ23 at h
  split at h
  · rename_i hf; cases h; subst hf; exact f43_ok
  · cases h
theorem f23_ok : PureOK Try.prog 23 true g22 := by
  have hΓ := Γ23_ok
  refine pure_enc (n := 37) (rs := [.tmp 2]) Try.func23 (by kernel_rfl) rfl (by kernel_rfl) (by kernel_rfl) ?_
  intro l hl
  refine ⟨fun _ => .int _ _, fun k hz0 => ?_⟩
  rw [start_frame (by simp)]; simp only [enumV, go_sem, emptyH]
  by_cases hb : l.length > 1024
  · have hv : vld l = 1 := by simp [vld, hb]
    repeat (first
      | (apply axJ; (focus ((with_reducible constructor) <;> rfl)))
      | (apply awT mixedOK hΓ (by kernel_rfl); (simp (disch := omega) only [go_sem, ↓reduceIte, dk] <;> with_reducible rfl))
      | ((first | apply awR hΓ | apply awG | apply awH mixedOK hΓ rfl (by kernel_rfl) | apply ovE rfl); (simp (disch := omega) only [go_sem, ↓reduceIte, dk] <;> with_reducible rfl); exact trivial)
      | rfl)
    rw [hv]
  repeat (first
    | (apply axJ; (focus ((with_reducible constructor) <;> rfl)))
    | (apply awT mixedOK hΓ (by kernel_rfl); (simp (disch := omega) only [go_sem, ↓reduceIte, dk] <;> with_reducible rfl))
    | ((first | apply awR hΓ | apply awG | apply awH mixedOK hΓ rfl (by kernel_rfl) | apply ovE rfl); (simp (disch := omega) only [go_sem, ↓reduceIte, dk] <;> with_reducible rfl); exact trivial)
    | rfl)
  refine awp_loop_at (X := Nat) (fun i => (frame 37 [(0, .data (.list (l.map eN))), (3, .data (i64 i))])) (fun _ => []) 0
    (fun i => i ≤ l.length ∧ ∀ j, j < i → okAt l j = true) (fun i => l.length - i) 0 ⟨Nat.zero_le _, fun j hj => by omega⟩ (Weak.w) ?_
  rintro i ⟨hi, hp⟩
  by_cases hi2 : i < l.length
  case neg =>
    have hv := vld_all hb fun j hj => hp j (by omega)
    repeat (first
      | (apply axJ; (focus ((with_reducible constructor) <;> rfl)))
      | (apply awT mixedOK hΓ (by kernel_rfl); (simp (disch := omega) only [go_sem, ↓reduceIte, dk] <;> with_reducible rfl))
      | ((first | apply awR hΓ | apply awG | apply awH mixedOK hΓ rfl (by kernel_rfl) | apply ovE rfl); (simp (disch := omega) only [go_sem, ↓reduceIte, dk] <;> with_reducible rfl); exact trivial)
      | rfl)
    rw [hv]
  have hok : okAt l i = (decide (l[i].d.length = 32) && okPair l i l[i]) := by simp only [okAt, List.getElem?_eq_getElem hi2]
  have hnext : okAt l i = true → ∀ j, j < i + 1 → okAt l j = true := fun h j hj => by
    by_cases hji : j = i
    · rw [hji]; exact h
    · exact hp j (by omega)
  generalize hx : l[i] = x at hok
  by_cases hd : x.d.length = 32
  case neg =>
    have hv := vld_pre hi2 hb (by rw [hok]; simp [hd])
    have hdn : ((x.d.length : Int) != 32) = true := by simp; omega
    repeat (first
      | (apply axJ; (focus ((with_reducible constructor) <;> rfl)))
      | (apply awT mixedOK hΓ (by kernel_rfl); (simp (disch := omega) only [go_sem, ↓reduceIte, dk, hx, eN, hdn] <;> with_reducible rfl))
      | ((first | apply awR hΓ | apply awG | apply awH mixedOK hΓ rfl (by kernel_rfl) | apply ovE rfl); (simp (disch := omega) only [go_sem, ↓reduceIte, dk, hx, eN, hdn] <;> with_reducible rfl); exact trivial)
      | rfl)
    rw [hv]
  have hdn : ((x.d.length : Int) != 32) = false := by simp; omega
  cases i with
  | zero =>
    have hk := hnext (by rw [hok]; simp [hd, okPair])
    repeat (first
      | (apply axJ; (focus ((with_reducible constructor) <;> rfl)))
      | (apply awT mixedOK hΓ (by kernel_rfl); (simp (disch := omega) only [go_sem, ↓reduceIte, dk, hx, eN, hdn] <;> with_reducible rfl))
      | ((first | apply awR hΓ | apply awG | apply awH mixedOK hΓ rfl (by kernel_rfl) | apply ovE rfl); (simp (disch := omega) only [go_sem, ↓reduceIte, dk, hx, eN, hdn] <;> with_reducible rfl); exact trivial)
      | rfl)
    exact ⟨1, ⟨by omega, hk⟩, by omega, Weak.w⟩
  | succ j =>
    have hj : j < l.length := by omega
    simp only [okPair, List.getElem?_eq_getElem hj] at hok
    have tj : (((j + 1 : Nat) : Int) - 1).toNat = j := by omega
    generalize hy : l[j] = y at hok
    have e43 := g43_eq y x
    cases hlt : nLt y x with
    | true =>
      rw [hlt] at hok e43
      have hk := hnext (by rw [hok]; simp [hd])
      repeat (first
        | (apply axJ; (focus ((with_reducible constructor) <;> rfl)))
        | (apply awT mixedOK hΓ (by kernel_rfl); (simp (disch := omega) only [go_sem, ↓reduceIte, dk, hx, eN, hdn, tj, hy, Γ23, e43] <;> with_reducible rfl))
        | ((first | apply awR hΓ | apply awG | apply awH mixedOK hΓ rfl (by kernel_rfl) | apply ovE rfl); (simp (disch := omega) only [go_sem, ↓reduceIte, dk, hx, eN, hdn, tj, hy, Γ23, e43] <;> with_reducible rfl); exact trivial)
        | rfl)
      exact ⟨j + 1 + 1, ⟨by omega, hk⟩, by omega, Weak.w⟩
    | false =>
      rw [hlt] at hok e43
      have hv := vld_pre hi2 hb (by rw [hok]; simp)
      repeat (first
        | (apply axJ; (focus ((with_reducible constructor) <;> rfl)))
        | (apply awT mixedOK hΓ (by kernel_rfl); (simp (disch := omega) only [go_sem, ↓reduceIte, dk, hx, eN, hdn, tj, hy, Γ23, e43] <;> with_reducible rfl))
        | ((first | apply awR hΓ | apply awG | apply awH mixedOK hΓ rfl (by kernel_rfl) | apply ovE rfl); (simp (disch := omega) only [go_sem, ↓reduceIte, dk, hx, eN, hdn, tj, hy, Γ23, e43] <;> with_reducible rfl); exact trivial)
        | rfl)
      rw [hv]
end Go.Ab
namespace Go.Ab
open Go Go.RowKit Go.Proofs
set_option maxRecDepth 4000
set_option maxHeartbeats 4000000
def idx {α : Type} (p : α → Bool) (l : List α) : Int := match l.findIdx? p with
  | some i => i
  | none => -1
theorem idx_at {α : Type} {p : α → Bool} {l : List α} {i : Nat} (hi : i < l.length) (hp : p l[i] = true) (hb : (l.take i).any p = false) : idx p l = i := by
  have h : l.findIdx? p = some i := by
    rw [List.findIdx?_eq_some_iff_getElem]
    refine ⟨hi, hp, fun j hj => ?_⟩
    have h1 := List.any_eq_false.1 hb (l[j]) (by
      rw [List.mem_take_iff_getElem]
      exact ⟨j, by omega, rfl⟩)
    exact h1
  simp [idx, h]
theorem idx_none {α : Type} {p : α → Bool} {l : List α} (h : l.any p = false) : idx p l = -1 := by
  have : l.findIdx? p = none := by
    rw [List.findIdx?_eq_none_iff]
    intro x hx
    have := List.any_eq_false.1 h x hx
    simpa using this
  simp [idx, this]
theorem idx_nonneg {α : Type} {p : α → Bool} {l : List α} : decide (0 ≤ idx p l) = l.any p := by
  unfold idx
  cases h : l.findIdx? p with
  | none =>
    rw [List.findIdx?_eq_none_iff] at h
    have h2 : l.any p = false := List.any_eq_false.2 fun x hx => by simp [h x hx]
    rw [h2]; rfl
  | some i =>
    obtain ⟨h1, h2, _⟩ := List.findIdx?_eq_some_iff_getElem.1 h
    have h3 : l.any p = true := List.any_eq_true.2 ⟨_, List.getElem_mem h1, h2⟩
    rw [h3]
    simp
theorem any_next {α : Type} {p : α → Bool} {l : List α} {i : Nat} (hi : i < l.length) (hb : (l.take i).any p = false) (hp : p l[i] = false) : (l.take (i + 1)).any p = false := by
  rw [List.take_add_one, List.any_append, hb, List.getElem?_eq_getElem hi]
  simp [hp]
noncomputable def gIdx {α : Type} (e : α → D) (f : FuncId) (caps : List D) (p : α → Bool) : List D → Option D := encSpec (fun l : List α => [.list (l.map e), .clo f caps]) (fun l => l.length ≤ 1099511627776) (fun l => i64 (idx p l))
theorem gIdx_eq {α : Type} {e : α → D} (he : ∀ a b, e a = e b → a = b) {f : FuncId} {caps : List D} {p : α → Bool} {l : List α} (h : l.length ≤ 1099511627776) : gIdx e f caps p [.list (l.map e), .clo f caps] = some (.int .i64 (idx p l)) :=
  encSpec_eq (x := l) h fun y hy => by
    simp only [List.cons.injEq, D.list.injEq, and_true] at hy
    rw [List.map_inj_right he |>.1 hy]
noncomputable def gAny {α : Type} (e : α → D) (f : FuncId) (caps : List D) (p : α → Bool) : List D → Option D := encSpec (fun l : List α => [.list (l.map e), .clo f caps]) (fun l => l.length ≤ 1099511627776) (fun l => .bool (l.any p))
theorem gAny_eq {α : Type} {e : α → D} (he : ∀ a b, e a = e b → a = b) {f : FuncId} {caps : List D} {p : α → Bool} {l : List α} (h : l.length ≤ 1099511627776) : gAny e f caps p [.list (l.map e), .clo f caps] = some (.bool (l.any p)) :=
  encSpec_eq (x := l) h fun y hy => by
    simp only [List.cons.injEq, D.list.injEq, and_true] at hy
    rw [List.map_inj_right he |>.1 hy]
noncomputable def Γc (f : FuncId) (g : List D → Option D) : FuncId → Option CSpec := fun x => if x = f then some (.pure true g) else none
theorem Γc_ok {f : FuncId} {g : List D → Option D} (h : PureOK Try.prog f true g) : ∀ x s, Γc f g x = some s → SpecOK Try.prog x s := by
  intro x s hx
  unfold Γc at hx
  split at hx
  · rename_i hf; cases hx; subst hf; exact h
  · cases hx
structure Rw where
  name : List UInt8
  root : List UInt8
  bits : Int
  height : Int
  next : Int
structure Pk where
  name : List UInt8
  dig : List UInt8
  up : Int
structure Dc where
  id : List UInt8
  author : List UInt8
  q : List UInt8
  s : List UInt8
  ans : List UInt8
  dig : List UInt8
  til : Int
  w : Bool
  o : Bool
  rp : Bool
structure Dp where
  l : List UInt8
  r : List UInt8
structure Rev where
  rvs : List Rw
  pks : List Pk
  dcs : List Dc
  dps : List Dp
@[go_sem] def eRw (x : Rw) : D := .agg [.str x.name, .str x.root, i64 x.bits, i64 x.height, i64 x.next]
@[go_sem] def ePk (x : Pk) : D := .agg [.str x.name, .str x.dig, i64 x.up]
@[go_sem] def eDc (x : Dc) : D := .agg [.str x.id, .str x.author, .str x.q, .str x.s, .str x.ans, .str x.dig, i64 x.til, .bool x.w, .bool x.o, .bool x.rp]
@[go_sem] def eDp (x : Dp) : D := .agg [.str x.l, .str x.r]
@[go_sem] def eR (x : Rev) : D := .agg [.list (x.rvs.map eRw), .list (x.pks.map ePk), .list (x.dcs.map eDc), .list (x.dps.map eDp)]
@[go_sem] def eV (x : Rev) (l : List Now) : D := .agg [.list (x.rvs.map eRw), .list (x.pks.map ePk), .list (x.dcs.map eDc), .list (x.dps.map eDp), .list (l.map eN)]
theorem eRw_inj (a b : Rw) (h : eRw a = eRw b) : a = b := by cases a; cases b; simp [eRw] at h; simp [h]
theorem ePk_inj (a b : Pk) (h : ePk a = ePk b) : a = b := by cases a; cases b; simp [ePk] at h; simp [h]
theorem eDc_inj (a b : Dc) (h : eDc a = eDc b) : a = b := by cases a; cases b; simp [eDc] at h; simp [h]
theorem eDp_inj (a b : Dp) (h : eDp a = eDp b) : a = b := by cases a; cases b; simp [eDp] at h; simp [h]
theorem eR_inj (a b : Rev) (h : eR a = eR b) : a = b := by
  cases a; cases b
  simp only [eR, D.agg.injEq, List.cons.injEq, D.list.injEq, and_true] at h
  obtain ⟨h1, h2, h3, h4⟩ := h
  rw [map_inj eRw_inj h1, map_inj ePk_inj h2, map_inj eDc_inj h3, map_inj eDp_inj h4]
theorem eV_inj {a b : Rev} {l m : List Now} (h : eV a l = eV b m) : a = b ∧ l = m := by
  cases a; cases b
  simp only [eV, D.agg.injEq, List.cons.injEq, D.list.injEq, and_true] at h
  obtain ⟨h1, h2, h3, h4, h5⟩ := h
  rw [map_inj eRw_inj h1, map_inj ePk_inj h2, map_inj eDc_inj h3, map_inj eDp_inj h4, map_inj eN_inj h5]
  exact ⟨rfl, rfl⟩
structure SzR (r : Rev) : Prop where
  rvs : r.rvs.length ≤ 1099511627776
  pks : r.pks.length ≤ 1099511627776
  dcs : r.dcs.length ≤ 1099511627776
  dps : r.dps.length ≤ 1099511627776
theorem eq39 (a b : Now) : eqAgg Try.prog 39 [.str a.q, .str a.s, .str a.d] [.str b.q, .str b.s, .str b.d] = some (decide (a = b)) := by
  have hu : Program.underlying Try.prog 39 = some (.struct #[⟨"Question", 9, 0, false, "", "", 0⟩, ⟨"Scope", 9, 1, false, "", "", 16⟩, ⟨"Digest", 9, 2, false, "", "", 32⟩]) := by kernel_rfl
  have hg : (Try.prog.stoodInHeld 39 || Try.prog.eqGuardType Try.prog.depth 39) = false := by kernel_rfl
  have e : decide (a = b) = ((a.q == b.q) && ((a.s == b.s) && ((a.d == b.d) && true))) := by
    rw [Bool.eq_iff_iff]
    cases a; cases b
    simp
  unfold eqAgg
  rw [hu]
  simp only [hg, Bool.false_eq_true, if_false, e]
  simp [eqFlds, keyKind, keyEq, ty_und9, ty_agg9]
def has (l : List Now) (x : Now) : Bool := l.any fun y => decide (y = x)
noncomputable def g49 : List D → Option D := encSpec (fun x : List Now × Now => [.list (x.1.map eN), eN x.2]) (fun x => x.1.length ≤ 1099511627776) (fun x => i64 (idx (fun y => decide (y = x.2)) x.1))
theorem g49_eq {l : List Now} {x : Now} (h : l.length ≤ 1099511627776) : g49 [.list (l.map eN), .agg [.str x.q, .str x.s, .str x.d]] = some (.int .i64 (idx (fun y => decide (y = x)) l)) := encSpec_eq (x := (l, x)) h fun y hy => by
  obtain ⟨y1, y2⟩ := y
  simp only [List.cons.injEq, D.list.injEq, and_true] at hy
  rw [map_inj eN_inj hy.1, eN_inj _ _ hy.2]
theorem f49_ok : PureOK Try.prog 49 true g49 := by
  have hΓ := Γ0_ok
  refine pure_enc (n := 19) (rs := [.tmp 4]) Try.func49 (by kernel_rfl) rfl (by kernel_rfl) (by kernel_rfl) ?_
  rintro ⟨l, x⟩ hl
  dsimp only at hl ⊢
  refine ⟨fun _ => .int _ _, fun k hz0 => ?_⟩
  rw [start_frame (by simp)]; simp only [enumV, go_sem, emptyH]
  repeat (first
    | (apply axJ; (focus ((with_reducible constructor) <;> rfl)))
    | (apply awT mixedOK hΓ (by kernel_rfl); (simp (disch := omega) only [go_sem, ↓reduceIte, dk, eN] <;> with_reducible rfl))
    | ((first | apply awR hΓ | apply awG | apply awH mixedOK hΓ rfl (by kernel_rfl) | apply ovE rfl); (simp (disch := omega) only [go_sem, ↓reduceIte, dk, eN] <;> with_reducible rfl); exact trivial)
    | rfl)
  refine awp_loop_at (X := Nat) (fun i => (frame 19 [(0, .data (.list (l.map eN))), (3, .ptr 0 0), (7, .data (i64 l.length)), (8, .data (i64 i))])) (fun _ => [(0, .box [.data (.str x.q), .data (.str x.s), .data (.str x.d)])]) 1
    (fun i => i ≤ l.length ∧ (l.take i).any (fun y => decide (y = x)) = false) (fun i => l.length - i) 0 ⟨Nat.zero_le _, rfl⟩ (Weak.w) ?_
  rintro i ⟨hi, hpre⟩
  by_cases hi2 : i < l.length
  · have he := eq39 x l[i]
    by_cases hx : l[i] = x
    · have hid := idx_at (p := fun y => decide (y = x)) hi2 (by simpa using hx) hpre
      rw [decide_eq_true hx.symm] at he
      generalize hy : l[i] = y at *
      repeat (first
        | (apply axJ; (focus ((with_reducible constructor) <;> rfl)))
        | (apply awT mixedOK hΓ (by kernel_rfl); (simp (disch := omega) only [go_sem, ↓reduceIte, dk, eN, hy, ↓he] <;> with_reducible rfl))
        | ((first | apply awR hΓ | apply awG | apply awH mixedOK hΓ rfl (by kernel_rfl) | apply ovE rfl); (simp (disch := omega) only [go_sem, ↓reduceIte, dk, eN, hy, ↓he] <;> with_reducible rfl); exact trivial)
        | rfl)
      rw [hid]
    · have hn := any_next (p := fun y => decide (y = x)) hi2 hpre (by simpa using hx)
      rw [decide_eq_false (fun h => hx h.symm)] at he
      generalize hy : l[i] = y at *
      repeat (first
        | (apply axJ; (focus ((with_reducible constructor) <;> rfl)))
        | (apply awT mixedOK hΓ (by kernel_rfl); (simp (disch := omega) only [go_sem, ↓reduceIte, dk, eN, hy, ↓he] <;> with_reducible rfl))
        | ((first | apply awR hΓ | apply awG | apply awH mixedOK hΓ rfl (by kernel_rfl) | apply ovE rfl); (simp (disch := omega) only [go_sem, ↓reduceIte, dk, eN, hy, ↓he] <;> with_reducible rfl); exact trivial)
        | rfl)
      exact ⟨i + 1, ⟨by omega, hn⟩, by omega, Weak.w⟩
  · have hi' : i = l.length := by omega
    subst hi'
    rw [List.take_length] at hpre
    have hid := idx_none hpre
    repeat (first
      | (apply axJ; (focus ((with_reducible constructor) <;> rfl)))
      | (apply awT mixedOK hΓ (by kernel_rfl); (simp (disch := omega) only [go_sem, ↓reduceIte, dk] <;> with_reducible rfl))
      | ((first | apply awR hΓ | apply awG | apply awH mixedOK hΓ rfl (by kernel_rfl) | apply ovE rfl); (simp (disch := omega) only [go_sem, ↓reduceIte, dk] <;> with_reducible rfl); exact trivial)
      | rfl)
    rw [hid]
noncomputable def g31 : List D → Option D := encSpec (fun x : List Now × Now => [.list (x.1.map eN), eN x.2]) (fun x => x.1.length ≤ 1099511627776) (fun x => .bool (has x.1 x.2))
theorem g31_eq {l : List Now} {x : Now} (h : l.length ≤ 1099511627776) : g31 [.list (l.map eN), .agg [.str x.q, .str x.s, .str x.d]] = some (.bool (has l x)) := encSpec_eq (x := (l, x)) h fun y hy => by
  obtain ⟨y1, y2⟩ := y
  simp only [List.cons.injEq, D.list.injEq, and_true] at hy
  rw [map_inj eN_inj hy.1, eN_inj _ _ hy.2]
noncomputable def Γ31 : FuncId → Option CSpec := fun f => if f = 49 then some (.pure true (g49)) else none
theorem Γ31_ok : ∀ f s, Γ31 f = some s → SpecOK Try.prog f s := by
  intro f s h
  unfold Γ31 at h
  split at h
  · rename_i hf; cases h; subst hf; exact f49_ok
  · cases h
theorem f31_ok : PureOK Try.prog 31 true g31 := by
  have hΓ := Γ31_ok
  refine pure_enc (n := 9) (rs := [.tmp 4]) Try.func31 (by kernel_rfl) rfl (by kernel_rfl) (by kernel_rfl) ?_
  rintro ⟨l, x⟩ hl
  dsimp only at hl ⊢
  refine ⟨fun _ => .bool _, fun k hz0 => ?_⟩
  have e49 := g49_eq (x := x) hl
  rw [start_frame (by simp)]; simp only [enumV, go_sem, emptyH]
  repeat (first
    | (apply axJ; (focus ((with_reducible constructor) <;> rfl)))
    | (apply awT mixedOK hΓ (by kernel_rfl); (simp (disch := omega) only [go_sem, ↓reduceIte, dk, eN, Γ31, e49] <;> with_reducible rfl))
    | ((first | apply awR hΓ | apply awG | apply awH mixedOK hΓ rfl (by kernel_rfl) | apply ovE rfl); (simp (disch := omega) only [go_sem, ↓reduceIte, dk, eN, Γ31, e49] <;> with_reducible rfl); exact trivial)
    | rfl)
  rw [has, ← idx_nonneg]
theorem f48_ok : PureOK Try.prog 48 true g31 := by
  have hΓ := Γ0_ok
  refine pure_enc (n := 18) (rs := [.tmp 4]) Try.func48 (by kernel_rfl) rfl (by kernel_rfl) (by kernel_rfl) ?_
  rintro ⟨l, x⟩ hl
  dsimp only at hl ⊢
  refine ⟨fun _ => .bool _, fun k hz0 => ?_⟩
  rw [start_frame (by simp)]; simp only [enumV, go_sem, emptyH]
  repeat (first
    | (apply axJ; (focus ((with_reducible constructor) <;> rfl)))
    | (apply awT mixedOK hΓ (by kernel_rfl); (simp (disch := omega) only [go_sem, ↓reduceIte, dk, eN] <;> with_reducible rfl))
    | ((first | apply awR hΓ | apply awG | apply awH mixedOK hΓ rfl (by kernel_rfl) | apply ovE rfl); (simp (disch := omega) only [go_sem, ↓reduceIte, dk, eN] <;> with_reducible rfl); exact trivial)
    | rfl)
  refine awp_loop_at (X := Nat) (fun i => (frame 18 [(0, .data (.list (l.map eN))), (3, .ptr 0 0), (5, .data (i64 i))])) (fun _ => [(0, .box [.data (.str x.q), .data (.str x.s), .data (.str x.d)])]) 1
    (fun i => i ≤ l.length ∧ (l.take i).any (fun y => decide (y = x)) = false) (fun i => l.length - i) 0 ⟨Nat.zero_le _, rfl⟩ (Weak.w) ?_
  rintro i ⟨hi, hpre⟩
  by_cases hi2 : i < l.length
  · have he := eq39 l[i] x
    by_cases hx : l[i] = x
    · have hid : has l x = true := List.any_eq_true.2 ⟨_, List.getElem_mem hi2, by simpa using hx⟩
      rw [decide_eq_true hx] at he
      generalize hy : l[i] = y at *
      repeat (first
        | (apply axJ; (focus ((with_reducible constructor) <;> rfl)))
        | (apply awT mixedOK hΓ (by kernel_rfl); (simp (disch := omega) only [go_sem, ↓reduceIte, dk, eN, hy, ↓he] <;> with_reducible rfl))
        | ((first | apply awR hΓ | apply awG | apply awH mixedOK hΓ rfl (by kernel_rfl) | apply ovE rfl); (simp (disch := omega) only [go_sem, ↓reduceIte, dk, eN, hy, ↓he] <;> with_reducible rfl); exact trivial)
        | rfl)
      rw [hid]
    · have hn := any_next (p := fun y => decide (y = x)) hi2 hpre (by simpa using hx)
      rw [decide_eq_false hx] at he
      generalize hy : l[i] = y at *
      repeat (first
        | (apply axJ; (focus ((with_reducible constructor) <;> rfl)))
        | (apply awT mixedOK hΓ (by kernel_rfl); (simp (disch := omega) only [go_sem, ↓reduceIte, dk, eN, hy, ↓he] <;> with_reducible rfl))
        | ((first | apply awR hΓ | apply awG | apply awH mixedOK hΓ rfl (by kernel_rfl) | apply ovE rfl); (simp (disch := omega) only [go_sem, ↓reduceIte, dk, eN, hy, ↓he] <;> with_reducible rfl); exact trivial)
        | rfl)
      exact ⟨i + 1, ⟨by omega, hn⟩, by omega, Weak.w⟩
  · have hi' : i = l.length := by omega
    subst hi'
    rw [List.take_length] at hpre
    have hid : has l x = false := hpre
    repeat (first
      | (apply axJ; (focus ((with_reducible constructor) <;> rfl)))
      | (apply awT mixedOK hΓ (by kernel_rfl); (simp (disch := omega) only [go_sem, ↓reduceIte, dk] <;> with_reducible rfl))
      | ((first | apply awR hΓ | apply awG | apply awH mixedOK hΓ rfl (by kernel_rfl) | apply ovE rfl); (simp (disch := omega) only [go_sem, ↓reduceIte, dk] <;> with_reducible rfl); exact trivial)
      | rfl)
    rw [hid]
end Go.Ab
namespace Go.Ab
open Go Go.RowKit Go.Proofs
set_option maxRecDepth 4000
set_option maxHeartbeats 40000000
theorem elemsOK_sub' {sz : Nat} {l m : List D} (h : elemsOK sz l = true) (hs : ∀ x ∈ m, x ∈ l) : elemsOK sz m = true := by
  unfold elemsOK at *
  rw [List.all_eq_true] at *
  exact fun x hx => h x (hs x hx)
def DisG (x : List Dp × Dp) (d : D) : Prop := ∃ l' : List Dp, d = .list (l'.map eDp) ∧ l'.length = x.1.length + 1 ∧ (∀ y ∈ x.1, y ∈ l') ∧ x.2 ∈ l'
theorem dis_good (l : List Dp) (s : Dp) (i : Nat) (hi : i ≤ l.length) : DisG (l, s) (.list ((l.map eDp).take i ++ [.agg [.str s.l, .str s.r]] ++ (l.map eDp).drop i)) := by
  refine ⟨l.take i ++ [s] ++ l.drop i, by simp [eDp], ?_, fun y hy => ?_, by simp⟩
  · simp only [List.length_append, List.length_take, List.length_drop, List.length_cons, List.length_nil]
    omega
  · have := List.take_append_drop i l
    rw [← this] at hy
    simp only [List.mem_append, List.mem_singleton] at hy ⊢
    rcases hy with h | h
    · exact .inl (.inl h)
    · exact .inr h
theorem f74_r {l : List Dp} {s : Dp} (hn : l.length ≤ 4096) {i : Nat} (hi : i ≤ l.length) (hΓ : ∀ f s, Γ0 f = some s → SpecOK Try.prog f s) : axp Try.prog 0 (navF Try.f74 [1, 1, 1]) (RetX Try.prog [.tmp 4] (DisG (l, s))) ((frame 54 [(0, .data (.list (l.map eDp))), (3, .ptr 0 0), (5, .data (i64 i))])) ⟨[(0, .box [.data (.str s.l), .data (.str s.r)])], 2⟩ := by
  conv => arg 3; whnf
  have hg := dis_good l s i hi
  have hel := elemsOK_map (f := eDp) (sz := 2) (fun _ => ⟨rfl, rfl⟩) l
  have hml : (l.map eDp).length = l.length := by simp
  generalize l.map eDp = m at *
  have e2 : List.take (m.length - i) (List.drop i m) = List.drop i m := List.take_of_length_le (by simp)
  have h1 : elemsOK 2 (List.take i m) = true := elemsOK_sub' hel fun x hx => List.mem_of_mem_take hx
  have h2 : elemsOK 2 (List.drop i m) = true := elemsOK_sub' hel fun x hx => List.mem_of_mem_drop hx
  have l1 : (List.take i m).length = i := by rw [List.length_take]; omega
  have l2 : (List.drop i m).length = m.length - i := List.length_drop
  refine axA ?_
  (apply axp_lane3 (nst := false) (nst' := false) [true, false, false, false, true, false, false, true, false, false, false, true] mixedOK hΓ (n1 := 12) (by kernel_rfl) (by kernel_rfl); (focus (dsimp only [List.take_succ_cons, List.take_zero, Array.toList]; (repeat (first | (apply lane3_loud; (focus rfl); (focus rfl); (simp (disch := omega) only [go_sem, ↓reduceIte, ↓lk, dk, Nat.sub_zero, Nat.zero_add, e2, h1, h2, l1, l2, look_upd] <;> with_reducible rfl); (focus (first | (simp (disch := omega) only [go_sem, ↓reduceIte, ↓lk, dk, Nat.sub_zero, Nat.zero_add, e2, h1, h2, l1, l2, look_upd]; done) | (simp (disch := omega) only [go_sem, ↓reduceIte, ↓lk, dk, Nat.sub_zero, Nat.zero_add, e2, h1, h2, l1, l2, look_upd]; omega)))) | (apply lane3_quiet; (simp (disch := omega) only [go_sem, ↓reduceIte, ↓lk, dk, Nat.sub_zero, Nat.zero_add, e2, h1, h2, l1, l2, look_upd] <;> with_reducible rfl)))); exact lane3_nil)); (focus ((repeat' (first | exact True.intro | refine And.intro ?_ ?_)); all_goals (first | (left; decide) | (left; rfl) | (right; simp (disch := omega) only [go_sem, ↓reduceIte, ↓lk, dk, Nat.sub_zero, Nat.zero_add, e2, h1, h2, l1, l2, look_upd]; try with_reducible rfl)))); (simp (disch := omega) only [go_sem, ↓reduceIte, ↓lk, dk, Nat.sub_zero, Nat.zero_add, e2, h1, h2, l1, l2, look_upd] <;> with_reducible rfl))
  have hlen : (List.take i m ++ [D.agg [.str s.l, .str s.r]] ++ List.drop i m).length = i + 1 + (m.length - i) := by simp only [List.length_append, List.length_cons, List.length_nil, l1, l2]
  generalize (List.take i m ++ [D.agg [.str s.l, .str s.r]] ++ List.drop i m) = r at *
  (repeat (first | (apply axJ; (focus ((with_reducible constructor) <;> rfl))) | ((first | apply axR hΓ | apply axG | apply ovX rfl | apply ovE rfl); (simp (disch := omega) only [go_sem, ↓reduceIte, dk, hlen] <;> with_reducible rfl); exact trivial) | rfl))
  exact hg
theorem f74_ex : ∃ g, PureOK Try.prog 74 false g ∧ ∀ x : List Dp × Dp, x.1.length ≤ 4096 → ∃ d, DisG x d ∧ g [.list (x.1.map eDp), eDp x.2] = some d := by
  have hΓ := Γ0_ok
  refine pure_ex (enc := fun x : List Dp × Dp => [.list (x.1.map eDp), eDp x.2]) (dom := fun x => x.1.length ≤ 4096) (good := DisG) (n := 54) (rs := [.tmp 4]) Try.func74 (by kernel_rfl) rfl (by kernel_rfl) (by kernel_rfl) (fun a b h => by
    simp only [List.cons.injEq, and_true, D.list.injEq] at h
    exact Prod.ext (map_inj eDp_inj h.1) (eDp_inj _ _ h.2)) ?_
  rintro ⟨l, s⟩ hn
  dsimp only at hn ⊢
  refine ⟨fun h => (by cases h), ?_⟩
  rw [show eDp s = .agg [.str s.l, .str s.r] from rfl]
  rw [start_frame (by simp)]; simp only [enumV, go_sem, emptyH]
  (repeat (first | (apply axJ; (focus ((with_reducible constructor) <;> rfl))) | ((first | apply axR hΓ | apply axG | apply ovX rfl | apply ovE rfl); (simp (disch := omega) only [go_sem, ↓reduceIte, dk] <;> with_reducible rfl); exact trivial) | rfl))
  refine axp_loop_at (X := Nat) (fun i => (frame 54 [(0, .data (.list (l.map eDp))), (3, .ptr 0 0), (5, .data (i64 i))])) (fun _ => [(0, .box [.data (.str s.l), .data (.str s.r)])]) 2
    (fun i => i ≤ l.length) (fun i => l.length - i) 0 (Nat.zero_le _) (Weak.w) ?_
  intro i hi
  by_cases hi2 : i < l.length
  · generalize hy : l[i] = y
    generalize hc1 : Op.bytesLess y.l s.l = c1
    generalize hc2 : (y.l == s.l) = c2
    generalize hc3 : Op.bytesLess y.r s.r = c3
    refine axA ?_
    refine axA ?_
    refine axp_mid (Y := Bool) (fun b => (frame 54 [(0, .data (.list (l.map eDp))), (3, .ptr 0 0), (5, .data (i64 i)), (39, .data (.bool b))])) (fun _ => [(0, .box [.data (.str s.l), .data (.str s.r)])]) (fun _ => 2) (fun _ => True) ?_ ?_
    · ((first | apply axp_regB hΓ | (apply axp_regfB mixedOK hΓ (by kernel_rfl); (simp only [go_sem] <;> with_reducible rfl)) | (apply axp_regtB mixedOK hΓ rfl (by kernel_rfl); (simp only [go_sem] <;> with_reducible rfl))); (try simp (disch := omega) only [go_sem, ↓reduceIte, dk, eDp, hy, hc1, hc2, hc3]); (repeat' (first | (first | refine runs_some ?_ | (refine runsQ_some ?_; (try simp (disch := omega) only [go_sem, ↓reduceIte, dk, eDp, hy, hc1, hc2, hc3]); refine runs_some ?_) | refine runsQ_some ?_) | ((first | show Runs _ _ | show RunsQ _ _); (first | cases c1 | cases c2 | cases c3) <;> (try simp (disch := omega) only [go_sem, ↓reduceIte, dk, eDp, hy, hc1, hc2, hc3])))))
      all_goals exact ⟨_, Weak.u⟩
    rintro b -
    cases b with
    | true =>
      (repeat (first | (apply axJ; (focus ((with_reducible constructor) <;> rfl))) | ((first | apply axR hΓ | apply axG | apply ovX rfl | apply ovE rfl); (simp (disch := omega) only [go_sem, ↓reduceIte, dk] <;> with_reducible rfl); exact trivial) | rfl))
      exact ⟨i + 1, by omega, by omega, Weak.w⟩
    | false =>
      (repeat (first | (refine axA ?_; first | (apply axR hΓ; (simp (disch := omega) only [go_sem, ↓reduceIte, dk] <;> with_reducible rfl); exact trivial) | refine axA ?_ | refine axB ?_) | refine axB ?_ | (apply axK; (focus ((with_reducible constructor) <;> rfl))) | ((first | apply axR hΓ | apply axG | apply ovX rfl | apply ovE rfl); (simp (disch := omega) only [go_sem, ↓reduceIte, dk] <;> with_reducible rfl); exact trivial) | rfl))
      exact axp_weak (Weak.w) (f74_r hn hi hΓ)
  · refine axA ?_
    refine axA ?_
    (apply axp_regf mixedOK hΓ (by kernel_rfl); (simp (disch := omega) only [go_sem, ↓reduceIte, dk] <;> with_reducible rfl); (simp only [go_sem] <;> with_reducible rfl))
    (repeat (first | (refine axA ?_; first | (apply axR hΓ; (simp (disch := omega) only [go_sem, ↓reduceIte, dk] <;> with_reducible rfl); exact trivial) | refine axA ?_ | refine axB ?_) | refine axB ?_ | (apply axK; (focus ((with_reducible constructor) <;> rfl))) | ((first | apply axR hΓ | apply axG | apply ovX rfl | apply ovE rfl); (simp (disch := omega) only [go_sem, ↓reduceIte, dk] <;> with_reducible rfl); exact trivial) | rfl))
    exact axp_weak (Weak.w) (f74_r hn hi hΓ)
noncomputable def g74 := f74_ex.choose
theorem f74_ok : PureOK Try.prog 74 false g74 := f74_ex.choose_spec.1
theorem g74_eq {l : List Dp} {s : Dp} (h : l.length ≤ 4096) : ∃ l' : List Dp, g74 [.list (l.map eDp), .agg [.str s.l, .str s.r]] = some (.list (l'.map eDp)) ∧ l'.length = l.length + 1 ∧ (∀ y ∈ l, y ∈ l') ∧ s ∈ l' := by
  obtain ⟨d, ⟨l', rfl, h1, h2, h4⟩, h3⟩ := f74_ex.choose_spec.2 (l, s) h
  exact ⟨l', h3, h1, h2, h4⟩
noncomputable def g73 : List D → Option D := encSpec (fun d : Dc => [eDc d]) (fun _ => True) (fun d => .bool (!d.w && !d.o && !d.rp))
theorem g73_eq (d : Dc) : g73 [.agg [.str d.id, .str d.author, .str d.q, .str d.s, .str d.ans, .str d.dig, .int .i64 d.til, .bool d.w, .bool d.o, .bool d.rp]] = some (.bool (!d.w && !d.o && !d.rp)) := encSpec_eq (enc := fun d : Dc => [eDc d]) (x := d) trivial fun y hy => by
  simp only [List.cons.injEq, and_true] at hy
  rw [eDc_inj _ _ hy]
theorem f73_ok : PureOK Try.prog 73 true g73 := by
  have hΓ := Γ0_ok
  refine pure_enc (n := 16) (rs := [.tmp 2]) Try.func73 (by kernel_rfl) rfl (by kernel_rfl) (by kernel_rfl) ?_
  rintro ⟨a, b, c, d, e, f, g, w, o, r⟩ _
  refine ⟨fun _ => .bool _, fun k hz0 => axp_awp (b := 0) ?_ hz0⟩
  refine axp_mono (Q := RetX Try.prog [.tmp 2] (fun x => x = .bool (!w && !o && !r))) ?_ (by rintro e sl H ⟨d, rfl, h⟩; exact h)
  rw [start_frame (by simp)]; simp only [enumV, go_sem, emptyH]
  cases w <;> cases o <;> cases r <;> ((repeat (first | (apply axJ; (focus ((with_reducible constructor) <;> rfl))) | (apply axT mixedOK hΓ (by kernel_rfl); (simp (disch := omega) only [go_sem, ↓reduceIte, dk] <;> with_reducible rfl)) | ((first | apply axR hΓ | apply axG | apply axH mixedOK hΓ rfl (by kernel_rfl) | apply ovX rfl | apply ovE rfl); (simp (disch := omega) only [go_sem, ↓reduceIte, dk] <;> with_reducible rfl); exact trivial) | rfl)); (skip))
end Go.Ab
