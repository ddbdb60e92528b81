/-
  One text of the proof (own work): contracts of functions of the program, by the abstract machine.
-/
import Derived.Test.YtdodjhiofpiaaaaDoorX19
import Derived.Test.YtdodjhiofpiaaaaDoorX25
set_option linter.unusedVariables false
set_option linter.unusedSimpArgs false
namespace Go.Ab
open Go Go.RowKit Go.Proofs
set_option maxRecDepth 10000
set_option maxHeartbeats 8000000
def idx {α : Type} (p : α → Bool) (l : List α) : Int := match l.findIdx? p with
  | some i => i
  | none => -1
theorem idx_at {α : Type} {p : α → Bool} {l : List α} {i : Nat} (hi : i < l.length) (hp : p l[i] = true) (hb : (l.take i).any p = false) : idx p l = i := by
  have h : l.findIdx? p = some i := by
    rw [List.findIdx?_eq_some_iff_getElem]
    refine ⟨hi, hp, fun j hj => ?_⟩
    have hm : l[j] ∈ l.take i := List.mem_take_iff_getElem.2 ⟨j, by omega, rfl⟩
    simpa using List.any_eq_false.1 hb _ hm
  simp only [idx, h]
theorem idx_none {α : Type} {p : α → Bool} {l : List α} (hb : l.any p = false) : idx p l = -1 := by
  have h : l.findIdx? p = none := by
    rw [List.findIdx?_eq_none_iff]
    intro x hx
    simpa using List.any_eq_false.1 hb x hx
  simp only [idx, h]
theorem idx_nonneg {α : Type} (p : α → Bool) (l : List α) : decide (idx p l ≥ 0) = l.any p := by
  unfold idx
  cases h : l.findIdx? p with
  | none =>
    rw [List.findIdx?_eq_none_iff] at h
    have h2 : l.any p = false := List.any_eq_false.2 fun x hx => by simp [h x hx]
    rw [h2]; rfl
  | some i =>
    obtain ⟨h1, h2, _⟩ := List.findIdx?_eq_some_iff_getElem.1 h
    have h3 : l.any p = true := List.any_eq_true.2 ⟨_, List.getElem_mem h1, h2⟩
    rw [h3]
    simp
noncomputable def Γc (b : Bool) (f : FuncId) (g : List D → Option D) : FuncId → Option CSpec := fun f' => if f' = f then some (.pure b g) else none
theorem Γc_ok {b : Bool} {f : FuncId} {g : List D → Option D} (h : PureOK Tryd.prog f b g) : ∀ f' s, Γc b f g f' = some s → SpecOK Tryd.prog f' s := by
  intro f' s hs
  unfold Γc at hs
  split at hs
  · rename_i e; subst e; cases hs; exact h
  · cases hs
noncomputable def gIdxD {α : Type} (e : α → D) (dm : α → Prop) (f : FuncId) (caps : List D) (p : α → Bool) : List D → Option D := encSpec (fun l : List α => [.list (l.map e), .clo f caps]) (fun l => l.length ≤ 1099511627776 ∧ ∀ x ∈ l, dm x) (fun l => i64 (idx p l))
theorem gIdxD_eq {α : Type} {e : α → D} {dm : α → Prop} (he : ∀ a b, e a = e b → a = b) {f : FuncId} {caps : List D} {p : α → Bool} {l : List α} (h : l.length ≤ 1099511627776) (hd : ∀ x ∈ l, dm x) : gIdxD e dm f caps p [.list (l.map e), .clo f caps] = some (.int .i64 (idx p l)) :=
  encSpec_eq (x := l) ⟨h, hd⟩ fun y hy => by
    simp only [List.cons.injEq, D.list.injEq, and_true] at hy
    rw [List.map_inj_right he |>.1 hy]
noncomputable def gAnyD {α : Type} (e : α → D) (dm : α → Prop) (f : FuncId) (caps : List D) (p : α → Bool) : List D → Option D := encSpec (fun l : List α => [.list (l.map e), .clo f caps]) (fun l => l.length ≤ 1099511627776 ∧ ∀ x ∈ l, dm x) (fun l => .bool (l.any p))
theorem gAnyD_eq {α : Type} {e : α → D} {dm : α → Prop} (he : ∀ a b, e a = e b → a = b) {f : FuncId} {caps : List D} {p : α → Bool} {l : List α} (h : l.length ≤ 1099511627776) (hd : ∀ x ∈ l, dm x) : gAnyD e dm f caps p [.list (l.map e), .clo f caps] = some (.bool (l.any p)) :=
  encSpec_eq (x := l) ⟨h, hd⟩ fun y hy => by
    simp only [List.cons.injEq, D.list.injEq, and_true] at hy
    rw [List.map_inj_right he |>.1 hy]
theorem freeze_data (H : Heap) : ∀ l : List D, freeze H (l.map AV.data) = some H
  | [] => rfl
  | d :: l => by
    have ih := freeze_data H l
    rw [List.map_cons]
    cases d <;> first | exact ih | (unfold freeze; exact ih) | (simp [freeze, AV.closed, ih])
def eRow (l : List Pt) : D := .list (l.map ePt)
@[go_sem] theorem eRow_eq (l : List Pt) : eRow l = .list (l.map ePt) := rfl
theorem eRow_inj (a b : List Pt) (h : eRow a = eRow b) : a = b := by
  simp only [eRow, D.list.injEq, ePts_ie] at h
  exact h
@[go_sem] theorem elemsOK_row (l : List (List Pt)) : elemsOK 1 (l.map eRow) = true := elemsOK_map (f := eRow) (fun _ => ⟨by rfl, by rfl⟩) l
theorem str_inj' (a b : Bs) (h : D.str a = D.str b) : a = b := by cases h; rfl
theorem f_idxS_ok {dm : _ → Prop} {f : FuncId} {g : List D → Option D} {caps : List D} {p : _ → Bool} (hf : PureOK Tryd.prog f true g) (hp : ∀ x, dm x → g (D.str x :: caps) = some (.bool (p x))) : PureOK Tryd.prog 60 true (gIdxD D.str dm f caps p) := by
  have hΓ := Γc_ok hf
  refine pure_enc (n := 19) (rs := [.tmp 4]) Tryd.func60 (by kernel_rfl) rfl (by kernel_rfl) (by kernel_rfl) ?_
  rintro l ⟨hlen, hdm⟩
  refine ⟨fun _ => .int _ _, fun k hz0 => ?_⟩
  rw [start_frame (by simp)]; simp only [enumV, go_sem, emptyH]
  repeat (first
    | (apply axJ; (focus ((with_reducible constructor) <;> rfl)))
    | (apply awT mixedOK hΓ (by kernel_rfl); (simp (disch := omega) only [go_sem, ↓reduceIte, dk, ↓lk] <;> with_reducible rfl))
    | ((first | apply awR hΓ | apply awG | apply awH mixedOK hΓ rfl (by kernel_rfl) | apply ovE rfl); (simp (disch := omega) only [go_sem, ↓reduceIte, dk, ↓lk] <;> with_reducible rfl); exact trivial)
    | rfl)
  refine awp_loop_at (X := Nat) (fun i => (frame 19 [(0, .data (.list (l.map .str))), (1, .data (.clo f caps)), (7, .data (i64 l.length)), (8, .data (i64 i))])) (fun _ => []) 9
    (fun i => i ≤ l.length ∧ (l.take i).any p = false) (fun i => l.length - i) 0 ⟨Nat.zero_le _, rfl⟩ (Weak.w) ?_
  rintro i ⟨hi, hpre⟩
  by_cases hi' : i < l.length
  · have hp' := hp _ (hdm _ (List.getElem_mem hi'))
    have hat := fun h => idx_at (p := p) hi' h hpre
    have hnx := fun h => any_next (p := p) hi' hpre h
    try simp only [go_sem] at hp'
    generalize hy : l[i] = y at *
    generalize p y = c at *
    cases c
    · repeat (first
      | (apply axJ; (focus ((with_reducible constructor) <;> rfl)))
      | (apply awT mixedOK hΓ (by kernel_rfl); (simp (disch := omega) only [go_sem, ↓reduceIte, dk, ↓lk, Γc, hp', hy, freeze_data] <;> with_reducible rfl))
      | ((first | apply awR hΓ | apply awG | apply awH mixedOK hΓ rfl (by kernel_rfl) | apply ovE rfl); (simp (disch := omega) only [go_sem, ↓reduceIte, dk, ↓lk, Γc, hp', hy, freeze_data] <;> with_reducible rfl); exact trivial)
      | rfl)
      exact ⟨i + 1, ⟨by omega, hnx rfl⟩, by omega, Weak.w⟩
    · rw [hat rfl]
      repeat (first
        | (apply axJ; (focus ((with_reducible constructor) <;> rfl)))
        | (apply awT mixedOK hΓ (by kernel_rfl); (simp (disch := omega) only [go_sem, ↓reduceIte, dk, ↓lk, Γc, hp', hy, freeze_data] <;> with_reducible rfl))
        | ((first | apply awR hΓ | apply awG | apply awH mixedOK hΓ rfl (by kernel_rfl) | apply ovE rfl); (simp (disch := omega) only [go_sem, ↓reduceIte, dk, ↓lk, Γc, hp', hy, freeze_data] <;> with_reducible rfl); exact trivial)
        | rfl)
      try rfl
  · have hi3 : i = l.length := by omega
    subst hi3
    rw [List.take_length] at hpre
    rw [idx_none hpre]
    repeat (first
      | (apply axJ; (focus ((with_reducible constructor) <;> rfl)))
      | (apply awT mixedOK hΓ (by kernel_rfl); (simp (disch := omega) only [go_sem, ↓reduceIte, dk, ↓lk] <;> with_reducible rfl))
      | ((first | apply awR hΓ | apply awG | apply awH mixedOK hΓ rfl (by kernel_rfl) | apply ovE rfl); (simp (disch := omega) only [go_sem, ↓reduceIte, dk, ↓lk] <;> with_reducible rfl); exact trivial)
      | rfl)
    try rfl
theorem f_anyS_ok {dm : _ → Prop} {f : FuncId} {g : List D → Option D} {caps : List D} {p : _ → Bool} (hf : PureOK Tryd.prog f true g) (hp : ∀ x, dm x → g (D.str x :: caps) = some (.bool (p x))) : PureOK Tryd.prog 39 true (gAnyD D.str dm f caps p) := by
  have hΓ := Γc_ok (f_idxS_ok (dm := dm) hf hp)
  refine pure_enc (n := 9) (rs := [.tmp 4]) Tryd.func39 (by kernel_rfl) rfl (by kernel_rfl) (by kernel_rfl) ?_
  rintro l ⟨hlen, hdm⟩
  refine ⟨fun _ => .bool _, fun k hz0 => ?_⟩
  have hi := gIdxD_eq (e := D.str) (dm := dm) str_inj' (f := f) (caps := caps) (p := p) hlen hdm
  have hn := idx_nonneg p l
  generalize idx p l = n at *
  rw [← hn]
  rw [start_frame (by simp)]; simp only [enumV, go_sem, emptyH]
  generalize hc : decide (n ≥ 0) = c
  cases c
  · repeat (first
    | (apply axJ; (focus ((with_reducible constructor) <;> rfl)))
    | (apply awT mixedOK hΓ (by kernel_rfl); (simp (disch := omega) only [go_sem, ↓reduceIte, dk, ↓lk, Γc, hi, hc] <;> with_reducible rfl))
    | ((first | apply awR hΓ | apply awG | apply awH mixedOK hΓ rfl (by kernel_rfl) | apply ovE rfl); (simp (disch := omega) only [go_sem, ↓reduceIte, dk, ↓lk, Γc, hi, hc] <;> with_reducible rfl); exact trivial)
    | rfl)
    try rfl
  · repeat (first
    | (apply axJ; (focus ((with_reducible constructor) <;> rfl)))
    | (apply awT mixedOK hΓ (by kernel_rfl); (simp (disch := omega) only [go_sem, ↓reduceIte, dk, ↓lk, Γc, hi, hc] <;> with_reducible rfl))
    | ((first | apply awR hΓ | apply awG | apply awH mixedOK hΓ rfl (by kernel_rfl) | apply ovE rfl); (simp (disch := omega) only [go_sem, ↓reduceIte, dk, ↓lk, Γc, hi, hc] <;> with_reducible rfl); exact trivial)
    | rfl)
    try rfl
theorem f_idxG_ok {dm : _ → Prop} {f : FuncId} {g : List D → Option D} {caps : List D} {p : _ → Bool} (hf : PureOK Tryd.prog f false g) (hp : ∀ x, dm x → g (eGp x :: caps) = some (.bool (p x))) : PureOK Tryd.prog 69 false (gIdxD eGp dm f caps p) := by
  have hΓ := Γc_ok hf
  refine pure_enc (n := 19) (rs := [.tmp 4]) Tryd.func69 (by kernel_rfl) rfl (by kernel_rfl) (by kernel_rfl) ?_
  rintro l ⟨hlen, hdm⟩
  refine ⟨fun _ => .int _ _, fun k hz0 => ?_⟩
  rw [start_frame (by simp)]; simp only [enumV, go_sem, emptyH]
  repeat (first
    | (apply axJ; (focus ((with_reducible constructor) <;> rfl)))
    | (apply awT mixedOK hΓ (by kernel_rfl); (simp (disch := omega) only [go_sem, ↓reduceIte, dk, ↓lk] <;> with_reducible rfl))
    | ((first | apply awR hΓ | apply awG | apply awH mixedOK hΓ rfl (by kernel_rfl) | apply ovE rfl); (simp (disch := omega) only [go_sem, ↓reduceIte, dk, ↓lk] <;> with_reducible rfl); exact trivial)
    | rfl)
  refine awp_loop_at (X := Nat) (fun i => (frame 19 [(0, .data (.list (l.map eGp))), (1, .data (.clo f caps)), (7, .data (i64 l.length)), (8, .data (i64 i))])) (fun _ => []) 9
    (fun i => i ≤ l.length ∧ (l.take i).any p = false) (fun i => l.length - i) 0 ⟨Nat.zero_le _, rfl⟩ (Weak.w) ?_
  rintro i ⟨hi, hpre⟩
  by_cases hi' : i < l.length
  · have hp' := hp _ (hdm _ (List.getElem_mem hi'))
    have hat := fun h => idx_at (p := p) hi' h hpre
    have hnx := fun h => any_next (p := p) hi' hpre h
    try simp only [go_sem] at hp'
    generalize hy : l[i] = y at *
    generalize p y = c at *
    cases c
    · repeat (first
      | (apply axJ; (focus ((with_reducible constructor) <;> rfl)))
      | (apply awT mixedOK hΓ (by kernel_rfl); (simp (disch := omega) only [go_sem, ↓reduceIte, dk, ↓lk, Γc, hp', hy, freeze_data] <;> with_reducible rfl))
      | ((first | apply awR hΓ | apply awG | apply awH mixedOK hΓ rfl (by kernel_rfl) | apply ovE rfl); (simp (disch := omega) only [go_sem, ↓reduceIte, dk, ↓lk, Γc, hp', hy, freeze_data] <;> with_reducible rfl); exact trivial)
      | rfl)
      exact ⟨i + 1, ⟨by omega, hnx rfl⟩, by omega, Weak.w⟩
    · rw [hat rfl]
      repeat (first
        | (apply axJ; (focus ((with_reducible constructor) <;> rfl)))
        | (apply awT mixedOK hΓ (by kernel_rfl); (simp (disch := omega) only [go_sem, ↓reduceIte, dk, ↓lk, Γc, hp', hy, freeze_data] <;> with_reducible rfl))
        | ((first | apply awR hΓ | apply awG | apply awH mixedOK hΓ rfl (by kernel_rfl) | apply ovE rfl); (simp (disch := omega) only [go_sem, ↓reduceIte, dk, ↓lk, Γc, hp', hy, freeze_data] <;> with_reducible rfl); exact trivial)
        | rfl)
      try rfl
  · have hi3 : i = l.length := by omega
    subst hi3
    rw [List.take_length] at hpre
    rw [idx_none hpre]
    repeat (first
      | (apply axJ; (focus ((with_reducible constructor) <;> rfl)))
      | (apply awT mixedOK hΓ (by kernel_rfl); (simp (disch := omega) only [go_sem, ↓reduceIte, dk, ↓lk] <;> with_reducible rfl))
      | ((first | apply awR hΓ | apply awG | apply awH mixedOK hΓ rfl (by kernel_rfl) | apply ovE rfl); (simp (disch := omega) only [go_sem, ↓reduceIte, dk, ↓lk] <;> with_reducible rfl); exact trivial)
      | rfl)
    try rfl
theorem f_anyG_ok {dm : _ → Prop} {f : FuncId} {g : List D → Option D} {caps : List D} {p : _ → Bool} (hf : PureOK Tryd.prog f false g) (hp : ∀ x, dm x → g (eGp x :: caps) = some (.bool (p x))) : PureOK Tryd.prog 48 false (gAnyD eGp dm f caps p) := by
  have hΓ := Γc_ok (f_idxG_ok (dm := dm) hf hp)
  refine pure_enc (n := 9) (rs := [.tmp 4]) Tryd.func48 (by kernel_rfl) rfl (by kernel_rfl) (by kernel_rfl) ?_
  rintro l ⟨hlen, hdm⟩
  refine ⟨fun _ => .bool _, fun k hz0 => ?_⟩
  have hi := gIdxD_eq (e := eGp) (dm := dm) eGp_inj (f := f) (caps := caps) (p := p) hlen hdm
  have hn := idx_nonneg p l
  generalize idx p l = n at *
  rw [← hn]
  rw [start_frame (by simp)]; simp only [enumV, go_sem, emptyH]
  generalize hc : decide (n ≥ 0) = c
  cases c
  · repeat (first
    | (apply axJ; (focus ((with_reducible constructor) <;> rfl)))
    | (apply awT mixedOK hΓ (by kernel_rfl); (simp (disch := omega) only [go_sem, ↓reduceIte, dk, ↓lk, Γc, hi, hc] <;> with_reducible rfl))
    | ((first | apply awR hΓ | apply awG | apply awH mixedOK hΓ rfl (by kernel_rfl) | apply ovE rfl); (simp (disch := omega) only [go_sem, ↓reduceIte, dk, ↓lk, Γc, hi, hc] <;> with_reducible rfl); exact trivial)
    | rfl)
    try rfl
  · repeat (first
    | (apply axJ; (focus ((with_reducible constructor) <;> rfl)))
    | (apply awT mixedOK hΓ (by kernel_rfl); (simp (disch := omega) only [go_sem, ↓reduceIte, dk, ↓lk, Γc, hi, hc] <;> with_reducible rfl))
    | ((first | apply awR hΓ | apply awG | apply awH mixedOK hΓ rfl (by kernel_rfl) | apply ovE rfl); (simp (disch := omega) only [go_sem, ↓reduceIte, dk, ↓lk, Γc, hi, hc] <;> with_reducible rfl); exact trivial)
    | rfl)
    try rfl
theorem f_idxR_ok {dm : _ → Prop} {f : FuncId} {g : List D → Option D} {caps : List D} {p : _ → Bool} (hf : PureOK Tryd.prog f false g) (hp : ∀ x, dm x → g (eRow x :: caps) = some (.bool (p x))) : PureOK Tryd.prog 66 false (gIdxD eRow dm f caps p) := by
  have hΓ := Γc_ok hf
  refine pure_enc (n := 19) (rs := [.tmp 4]) Tryd.func66 (by kernel_rfl) rfl (by kernel_rfl) (by kernel_rfl) ?_
  rintro l ⟨hlen, hdm⟩
  refine ⟨fun _ => .int _ _, fun k hz0 => ?_⟩
  rw [start_frame (by simp)]; simp only [enumV, go_sem, emptyH]
  repeat (first
    | (apply axJ; (focus ((with_reducible constructor) <;> rfl)))
    | (apply awT mixedOK hΓ (by kernel_rfl); (simp (disch := omega) only [go_sem, ↓reduceIte, dk, ↓lk] <;> with_reducible rfl))
    | ((first | apply awR hΓ | apply awG | apply awH mixedOK hΓ rfl (by kernel_rfl) | apply ovE rfl); (simp (disch := omega) only [go_sem, ↓reduceIte, dk, ↓lk] <;> with_reducible rfl); exact trivial)
    | rfl)
  refine awp_loop_at (X := Nat) (fun i => (frame 19 [(0, .data (.list (l.map eRow))), (1, .data (.clo f caps)), (7, .data (i64 l.length)), (8, .data (i64 i))])) (fun _ => []) 9
    (fun i => i ≤ l.length ∧ (l.take i).any p = false) (fun i => l.length - i) 0 ⟨Nat.zero_le _, rfl⟩ (Weak.w) ?_
  rintro i ⟨hi, hpre⟩
  by_cases hi' : i < l.length
  · have hp' := hp _ (hdm _ (List.getElem_mem hi'))
    have hat := fun h => idx_at (p := p) hi' h hpre
    have hnx := fun h => any_next (p := p) hi' hpre h
    try simp only [go_sem] at hp'
    generalize hy : l[i] = y at *
    generalize p y = c at *
    cases c
    · repeat (first
      | (apply axJ; (focus ((with_reducible constructor) <;> rfl)))
      | (apply awT mixedOK hΓ (by kernel_rfl); (simp (disch := omega) only [go_sem, ↓reduceIte, dk, ↓lk, Γc, hp', hy, freeze_data] <;> with_reducible rfl))
      | ((first | apply awR hΓ | apply awG | apply awH mixedOK hΓ rfl (by kernel_rfl) | apply ovE rfl); (simp (disch := omega) only [go_sem, ↓reduceIte, dk, ↓lk, Γc, hp', hy, freeze_data] <;> with_reducible rfl); exact trivial)
      | rfl)
      exact ⟨i + 1, ⟨by omega, hnx rfl⟩, by omega, Weak.w⟩
    · rw [hat rfl]
      repeat (first
        | (apply axJ; (focus ((with_reducible constructor) <;> rfl)))
        | (apply awT mixedOK hΓ (by kernel_rfl); (simp (disch := omega) only [go_sem, ↓reduceIte, dk, ↓lk, Γc, hp', hy, freeze_data] <;> with_reducible rfl))
        | ((first | apply awR hΓ | apply awG | apply awH mixedOK hΓ rfl (by kernel_rfl) | apply ovE rfl); (simp (disch := omega) only [go_sem, ↓reduceIte, dk, ↓lk, Γc, hp', hy, freeze_data] <;> with_reducible rfl); exact trivial)
        | rfl)
      try rfl
  · have hi3 : i = l.length := by omega
    subst hi3
    rw [List.take_length] at hpre
    rw [idx_none hpre]
    repeat (first
      | (apply axJ; (focus ((with_reducible constructor) <;> rfl)))
      | (apply awT mixedOK hΓ (by kernel_rfl); (simp (disch := omega) only [go_sem, ↓reduceIte, dk, ↓lk] <;> with_reducible rfl))
      | ((first | apply awR hΓ | apply awG | apply awH mixedOK hΓ rfl (by kernel_rfl) | apply ovE rfl); (simp (disch := omega) only [go_sem, ↓reduceIte, dk, ↓lk] <;> with_reducible rfl); exact trivial)
      | rfl)
    try rfl
theorem f_anyR_ok {dm : _ → Prop} {f : FuncId} {g : List D → Option D} {caps : List D} {p : _ → Bool} (hf : PureOK Tryd.prog f false g) (hp : ∀ x, dm x → g (eRow x :: caps) = some (.bool (p x))) : PureOK Tryd.prog 45 false (gAnyD eRow dm f caps p) := by
  have hΓ := Γc_ok (f_idxR_ok (dm := dm) hf hp)
  refine pure_enc (n := 9) (rs := [.tmp 4]) Tryd.func45 (by kernel_rfl) rfl (by kernel_rfl) (by kernel_rfl) ?_
  rintro l ⟨hlen, hdm⟩
  refine ⟨fun _ => .bool _, fun k hz0 => ?_⟩
  have hi := gIdxD_eq (e := eRow) (dm := dm) eRow_inj (f := f) (caps := caps) (p := p) hlen hdm
  have hn := idx_nonneg p l
  generalize idx p l = n at *
  rw [← hn]
  rw [start_frame (by simp)]; simp only [enumV, go_sem, emptyH]
  generalize hc : decide (n ≥ 0) = c
  cases c
  · repeat (first
    | (apply axJ; (focus ((with_reducible constructor) <;> rfl)))
    | (apply awT mixedOK hΓ (by kernel_rfl); (simp (disch := omega) only [go_sem, ↓reduceIte, dk, ↓lk, Γc, hi, hc] <;> with_reducible rfl))
    | ((first | apply awR hΓ | apply awG | apply awH mixedOK hΓ rfl (by kernel_rfl) | apply ovE rfl); (simp (disch := omega) only [go_sem, ↓reduceIte, dk, ↓lk, Γc, hi, hc] <;> with_reducible rfl); exact trivial)
    | rfl)
    try rfl
  · repeat (first
    | (apply axJ; (focus ((with_reducible constructor) <;> rfl)))
    | (apply awT mixedOK hΓ (by kernel_rfl); (simp (disch := omega) only [go_sem, ↓reduceIte, dk, ↓lk, Γc, hi, hc] <;> with_reducible rfl))
    | ((first | apply awR hΓ | apply awG | apply awH mixedOK hΓ rfl (by kernel_rfl) | apply ovE rfl); (simp (disch := omega) only [go_sem, ↓reduceIte, dk, ↓lk, Γc, hi, hc] <;> with_reducible rfl); exact trivial)
    | rfl)
    try rfl
end Go.Ab
namespace Go.Ab
open Go Go.RowKit Go.Proofs
set_option maxRecDepth 10000
set_option maxHeartbeats 8000000
def fitB (g : Gp) (p : Pt) : Bool := g.name == p.sep && (decide ((g.words.length : Int) ≥ p.least) && (p.many || (g.words.length : Int) == p.least))
noncomputable def g_fitC : List D → Option D := encSpec (fun x : Gp × Pt => [eGp x.1, ePt x.2]) (fun x : Gp × Pt => x.1.words.length ≤ 1099511627776) (fun x : Gp × Pt => .bool (fitB x.1 x.2))
theorem g_fitC_eq {g : Gp} {p : Pt} (hd : g.words.length ≤ 1099511627776) : g_fitC [eGp g, ePt p] = some (.bool (fitB g p)) := encSpec_eq (x := (g, p)) hd fun y hy => by
    obtain ⟨y0, y1⟩ := y; simp only [List.cons.injEq, and_true, true_and, D.str.injEq, D.int.injEq, D.list.injEq, D.bool.injEq, D.agg.injEq, D.clo.injEq, Int.natCast_inj, inj_ie, eGp_ie', ePt_ie, ePts_ie, eGps_ie, D.ref.injEq] at hy
    (try obtain ⟨rfl, rfl⟩ := hy)
    (try subst_vars)
    rfl
theorem f_fitC_ok : PureOK Tryd.prog 68 false g_fitC := by
  have hΓ := Γ0_ok
  refine pure_enc (n := 30) (rs := [.tmp 4]) Tryd.func68 (by kernel_rfl) rfl (by kernel_rfl) (by kernel_rfl) ?_
  rintro ⟨g, p⟩ hd
  (try dsimp only at hd ⊢)
  refine ⟨fun h => (by cases h), fun k hz0 => ?_⟩
  unfold fitB
  rw [eGp_eq, ePt_eq]
  rw [start_frame (by simp)]; simp only [enumV, go_sem, emptyH]
  generalize h1 : (g.name == p.sep) = c1
  generalize h2 : decide ((g.words.length : Int) ≥ p.least) = c2
  generalize h4 : ((g.words.length : Int) == p.least) = c4
  generalize p.many = c3
  cases c1
  · repeat (first
    | (apply axJ; (focus ((with_reducible constructor) <;> rfl)))
    | (apply awT mixedOK hΓ (by kernel_rfl); (simp (disch := omega) only [go_sem, ↓reduceIte, dk, ↓lk, h1, h2, h4] <;> with_reducible rfl))
    | ((first | apply awR hΓ | apply awG | apply awH mixedOK hΓ rfl (by kernel_rfl) | apply ovE rfl); (simp (disch := omega) only [go_sem, ↓reduceIte, dk, ↓lk, h1, h2, h4] <;> with_reducible rfl); exact trivial)
    | rfl)
    try rfl
  cases c2
  · repeat (first
    | (apply axJ; (focus ((with_reducible constructor) <;> rfl)))
    | (apply awT mixedOK hΓ (by kernel_rfl); (simp (disch := omega) only [go_sem, ↓reduceIte, dk, ↓lk, h1, h2, h4] <;> with_reducible rfl))
    | ((first | apply awR hΓ | apply awG | apply awH mixedOK hΓ rfl (by kernel_rfl) | apply ovE rfl); (simp (disch := omega) only [go_sem, ↓reduceIte, dk, ↓lk, h1, h2, h4] <;> with_reducible rfl); exact trivial)
    | rfl)
    try rfl
  cases c3
  rotate_left
  · repeat (first
    | (apply axJ; (focus ((with_reducible constructor) <;> rfl)))
    | (apply awT mixedOK hΓ (by kernel_rfl); (simp (disch := omega) only [go_sem, ↓reduceIte, dk, ↓lk, h1, h2, h4] <;> with_reducible rfl))
    | ((first | apply awR hΓ | apply awG | apply awH mixedOK hΓ rfl (by kernel_rfl) | apply ovE rfl); (simp (disch := omega) only [go_sem, ↓reduceIte, dk, ↓lk, h1, h2, h4] <;> with_reducible rfl); exact trivial)
    | rfl)
    try rfl
  · repeat (first
    | (apply axJ; (focus ((with_reducible constructor) <;> rfl)))
    | (apply awT mixedOK hΓ (by kernel_rfl); (simp (disch := omega) only [go_sem, ↓reduceIte, dk, ↓lk, h1, h2, h4] <;> with_reducible rfl))
    | ((first | apply awR hΓ | apply awG | apply awH mixedOK hΓ rfl (by kernel_rfl) | apply ovE rfl); (simp (disch := omega) only [go_sem, ↓reduceIte, dk, ↓lk, h1, h2, h4] <;> with_reducible rfl); exact trivial)
    | rfl)
    try rfl
def fitsB : List Gp → List Pt → Bool
  | [], [] => true
  | g :: gs, p :: ps => fitB g p && fitsB gs ps
  | _, _ => false
theorem fits_drop {a : List Gp} {b : List Pt} {i : Nat} (h1 : i < a.length) (h2 : i < b.length) : fitsB (a.drop i) (b.drop i) = (fitB a[i] b[i] && fitsB (a.drop (i + 1)) (b.drop (i + 1))) := by
  rw [List.drop_eq_getElem_cons h1, List.drop_eq_getElem_cons h2, fitsB]
theorem fits_ne : ∀ (a : List Gp) (b : List Pt), a.length ≠ b.length → fitsB a b = false
  | [], [], h => absurd rfl h
  | [], _ :: _, _ => rfl
  | _ :: _, [], _ => rfl
  | g :: a, p :: b, h => by
    rw [fitsB, fits_ne a b (fun e => h (by simp [e])), Bool.and_false]
noncomputable def g_eqF : List D → Option D := encSpec (fun x : (List Gp) × (List Pt) => [.list (x.1.map eGp), .list (x.2.map ePt), .clo 68 []]) (fun x : (List Gp) × (List Pt) => x.1.length ≤ 1099511627776 ∧ x.2.length ≤ 1099511627776 ∧ ∀ w ∈ x.1, w.words.length ≤ 1099511627776) (fun x : (List Gp) × (List Pt) => .bool (fitsB x.1 x.2))
theorem g_eqF_eq {a : List Gp} {b : List Pt} (hd : a.length ≤ 1099511627776 ∧ b.length ≤ 1099511627776 ∧ ∀ w ∈ a, w.words.length ≤ 1099511627776) : g_eqF [.list (a.map eGp), .list (b.map ePt), .clo 68 []] = some (.bool (fitsB a b)) := encSpec_eq (x := (a, b)) hd fun y hy => by
    obtain ⟨y0, y1⟩ := y; simp only [List.cons.injEq, and_true, true_and, D.str.injEq, D.int.injEq, D.list.injEq, D.bool.injEq, D.agg.injEq, D.clo.injEq, Int.natCast_inj, inj_ie, eGp_ie', ePt_ie, ePts_ie, eGps_ie, D.ref.injEq] at hy
    (try obtain ⟨rfl, rfl⟩ := hy)
    (try subst_vars)
    rfl
theorem f_eqF_ok : PureOK Tryd.prog 67 false g_eqF := by
  have hΓ := Γp f_fitC_ok (Γn)
  refine pure_enc (n := 32) (rs := [.tmp 6]) Tryd.func67 (by kernel_rfl) rfl (by kernel_rfl) (by kernel_rfl) ?_
  rintro ⟨a, b⟩ hd
  (try dsimp only at hd ⊢)
  refine ⟨fun h => (by cases h), fun k hz0 => ?_⟩
  obtain ⟨ha, hb, hw⟩ := hd
  rw [start_frame (by simp)]; simp only [enumV, go_sem, emptyH]
  by_cases hne : a.length = b.length
  · have hb1 : (((a.length : Nat) : Int) != ((b.length : Nat) : Int)) = false := by rw [hne]; simp
    have hb2 : (((b.length : Nat) : Int) != ((b.length : Nat) : Int)) = false := by simp
    repeat (first
      | (apply axJ; (focus ((with_reducible constructor) <;> rfl)))
      | (apply awT mixedOK hΓ (by kernel_rfl); (simp (disch := omega) only [go_sem, ↓reduceIte, dk, ↓lk, hb1, hb2] <;> with_reducible rfl))
      | ((first | apply awR hΓ | apply awG | apply awH mixedOK hΓ rfl (by kernel_rfl) | apply ovE rfl); (simp (disch := omega) only [go_sem, ↓reduceIte, dk, ↓lk, hb1, hb2] <;> with_reducible rfl); exact trivial)
      | rfl)
    refine awp_loop_at (X := Nat) (fun i => (frame 32 [(1, .data (.list (b.map ePt))), (2, .data (.clo 68 [])), (15, .data (.list (a.map eGp))), (16, .data (i64 a.length)), (17, .data (i64 i))])) (fun _ => []) 18
      (fun i => i ≤ a.length ∧ fitsB a b = fitsB (a.drop i) (b.drop i)) (fun i => a.length - i) 0 ⟨Nat.zero_le _, rfl⟩ (Weak.w) ?_
    rintro i ⟨h1, h2⟩
    by_cases hi : i < a.length
    · have hi2 : i < b.length := by omega
      have e1 := g_fitC_eq (g := a[i]) (p := b[i]) (hw _ (List.getElem_mem hi))
      rw [fits_drop hi hi2] at h2
      rw [eGp_eq, ePt_eq] at e1
      generalize hx : a[i] = x at *
      generalize hy : b[i] = y at *
      generalize fitB x y = c at *
      cases c
      · rw [h2]
        repeat (first
          | (apply axJ; (focus ((with_reducible constructor) <;> rfl)))
          | (apply awT mixedOK hΓ (by kernel_rfl); (simp (disch := omega) only [go_sem, ↓reduceIte, dk, ↓lk, hx, hy, e1] <;> with_reducible rfl))
          | ((first | apply awR hΓ | apply awG | apply awH mixedOK hΓ rfl (by kernel_rfl) | apply ovE rfl); (simp (disch := omega) only [go_sem, ↓reduceIte, dk, ↓lk, hx, hy, e1] <;> with_reducible rfl); exact trivial)
          | rfl)
        try rfl
      · repeat (first
        | (apply axJ; (focus ((with_reducible constructor) <;> rfl)))
        | (apply awT mixedOK hΓ (by kernel_rfl); (simp (disch := omega) only [go_sem, ↓reduceIte, dk, ↓lk, hx, hy, e1] <;> with_reducible rfl))
        | ((first | apply awR hΓ | apply awG | apply awH mixedOK hΓ rfl (by kernel_rfl) | apply ovE rfl); (simp (disch := omega) only [go_sem, ↓reduceIte, dk, ↓lk, hx, hy, e1] <;> with_reducible rfl); exact trivial)
        | rfl)
        exact ⟨i + 1, ⟨by omega, h2⟩, by omega, Weak.w⟩
    · have hi3 : i = a.length := by omega
      subst hi3
      rw [List.drop_length, hne, List.drop_length] at h2
      rw [h2]
      repeat (first
        | (apply axJ; (focus ((with_reducible constructor) <;> rfl)))
        | (apply awT mixedOK hΓ (by kernel_rfl); (simp (disch := omega) only [go_sem, ↓reduceIte, dk, ↓lk] <;> with_reducible rfl))
        | ((first | apply awR hΓ | apply awG | apply awH mixedOK hΓ rfl (by kernel_rfl) | apply ovE rfl); (simp (disch := omega) only [go_sem, ↓reduceIte, dk, ↓lk] <;> with_reducible rfl); exact trivial)
        | rfl)
      try rfl
  · have hb1 : (((a.length : Nat) : Int) != ((b.length : Nat) : Int)) = true := by
      simp only [bne_iff_ne, ne_eq]
      omega
    rw [fits_ne a b hne]
    repeat (first
      | (apply axJ; (focus ((with_reducible constructor) <;> rfl)))
      | (apply awT mixedOK hΓ (by kernel_rfl); (simp (disch := omega) only [go_sem, ↓reduceIte, dk, ↓lk, hb1] <;> with_reducible rfl))
      | ((first | apply awR hΓ | apply awG | apply awH mixedOK hΓ rfl (by kernel_rfl) | apply ovE rfl); (simp (disch := omega) only [go_sem, ↓reduceIte, dk, ↓lk, hb1] <;> with_reducible rfl); exact trivial)
      | rfl)
    try rfl
noncomputable def g_fits : List D → Option D := encSpec (fun x : (List Gp) × (List Pt) => [.list (x.1.map eGp), .list (x.2.map ePt)]) (fun x : (List Gp) × (List Pt) => x.1.length ≤ 1099511627776 ∧ x.2.length ≤ 1099511627776 ∧ ∀ w ∈ x.1, w.words.length ≤ 1099511627776) (fun x : (List Gp) × (List Pt) => .bool (fitsB x.1 x.2))
theorem g_fits_eq {a : List Gp} {b : List Pt} (hd : a.length ≤ 1099511627776 ∧ b.length ≤ 1099511627776 ∧ ∀ w ∈ a, w.words.length ≤ 1099511627776) : g_fits [.list (a.map eGp), .list (b.map ePt)] = some (.bool (fitsB a b)) := encSpec_eq (x := (a, b)) hd fun y hy => by
    obtain ⟨y0, y1⟩ := y; simp only [List.cons.injEq, and_true, true_and, D.str.injEq, D.int.injEq, D.list.injEq, D.bool.injEq, D.agg.injEq, D.clo.injEq, Int.natCast_inj, inj_ie, eGp_ie', ePt_ie, ePts_ie, eGps_ie, D.ref.injEq] at hy
    (try obtain ⟨rfl, rfl⟩ := hy)
    (try subst_vars)
    rfl
theorem f_fits_ok : PureOK Tryd.prog 47 false g_fits := by
  have hΓ := Γp f_eqF_ok (Γn)
  refine pure_enc (n := 8) (rs := [.tmp 4]) Tryd.func47 (by kernel_rfl) rfl (by kernel_rfl) (by kernel_rfl) ?_
  rintro ⟨a, b⟩ hd
  (try dsimp only at hd ⊢)
  refine ⟨fun h => (by cases h), fun k hz0 => ?_⟩
  have e1 := g_eqF_eq hd
  rw [start_frame (by simp)]; simp only [enumV, go_sem, emptyH]
  repeat (first
    | (apply axJ; (focus ((with_reducible constructor) <;> rfl)))
    | (apply awT mixedOK hΓ (by kernel_rfl); (simp (disch := omega) only [go_sem, ↓reduceIte, dk, ↓lk, e1] <;> with_reducible rfl))
    | ((first | apply awR hΓ | apply awG | apply awH mixedOK hΓ rfl (by kernel_rfl) | apply ovE rfl); (simp (disch := omega) only [go_sem, ↓reduceIte, dk, ↓lk, e1] <;> with_reducible rfl); exact trivial)
    | rfl)
  try rfl
noncomputable def g_stepC1 : List D → Option D := encSpec (fun x : (List Pt) × (List Gp) => [.list (x.1.map ePt), .ref [.list (x.2.map eGp)]]) (fun x : (List Pt) × (List Gp) => x.2.length ≤ 1099511627776 ∧ x.1.length ≤ 1099511627776 ∧ ∀ w ∈ x.2, w.words.length ≤ 1099511627776) (fun x : (List Pt) × (List Gp) => .bool (fitsB x.2 x.1))
theorem g_stepC1_eq {b : List Pt} {a : List Gp} (hd : a.length ≤ 1099511627776 ∧ b.length ≤ 1099511627776 ∧ ∀ w ∈ a, w.words.length ≤ 1099511627776) : g_stepC1 [.list (b.map ePt), .ref [.list (a.map eGp)]] = some (.bool (fitsB a b)) := encSpec_eq (x := (b, a)) hd fun y hy => by
    obtain ⟨y0, y1⟩ := y; simp only [List.cons.injEq, and_true, true_and, D.str.injEq, D.int.injEq, D.list.injEq, D.bool.injEq, D.agg.injEq, D.clo.injEq, Int.natCast_inj, inj_ie, eGp_ie', ePt_ie, ePts_ie, eGps_ie, D.ref.injEq] at hy
    (try obtain ⟨rfl, rfl⟩ := hy)
    (try subst_vars)
    rfl
theorem f_stepC1_ok : PureOK Tryd.prog 46 false g_stepC1 := by
  have hΓ := Γp f_fits_ok (Γn)
  refine pure_enc (n := 7) (rs := [.tmp 3]) Tryd.func46 (by kernel_rfl) rfl (by kernel_rfl) (by kernel_rfl) ?_
  rintro ⟨b, a⟩ hd
  (try dsimp only at hd ⊢)
  refine ⟨fun h => (by cases h), fun k hz0 => ?_⟩
  have e1 := g_fits_eq hd
  rw [start_frame (by simp)]; simp only [enumV, go_sem, emptyH]
  repeat (first
    | (apply axJ; (focus ((with_reducible constructor) <;> rfl)))
    | (apply awT mixedOK hΓ (by kernel_rfl); (simp (disch := omega) only [go_sem, ↓reduceIte, dk, ↓lk, e1] <;> with_reducible rfl))
    | ((first | apply awR hΓ | apply awG | apply awH mixedOK hΓ rfl (by kernel_rfl) | apply ovE rfl); (simp (disch := omega) only [go_sem, ↓reduceIte, dk, ↓lk, e1] <;> with_reducible rfl); exact trivial)
    | rfl)
  try rfl
end Go.Ab
namespace Go.Ab
open Go Go.RowKit
def D.val : D → Value
  | .int k n => .int k n
  | .bool b => .bool b
  | .str s => .string ⟨s.toArray⟩
  | _ => undef
def D.scalar : D → Bool
  | .int _ _ => true
  | .bool _ => true
  | .str _ => true
  | _ => false
theorem scalar_val {w : World} {B : Nat → Prop} {d : D} {v : Value} (hs : d.scalar = true) (h : DR w B d v) : v = d.val := by
  cases h <;> first | rfl | cases hs
theorem scalar_reads {w : World} {B : Nat → Prop} {d : D} (hs : d.scalar = true) : DR w B d d.val := by
  cases d <;> first | exact .int _ _ | exact .bool _ | exact .str _ | cases hs
theorem scalar_flat {d : D} (hs : d.scalar = true) : d.Flat := by
  cases d <;> first | exact .int _ _ | exact .bool _ | exact .str _ | cases hs
theorem pure_calls {P : Program} {f : FuncId} {fn : Func} {X : Type} {enc : X → List D} {dom : X → Prop} {out : X → D} {fl : Bool} (hf : P.funcs[f]? = some fn) (hname : (fn.name == "runtime.NumGoroutine") = false) (hb : fn.body.isNone = false)
    (hsc : ∀ x, (enc x).all D.scalar = true ∧ (out x).scalar = true) (h : ∀ x, dom x → ∀ w : World, Calls P f ((enc x).map D.val).toArray w fun e w' => e = .returned (out x).val ∧ Below w.heap.size w w') : PureOK P f fl (encSpec enc dom out) := by
  intro ds d hd
  obtain ⟨x, rfl, hx, rfl⟩ := encSpec_some hd
  obtain ⟨h1, h2⟩ := hsc x
  refine ⟨fun _ => scalar_flat h2, fun w B vs hB hz hvs => ⟨⟨fn, hf, hname, hb⟩, ?_⟩⟩
  have hvs2 : vs = ((enc x).map D.val).toArray := by
    apply Array.ext_getElem?
    intro i
    by_cases hi : i < (enc x).length
    · have hi2 : i < vs.size := by omega
      have h3 := hvs i hi vs[i] (Array.getElem?_eq_getElem hi2)
      rw [Array.getElem?_eq_getElem hi2, scalar_val (List.all_eq_true.1 h1 _ (List.getElem_mem hi)) h3]
      simp [hi]
    · rw [Array.getElem?_eq_none (by omega), Array.getElem?_eq_none (by simp; omega)]
  rw [hvs2]
  refine (h x hx w).mono ?_
  rintro e w' ⟨rfl, hbl⟩
  exact ⟨_, rfl, scalar_reads h2, hbl⟩
end Go.Ab
