/-
  One text of the proof (own work): contracts of functions of the program, by the abstract machine.
-/
import Derived.Test.YtmcgfohokniepaaX21
import Derived.Test.YtmcgfohokniepaaX29
set_option linter.unusedVariables false
set_option linter.unusedSimpArgs false
namespace Go.Ab
open Go Go.RowKit Go.Proofs
set_option maxRecDepth 4000
set_option maxHeartbeats 4000000
theorem f113_ok {f : FuncId} {g : List D → Option D} {caps : List D} {p : _ → Bool} (hf : PureOK Try.prog f true g) (hp : ∀ x, g (ePk x :: caps) = some (.bool (p x))) : PureOK Try.prog 113 true (gIdx ePk f caps p) := by
  have hΓ := Γc_ok hf
  refine pure_enc (n := 19) (rs := [.tmp 4]) Try.func113 (by kernel_rfl) rfl (by kernel_rfl) (by kernel_rfl) ?_
  rintro l hlen
  refine ⟨fun _ => .int _ _, fun c hz0 => ?_⟩
  have hp' := hp
  try simp only [go_sem] at hp'
  simp only [start, go_sem, emptyH, List.replicate_succ, List.replicate_zero]
  repeat (first
    | (apply axJ; (focus ((with_reducible constructor) <;> rfl)))
    | (apply awT mixedOK hΓ (by kernel_rfl); (simp (disch := omega) only [go_sem, ↓reduceIte] <;> with_reducible rfl))
    | ((first | apply awR hΓ | apply awG | apply awH mixedOK hΓ rfl (by kernel_rfl) | apply ovE rfl); (simp (disch := omega) only [go_sem, ↓reduceIte] <;> with_reducible rfl); exact trivial)
    | rfl)
  refine awp_loop_at (X := Nat) (fun i => (.data (.list (l.map ePk)) :: .data (.clo f caps) :: .junk :: .junk :: .junk :: .junk :: .junk :: .data (i64 l.length) :: .data (i64 i) :: .junk :: .junk :: .junk :: .junk :: .junk :: .junk :: .junk :: .junk :: .junk :: .junk :: [])) (fun _ => []) 0
    (fun i => i ≤ l.length ∧ (l.take i).any p = false) (fun i => l.length - i) 0 ⟨Nat.zero_le _, rfl⟩ (Weak.of (by omega) (by simp [ConvL, Conv, ints]) (by simp [TabSub, look, Obj.refsOK, refsOKs, AV.refsOK]) (by simp [refsOKs, AV.refsOK])) ?_
  rintro i ⟨hi, hpre⟩
  repeat (first
    | (apply axJ; (focus ((with_reducible constructor) <;> rfl)))
    | (apply awT mixedOK hΓ (by kernel_rfl); (simp (disch := omega) only [go_sem, ↓reduceIte] <;> with_reducible rfl))
    | ((first | apply awR hΓ | apply awG | apply awH mixedOK hΓ rfl (by kernel_rfl) | apply ovE rfl); (simp (disch := omega) only [go_sem, ↓reduceIte] <;> with_reducible rfl); exact trivial)
    | rfl)
  refine awp_cond (by simp (disch := omega) only [go_sem, ↓reduceIte]; rfl) (fun hc => ?_) (fun hc => ?_)
  · have hi' : i < l.length := by simpa using hc
    repeat (first
      | (apply axJ; (focus ((with_reducible constructor) <;> rfl)))
      | (apply awT mixedOK hΓ (by kernel_rfl); (simp (disch := omega) only [go_sem, ↓reduceIte, dk, Γc, hp'] <;> with_reducible rfl))
      | ((first | apply awR hΓ | apply awG | apply awH mixedOK hΓ rfl (by kernel_rfl) | apply ovE rfl); (simp (disch := omega) only [go_sem, ↓reduceIte, dk, Γc, hp'] <;> with_reducible rfl); exact trivial)
      | rfl)
    refine awp_cond (by simp (disch := omega) only [go_sem, ↓reduceIte]; rfl) (fun hc => ?_) (fun hc => ?_)
    · repeat (first
      | (apply axJ; (focus ((with_reducible constructor) <;> rfl)))
      | (apply awT mixedOK hΓ (by kernel_rfl); (simp (disch := omega) only [go_sem, ↓reduceIte, dk] <;> with_reducible rfl))
      | ((first | apply awR hΓ | apply awG | apply awH mixedOK hΓ rfl (by kernel_rfl) | apply ovE rfl); (simp (disch := omega) only [go_sem, ↓reduceIte, dk] <;> with_reducible rfl); exact trivial)
      | rfl)
      rw [idx_at hi' hc hpre]
    · repeat (first
      | (apply axJ; (focus ((with_reducible constructor) <;> rfl)))
      | (apply awT mixedOK hΓ (by kernel_rfl); (simp (disch := omega) only [go_sem, ↓reduceIte, dk] <;> with_reducible rfl))
      | ((first | apply awR hΓ | apply awG | apply awH mixedOK hΓ rfl (by kernel_rfl) | apply ovE rfl); (simp (disch := omega) only [go_sem, ↓reduceIte, dk] <;> with_reducible rfl); exact trivial)
      | rfl)
      exact ⟨i + 1, ⟨by omega, any_next hi' hpre hc⟩, by omega, Weak.of (by omega) (by simp [ConvL, Conv, ints]) (by simp [TabSub, look, Obj.refsOK, refsOKs, AV.refsOK]) (by simp [refsOKs, AV.refsOK])⟩
  · repeat (first
    | (apply axJ; (focus ((with_reducible constructor) <;> rfl)))
    | (apply awT mixedOK hΓ (by kernel_rfl); (simp (disch := omega) only [go_sem, ↓reduceIte] <;> with_reducible rfl))
    | ((first | apply awR hΓ | apply awG | apply awH mixedOK hΓ rfl (by kernel_rfl) | apply ovE rfl); (simp (disch := omega) only [go_sem, ↓reduceIte] <;> with_reducible rfl); exact trivial)
    | rfl)
    have hi' : i = l.length := by
      have : ¬ i < l.length := by simpa using hc
      omega
    subst hi'
    rw [List.take_length] at hpre
    rw [idx_none hpre]
noncomputable def g114 (nm : List UInt8) : List D → Option D := encSpec (fun p : Pk => [ePk p, .ref [.str nm]]) (fun _ => True) (fun p => .bool (p.name == nm))
theorem g114_eq (nm : List UInt8) (p : Pk) : g114 nm (ePk p :: [.ref [.str nm]]) = some (.bool (p.name == nm)) := encSpec_eq (x := p) trivial fun y hy => by
  simp only [List.cons.injEq, and_true] at hy
  rw [ePk_inj _ _ hy]
theorem f114_ok {nm : List UInt8} : PureOK Try.prog 114 true (g114 nm) := by
  have hΓ := Γ0_ok
  refine pure_enc (n := 8) (rs := [.tmp 3]) Try.func114 (by kernel_rfl) rfl (by kernel_rfl) (by kernel_rfl) ?_
  intro p hp
  refine ⟨fun _ => .bool _, fun k hz0 => ?_⟩
  rw [start_frame (by simp)]; simp only [enumV, go_sem, emptyH]
  repeat (first
    | (apply axJ; (focus ((with_reducible constructor) <;> rfl)))
    | (apply awT mixedOK hΓ (by kernel_rfl); (simp (disch := omega) only [go_sem, ↓reduceIte, dk] <;> with_reducible rfl))
    | ((first | apply awR hΓ | apply awG | apply awH mixedOK hΓ rfl (by kernel_rfl) | apply ovE rfl); (simp (disch := omega) only [go_sem, ↓reduceIte, dk] <;> with_reducible rfl); exact trivial)
    | rfl)
theorem f113_all {nm : List UInt8} : PureOK Try.prog 113 true (gIdx ePk 114 [.ref [.str nm]] fun p => p.name == nm) := f113_ok f114_ok fun x => g114_eq nm x
def upgr (l : List Pk) (nm : List UInt8) : Int := match l.find? (fun p => p.name == nm) with
  | some p => p.up
  | none => 0
theorem upgr_idx (l : List Pk) (nm : List UInt8) : (idx (fun p : Pk => p.name == nm) l = -1 ∧ upgr l nm = 0) ∨ ∃ (i : Nat) (h : i < l.length), idx (fun p : Pk => p.name == nm) l = i ∧ upgr l nm = l[i].up := by
  unfold idx upgr
  cases hf : l.findIdx? (fun p : Pk => p.name == nm) with
  | none =>
    left
    rw [List.findIdx?_eq_none_iff] at hf
    have : l.find? (fun p : Pk => p.name == nm) = none := List.find?_eq_none.2 fun x hx => by simp [hf x hx]
    simp [this]
  | some i =>
    right
    obtain ⟨h1, h2, h3⟩ := List.findIdx?_eq_some_iff_getElem.1 hf
    refine ⟨i, h1, rfl, ?_⟩
    have : l.find? (fun p : Pk => p.name == nm) = some l[i] := by
      rw [List.find?_eq_some_iff_getElem]
      exact ⟨h2, i, h1, rfl, fun j hj => by simpa using h3 j hj⟩
    simp [this]
structure SzV (r : Rev) (l : List Now) : Prop where
  r : SzR r
  l : l.length ≤ 1099511627776
noncomputable def g84 : List D → Option D := encSpec (fun x : Rev × List Now × List UInt8 => [eV x.1 x.2.1, .str x.2.2]) (fun x => SzV x.1 x.2.1 ∧ x.2.2.length ≤ 1099511627776) (fun x => i64 (upgr x.1.pks (pkg x.2.2)))
theorem g84_eq {r : Rev} {l : List Now} {q : List UInt8} (h : SzV r l) (hq : q.length ≤ 1099511627776) : g84 [.agg [.list (r.rvs.map eRw), .list (r.pks.map ePk), .list (r.dcs.map eDc), .list (r.dps.map eDp), .list (l.map eN)], .str q] = some (.int .i64 (upgr r.pks (pkg q))) := encSpec_eq (x := (r, l, q)) ⟨h, hq⟩ fun y hy => by
  obtain ⟨y1, y2, y3⟩ := y
  simp only [List.cons.injEq, and_true, D.str.injEq] at hy
  obtain ⟨e1, e2⟩ := eV_inj hy.1
  rw [e1, hy.2]
noncomputable def Γ84 (nm : List UInt8) : FuncId → Option CSpec := fun f => if f = 12 then some (.pure true g12) else if f = 113 then some (.pure true (gIdx ePk 114 [.ref [.str nm]] fun p => p.name == nm)) else none
theorem Γ84_ok (nm : List UInt8) : ∀ f s, Γ84 nm f = some s → SpecOK Try.prog f s := by
  intro f s h
  unfold Γ84 at h
  split at h
  · rename_i hf; cases h; subst hf; exact f12_ok
  split at h
  · rename_i hf; cases h; subst hf; exact f113_all
  · cases h
theorem f84_ok : PureOK Try.prog 84 true g84 := by
  refine pure_enc (n := 23) (rs := [.tmp 4]) Try.func84 (by kernel_rfl) rfl (by kernel_rfl) (by kernel_rfl) ?_
  rintro ⟨r, l, q⟩ ⟨hz, hq⟩
  dsimp only at hz hq ⊢
  have hΓ := Γ84_ok (pkg q)
  refine ⟨fun _ => .int _ _, fun k hz0 => ?_⟩
  have e12 := g12_eq hq
  have e113 := gIdx_eq (e := ePk) ePk_inj (f := 114) (caps := [.ref [.str (pkg q)]]) (p := fun p => p.name == pkg q) hz.r.pks
  have h113 : Γ84 (pkg q) 113 = some (.pure true (gIdx ePk 114 [.ref [.str (pkg q)]] fun p => p.name == pkg q)) := rfl
  have h12 : Γ84 (pkg q) 12 = some (.pure true g12) := rfl
  rw [start_frame (by simp)]; simp only [enumV, go_sem, emptyH]
  rcases upgr_idx r.pks (pkg q) with ⟨h1, h2⟩ | ⟨i, hi, h1, h2⟩
  · rw [h1] at e113
    repeat (first
      | (apply axJ; (focus ((with_reducible constructor) <;> rfl)))
      | (apply awT mixedOK hΓ (by kernel_rfl); (simp (disch := omega) only [go_sem, ↓reduceIte, dk, h12, h113, e12, e113] <;> with_reducible rfl))
      | ((first | apply awR hΓ | apply awG | apply awH mixedOK hΓ rfl (by kernel_rfl) | apply ovE rfl); (simp (disch := omega) only [go_sem, ↓reduceIte, dk, h12, h113, e12, e113] <;> with_reducible rfl); exact trivial)
      | rfl)
    rw [h2]
  · rw [h1] at e113
    generalize hy : r.pks[i] = y at *
    repeat (first
      | (apply axJ; (focus ((with_reducible constructor) <;> rfl)))
      | (apply awT mixedOK hΓ (by kernel_rfl); (simp (disch := omega) only [go_sem, ↓reduceIte, dk, h12, h113, e12, e113, hy, ePk] <;> with_reducible rfl))
      | ((first | apply awR hΓ | apply awG | apply awH mixedOK hΓ rfl (by kernel_rfl) | apply ovE rfl); (simp (disch := omega) only [go_sem, ↓reduceIte, dk, h12, h113, e12, e113, hy, ePk] <;> with_reducible rfl); exact trivial)
      | rfl)
    rw [h2]
noncomputable def g87 : List D → Option D := encSpec (fun x : Rev × List UInt8 => [eR x.1, .str x.2]) (fun x => SzR x.1) (fun x => i64 (upgr x.1.pks x.2))
theorem g87_eq {r : Rev} {q : List UInt8} (h : SzR r) : g87 [.agg [.list (r.rvs.map eRw), .list (r.pks.map ePk), .list (r.dcs.map eDc), .list (r.dps.map eDp)], .str q] = some (.int .i64 (upgr r.pks q)) := encSpec_eq (x := (r, q)) h fun y hy => by
  obtain ⟨y1, y2⟩ := y
  simp only [List.cons.injEq, and_true, D.str.injEq] at hy
  rw [eR_inj _ _ hy.1, hy.2]
theorem find_take {α : Type} {p : α → Bool} {l : List α} {i : Nat} (hi : i < l.length) (hb : (l.take i).any p = false) (hp : p l[i] = true) : l.find? p = some l[i] := by
  rw [List.find?_eq_some_iff_getElem]
  refine ⟨hp, i, hi, rfl, fun j hj => ?_⟩
  have := List.any_eq_false.1 hb (l[j]'(by omega)) (by rw [List.mem_take_iff_getElem]; exact ⟨j, by omega, rfl⟩)
  simpa using this
theorem f87_ok : PureOK Try.prog 87 true g87 := by
  have hΓ := Γ0_ok
  refine pure_enc (n := 27) (rs := [.tmp 4]) Try.func87 (by kernel_rfl) rfl (by kernel_rfl) (by kernel_rfl) ?_
  rintro ⟨r, nm⟩ hz
  dsimp only at hz ⊢
  have hpl := hz.pks
  refine ⟨fun _ => .int _ _, fun k hz0 => ?_⟩
  rw [start_frame (by simp)]; simp only [enumV, go_sem, emptyH]
  repeat (first
    | (apply axJ; (focus ((with_reducible constructor) <;> rfl)))
    | (apply awT mixedOK hΓ (by kernel_rfl); (simp (disch := omega) only [go_sem, ↓reduceIte, dk] <;> with_reducible rfl))
    | ((first | apply awR hΓ | apply awG | apply awH mixedOK hΓ rfl (by kernel_rfl) | apply ovE rfl); (simp (disch := omega) only [go_sem, ↓reduceIte, dk] <;> with_reducible rfl); exact trivial)
    | rfl)
  refine awp_loop_at (X := Nat) (fun i => (frame 27 [(1, .data (.str nm)), (2, .ptr 0 0), (5, .data (i64 i))])) (fun _ => [(0, .box [.data (.list (r.rvs.map eRw)), .data (.list (r.pks.map ePk)), .data (.list (r.dcs.map eDc)), .data (.list (r.dps.map eDp))])]) 1
    (fun i => i ≤ r.pks.length ∧ (r.pks.take i).any (fun p => p.name == nm) = false) (fun i => r.pks.length - i) 0 ⟨Nat.zero_le _, rfl⟩ (Weak.w) ?_
  rintro i ⟨hi, hpre⟩
  by_cases hi2 : i < r.pks.length
  · cases hx : (r.pks[i].name == nm) with
    | true =>
      have hf := find_take (p := fun p : Pk => p.name == nm) hi2 hpre hx
      have hu : upgr r.pks nm = r.pks[i].up := by simp only [upgr, hf]
      generalize hy : r.pks[i] = y at *
      repeat (first
        | (apply axJ; (focus ((with_reducible constructor) <;> rfl)))
        | (apply awT mixedOK hΓ (by kernel_rfl); (simp (disch := omega) only [go_sem, ↓reduceIte, dk, ePk, hy, hx] <;> with_reducible rfl))
        | ((first | apply awR hΓ | apply awG | apply awH mixedOK hΓ rfl (by kernel_rfl) | apply ovE rfl); (simp (disch := omega) only [go_sem, ↓reduceIte, dk, ePk, hy, hx] <;> with_reducible rfl); exact trivial)
        | rfl)
      rw [hu]
    | false =>
      have hn := any_next (p := fun p : Pk => p.name == nm) hi2 hpre hx
      generalize hy : r.pks[i] = y at *
      repeat (first
        | (apply axJ; (focus ((with_reducible constructor) <;> rfl)))
        | (apply awT mixedOK hΓ (by kernel_rfl); (simp (disch := omega) only [go_sem, ↓reduceIte, dk, ePk, hy, hx] <;> with_reducible rfl))
        | ((first | apply awR hΓ | apply awG | apply awH mixedOK hΓ rfl (by kernel_rfl) | apply ovE rfl); (simp (disch := omega) only [go_sem, ↓reduceIte, dk, ePk, hy, hx] <;> with_reducible rfl); exact trivial)
        | rfl)
      exact ⟨i + 1, ⟨by omega, hn⟩, by omega, Weak.w⟩
  · have hi' : i = r.pks.length := by omega
    subst hi'
    rw [List.take_length] at hpre
    have hu : upgr r.pks nm = 0 := by
      have : r.pks.find? (fun p : Pk => p.name == nm) = none := List.find?_eq_none.2 fun x hx => by simpa using List.any_eq_false.1 hpre x hx
      simp only [upgr, this]
    repeat (first
      | (apply axJ; (focus ((with_reducible constructor) <;> rfl)))
      | (apply awT mixedOK hΓ (by kernel_rfl); (simp (disch := omega) only [go_sem, ↓reduceIte, dk] <;> with_reducible rfl))
      | ((first | apply awR hΓ | apply awG | apply awH mixedOK hΓ rfl (by kernel_rfl) | apply ovE rfl); (simp (disch := omega) only [go_sem, ↓reduceIte, dk] <;> with_reducible rfl); exact trivial)
      | rfl)
    rw [hu]
def ask (d : Dc) : Now := ⟨d.q, d.s, d.dig⟩
def first (r : Rev) (l : List Now) (d : Dc) : Int := if d.w then 2 else if d.o then 3 else if d.rp then 4 else if upgr r.pks (pkg d.q) > d.til then 5 else if has l (ask d) then 1 else 6
noncomputable def g61 : List D → Option D := encSpec (fun x : Rev × List Now × Dc => [eR x.1, .list (x.2.1.map eN), eDc x.2.2]) (fun x => SzV x.1 x.2.1 ∧ x.2.2.q.length ≤ 1099511627776) (fun x => i64 (first x.1 x.2.1 x.2.2))
theorem g61_eq {r : Rev} {l : List Now} {d : Dc} (h : SzV r l) (hq : d.q.length ≤ 1099511627776) : g61 [.agg [.list (r.rvs.map eRw), .list (r.pks.map ePk), .list (r.dcs.map eDc), .list (r.dps.map eDp)], .list (l.map eN), .agg [.str d.id, .str d.author, .str d.q, .str d.s, .str d.ans, .str d.dig, .int .i64 d.til, .bool d.w, .bool d.o, .bool d.rp]] = some (.int .i64 (first r l d)) := encSpec_eq (x := (r, l, d)) ⟨h, hq⟩ fun y hy => by
  obtain ⟨y1, y2, y3⟩ := y
  simp only [List.cons.injEq, and_true, D.list.injEq] at hy
  rw [eR_inj _ _ hy.1, map_inj eN_inj hy.2.1, eDc_inj _ _ hy.2.2]
noncomputable def Γ61 : FuncId → Option CSpec := fun f => if f = 13 then some (.pure true (g12)) else if f = 87 then some (.pure true (g87)) else if f = 48 then some (.pure true (g31)) else none
theorem Γ61_ok : ∀ f s, Γ61 f = some s → SpecOK Try.prog f s := by
  intro f s h
  unfold Γ61 at h
  split at h
  · rename_i hf; cases h; subst hf; exact f13_ok
  split at h
  · rename_i hf; cases h; subst hf; exact f87_ok
  split at h
  · rename_i hf; cases h; subst hf; exact f48_ok
  · cases h
theorem f61_ok : PureOK Try.prog 61 true g61 := by
  have hΓ := Γ61_ok
  refine pure_enc (n := 36) (rs := [.tmp 6]) Try.func61 (by kernel_rfl) rfl (by kernel_rfl) (by kernel_rfl) ?_
  rintro ⟨r, l, d⟩ ⟨hz, hq⟩
  dsimp only at hz hq ⊢
  refine ⟨fun _ => .int _ _, fun k hz0 => ?_⟩
  have e13 := g12_eq hq
  have e87 := g87_eq (q := pkg d.q) hz.r
  have e48 := g31_eq (x := ask d) hz.l
  simp only [ask] at e48
  rw [start_frame (by simp)]; simp only [enumV, go_sem, emptyH]
  cases h1 : d.w with
  | true =>
    have hf : first r l d = 2 := by simp [first, h1]
    repeat (first
      | (apply axJ; (focus ((with_reducible constructor) <;> rfl)))
      | (apply awT mixedOK hΓ (by kernel_rfl); (simp (disch := omega) only [go_sem, ↓reduceIte, dk, h1] <;> with_reducible rfl))
      | ((first | apply awR hΓ | apply awG | apply awH mixedOK hΓ rfl (by kernel_rfl) | apply ovE rfl); (simp (disch := omega) only [go_sem, ↓reduceIte, dk, h1] <;> with_reducible rfl); exact trivial)
      | rfl)
    rw [hf]
  | false =>
  cases h2 : d.o with
  | true =>
    have hf : first r l d = 3 := by simp [first, h1, h2]
    repeat (first
      | (apply axJ; (focus ((with_reducible constructor) <;> rfl)))
      | (apply awT mixedOK hΓ (by kernel_rfl); (simp (disch := omega) only [go_sem, ↓reduceIte, dk, h1, h2] <;> with_reducible rfl))
      | ((first | apply awR hΓ | apply awG | apply awH mixedOK hΓ rfl (by kernel_rfl) | apply ovE rfl); (simp (disch := omega) only [go_sem, ↓reduceIte, dk, h1, h2] <;> with_reducible rfl); exact trivial)
      | rfl)
    rw [hf]
  | false =>
  cases h3 : d.rp with
  | true =>
    have hf : first r l d = 4 := by simp [first, h1, h2, h3]
    repeat (first
      | (apply axJ; (focus ((with_reducible constructor) <;> rfl)))
      | (apply awT mixedOK hΓ (by kernel_rfl); (simp (disch := omega) only [go_sem, ↓reduceIte, dk, h1, h2, h3] <;> with_reducible rfl))
      | ((first | apply awR hΓ | apply awG | apply awH mixedOK hΓ rfl (by kernel_rfl) | apply ovE rfl); (simp (disch := omega) only [go_sem, ↓reduceIte, dk, h1, h2, h3] <;> with_reducible rfl); exact trivial)
      | rfl)
    rw [hf]
  | false =>
  by_cases h4 : upgr r.pks (pkg d.q) > d.til
  · have hf : first r l d = 5 := by simp only [first, h1, h2, h3, h4, if_true, Bool.false_eq_true, if_false]
    repeat (first
      | (apply axJ; (focus ((with_reducible constructor) <;> rfl)))
      | (apply awT mixedOK hΓ (by kernel_rfl); (simp (disch := omega) only [go_sem, ↓reduceIte, dk, h1, h2, h3, Γ61, e13, e87] <;> with_reducible rfl))
      | ((first | apply awR hΓ | apply awG | apply awH mixedOK hΓ rfl (by kernel_rfl) | apply ovE rfl); (simp (disch := omega) only [go_sem, ↓reduceIte, dk, h1, h2, h3, Γ61, e13, e87] <;> with_reducible rfl); exact trivial)
      | rfl)
    rw [hf]
  · obtain ⟨bv, h5⟩ : ∃ bv, has l ⟨d.q, d.s, d.dig⟩ = bv := ⟨_, rfl⟩
    rw [h5] at e48
    cases bv with
    | true =>
      have hf : first r l d = 1 := by simp only [first, ask, h1, h2, h3, h4, h5, if_true, Bool.false_eq_true, if_false]
      repeat (first
        | (apply axJ; (focus ((with_reducible constructor) <;> rfl)))
        | (apply awT mixedOK hΓ (by kernel_rfl); (simp (disch := omega) only [go_sem, ↓reduceIte, ↓lk, ↓ty_build39, dk, h1, h2, h3, Γ61, e13, e87, e48] <;> with_reducible rfl))
        | ((first | apply awR hΓ | apply awG | apply awH mixedOK hΓ rfl (by kernel_rfl) | apply ovE rfl); (simp (disch := omega) only [go_sem, ↓reduceIte, ↓lk, ↓ty_build39, dk, h1, h2, h3, Γ61, e13, e87, e48] <;> with_reducible rfl); exact trivial)
        | rfl)
      rw [hf]
    | false =>
      have hf : first r l d = 6 := by simp only [first, ask, h1, h2, h3, h4, h5, Bool.false_eq_true, if_false]
      repeat (first
        | (apply axJ; (focus ((with_reducible constructor) <;> rfl)))
        | (apply awT mixedOK hΓ (by kernel_rfl); (simp (disch := omega) only [go_sem, ↓reduceIte, ↓lk, ↓ty_build39, dk, h1, h2, h3, Γ61, e13, e87, e48] <;> with_reducible rfl))
        | ((first | apply awR hΓ | apply awG | apply awH mixedOK hΓ rfl (by kernel_rfl) | apply ovE rfl); (simp (disch := omega) only [go_sem, ↓reduceIte, ↓lk, ↓ty_build39, dk, h1, h2, h3, Γ61, e13, e87, e48] <;> with_reducible rfl); exact trivial)
        | rfl)
      rw [hf]
end Go.Ab
namespace Go.Ab
open Go Go.RowKit Go.Proofs
set_option maxRecDepth 4000
set_option maxHeartbeats 4000000
theorem any_yes {α : Type} (p : α → Bool) {l : List α} {x : α} (hx : x ∈ l) (h : p x = true) : l.any p = true := List.any_eq_true.2 ⟨x, hx, h⟩
structure SzA (r : Rev) (l : List Now) : Prop where
  v : SzV r l
  q : ∀ d ∈ r.dcs, d.q.length ≤ 1099511627776
def pres (r : Rev) (l : List Now) (id : List UInt8) : Bool := r.dcs.any fun d => (d.id == id) && (first r l d == 1)
noncomputable def g62 : List D → Option D := encSpec (fun x : Rev × List Now × List UInt8 => [eR x.1, .list (x.2.1.map eN), .str x.2.2]) (fun x => SzA x.1 x.2.1) (fun x => .bool (pres x.1 x.2.1 x.2.2))
theorem g62_eq {r : Rev} {l : List Now} {id : List UInt8} (h : SzA r l) : g62 [.agg [.list (r.rvs.map eRw), .list (r.pks.map ePk), .list (r.dcs.map eDc), .list (r.dps.map eDp)], .list (l.map eN), .str id] = some (.bool (pres r l id)) := encSpec_eq (x := (r, l, id)) h fun y hy => by
  obtain ⟨y1, y2, y3⟩ := y
  simp only [List.cons.injEq, and_true, D.list.injEq, D.str.injEq] at hy
  rw [eR_inj _ _ hy.1, map_inj eN_inj hy.2.1, hy.2.2]
noncomputable def Γ62 : FuncId → Option CSpec := fun f => if f = 61 then some (.pure true (g61)) else none
theorem Γ62_ok : ∀ f s, Γ62 f = some s → SpecOK Try.prog f s := by
  intro f s h
  unfold Γ62 at h
  split at h
  · rename_i hf; cases h; subst hf; exact f61_ok
  · cases h
theorem f62_ok : PureOK Try.prog 62 true g62 := by
  have hΓ := Γ62_ok
  refine pure_enc (n := 34) (rs := [.tmp 6]) Try.func62 (by kernel_rfl) rfl (by kernel_rfl) (by kernel_rfl) ?_
  rintro ⟨r, l, id⟩ hz
  dsimp only at hz ⊢
  have hdl := hz.v.r.dcs
  refine ⟨fun _ => .bool _, fun k hz0 => ?_⟩
  rw [start_frame (by simp)]; simp only [enumV, go_sem, emptyH]
  repeat (first
    | (apply axJ; (focus ((with_reducible constructor) <;> rfl)))
    | (apply awT mixedOK hΓ (by kernel_rfl); (simp (disch := omega) only [go_sem, ↓reduceIte, dk] <;> with_reducible rfl))
    | ((first | apply awR hΓ | apply awG | apply awH mixedOK hΓ rfl (by kernel_rfl) | apply ovE rfl); (simp (disch := omega) only [go_sem, ↓reduceIte, dk] <;> with_reducible rfl); exact trivial)
    | rfl)
  refine awp_loop_at (X := Nat) (fun i => (frame 34 [(1, .data (.list (l.map eN))), (2, .data (.str id)), (3, .ptr 0 0), (7, .data (i64 i))])) (fun _ => [(0, .box [.data (.list (r.rvs.map eRw)), .data (.list (r.pks.map ePk)), .data (.list (r.dcs.map eDc)), .data (.list (r.dps.map eDp))])]) 1
    (fun i => i ≤ r.dcs.length ∧ (r.dcs.take i).any (fun d => (d.id == id) && (first r l d == 1)) = false) (fun i => r.dcs.length - i) 0 ⟨Nat.zero_le _, rfl⟩ (Weak.w) ?_
  rintro i ⟨hi, hpre⟩
  by_cases hi2 : i < r.dcs.length
  · have hq := hz.q _ (List.getElem_mem hi2)
    have hyes := fun h => any_yes (fun d : Dc => (d.id == id) && (first r l d == 1)) (List.getElem_mem hi2) h
    have hno := fun h => any_next (p := fun d : Dc => (d.id == id) && (first r l d == 1)) hi2 hpre h
    generalize hy : r.dcs[i] = y at hq hyes hno
    have e61 := g61_eq hz.v hq
    cases hx : (y.id == id) with
    | false =>
      have hn := hno (by simp [hx])
      repeat (first
        | (apply axJ; (focus ((with_reducible constructor) <;> rfl)))
        | (apply awT mixedOK hΓ (by kernel_rfl); (simp (disch := omega) only [go_sem, ↓reduceIte, dk, eDc, hy, hx] <;> with_reducible rfl))
        | ((first | apply awR hΓ | apply awG | apply awH mixedOK hΓ rfl (by kernel_rfl) | apply ovE rfl); (simp (disch := omega) only [go_sem, ↓reduceIte, dk, eDc, hy, hx] <;> with_reducible rfl); exact trivial)
        | rfl)
      exact ⟨i + 1, ⟨by omega, hn⟩, by omega, Weak.w⟩
    | true =>
    cases hf : (first r l y == 1) with
    | false =>
      have hn := hno (by simp [hf])
      repeat (first
        | (apply axJ; (focus ((with_reducible constructor) <;> rfl)))
        | (apply awT mixedOK hΓ (by kernel_rfl); (simp (disch := omega) only [go_sem, ↓reduceIte, dk, eDc, hy, hx, Γ62, e61, hf] <;> with_reducible rfl))
        | ((first | apply awR hΓ | apply awG | apply awH mixedOK hΓ rfl (by kernel_rfl) | apply ovE rfl); (simp (disch := omega) only [go_sem, ↓reduceIte, dk, eDc, hy, hx, Γ62, e61, hf] <;> with_reducible rfl); exact trivial)
        | rfl)
      exact ⟨i + 1, ⟨by omega, hn⟩, by omega, Weak.w⟩
    | true =>
      have hp : pres r l id = true := hyes (by rw [hx, hf]; rfl)
      repeat (first
        | (apply axJ; (focus ((with_reducible constructor) <;> rfl)))
        | (apply awT mixedOK hΓ (by kernel_rfl); (simp (disch := omega) only [go_sem, ↓reduceIte, dk, eDc, hy, hx, Γ62, e61, hf] <;> with_reducible rfl))
        | ((first | apply awR hΓ | apply awG | apply awH mixedOK hΓ rfl (by kernel_rfl) | apply ovE rfl); (simp (disch := omega) only [go_sem, ↓reduceIte, dk, eDc, hy, hx, Γ62, e61, hf] <;> with_reducible rfl); exact trivial)
        | rfl)
      rw [hp]
  · have hi' : i = r.dcs.length := by omega
    subst hi'
    rw [List.take_length] at hpre
    have hp : pres r l id = false := hpre
    repeat (first
      | (apply axJ; (focus ((with_reducible constructor) <;> rfl)))
      | (apply awT mixedOK hΓ (by kernel_rfl); (simp (disch := omega) only [go_sem, ↓reduceIte, dk] <;> with_reducible rfl))
      | ((first | apply awR hΓ | apply awG | apply awH mixedOK hΓ rfl (by kernel_rfl) | apply ovE rfl); (simp (disch := omega) only [go_sem, ↓reduceIte, dk] <;> with_reducible rfl); exact trivial)
      | rfl)
    rw [hp]
def disp (r : Rev) (p : List UInt8 → Bool) (id : List UInt8) : Bool := r.dps.any fun x => ((x.l == id) && p x.r) || ((x.r == id) && p x.l)
def stat (r : Rev) (l : List Now) (d : Dc) : Int := if first r l d != 1 then first r l d else if disp r (pres r l) d.id then 7 else 1
noncomputable def g40 : List D → Option D := encSpec (fun x : Rev × List Now × Dc => [eR x.1, .list (x.2.1.map eN), eDc x.2.2]) (fun x => SzA x.1 x.2.1 ∧ x.2.2.q.length ≤ 1099511627776) (fun x => i64 (stat x.1 x.2.1 x.2.2))
theorem g40_eq {r : Rev} {l : List Now} {d : Dc} (h : SzA r l) (hq : d.q.length ≤ 1099511627776) : g40 [.agg [.list (r.rvs.map eRw), .list (r.pks.map ePk), .list (r.dcs.map eDc), .list (r.dps.map eDp)], .list (l.map eN), .agg [.str d.id, .str d.author, .str d.q, .str d.s, .str d.ans, .str d.dig, .int .i64 d.til, .bool d.w, .bool d.o, .bool d.rp]] = some (.int .i64 (stat r l d)) := encSpec_eq (x := (r, l, d)) ⟨h, hq⟩ fun y hy => by
  obtain ⟨y1, y2, y3⟩ := y
  simp only [List.cons.injEq, and_true, D.list.injEq] at hy
  rw [eR_inj _ _ hy.1, map_inj eN_inj hy.2.1, eDc_inj _ _ hy.2.2]
noncomputable def Γ40 : FuncId → Option CSpec := fun f => if f = 61 then some (.pure true (g61)) else if f = 62 then some (.pure true (g62)) else none
theorem Γ40_ok : ∀ f s, Γ40 f = some s → SpecOK Try.prog f s := by
  intro f s h
  unfold Γ40 at h
  split at h
  · rename_i hf; cases h; subst hf; exact f61_ok
  split at h
  · rename_i hf; cases h; subst hf; exact f62_ok
  · cases h
theorem f40_ok : PureOK Try.prog 40 true g40 := by
  have hΓ := Γ40_ok
  refine pure_enc (n := 56) (rs := [.tmp 6]) Try.func40 (by kernel_rfl) rfl (by kernel_rfl) (by kernel_rfl) ?_
  rintro ⟨r, l, d⟩ ⟨hz, hq⟩
  dsimp only at hz hq ⊢
  have hpl := hz.v.r.dps
  refine ⟨fun _ => .int _ _, fun k hz0 => ?_⟩
  have e61 := g61_eq hz.v hq
  have e62 := fun id => g62_eq (id := id) hz
  rw [start_frame (by simp)]; simp only [enumV, go_sem, emptyH]
  cases hf : (first r l d != 1) with
  | true =>
    have hst : stat r l d = first r l d := by simp only [stat, hf, if_true]
    repeat (first
      | (apply axJ; (focus ((with_reducible constructor) <;> rfl)))
      | (apply awT mixedOK hΓ (by kernel_rfl); (simp (disch := omega) only [go_sem, ↓reduceIte, dk, Γ40, e61, hf] <;> with_reducible rfl))
      | ((first | apply awR hΓ | apply awG | apply awH mixedOK hΓ rfl (by kernel_rfl) | apply ovE rfl); (simp (disch := omega) only [go_sem, ↓reduceIte, dk, Γ40, e61, hf] <;> with_reducible rfl); exact trivial)
      | rfl)
    rw [hst]
  | false =>
  have hf1 : first r l d = 1 := by simpa using hf
  rw [hf1] at e61
  have h11 : ((1 : Int) != 1) = false := rfl
  repeat (first
    | (apply axJ; (focus ((with_reducible constructor) <;> rfl)))
    | (apply awT mixedOK hΓ (by kernel_rfl); (simp (disch := omega) only [go_sem, ↓reduceIte, dk, Γ40, e61, h11] <;> with_reducible rfl))
    | ((first | apply awR hΓ | apply awG | apply awH mixedOK hΓ rfl (by kernel_rfl) | apply ovE rfl); (simp (disch := omega) only [go_sem, ↓reduceIte, dk, Γ40, e61, h11] <;> with_reducible rfl); exact trivial)
    | rfl)
  refine awp_loop_at (X := Nat) (fun i => (frame 56 [(1, .data (.list (l.map eN))), (3, .ptr 0 0), (5, .ptr 1 0), (7, .data (i64 1)), (8, .data (i64 i))]))
    (fun _ => [(0, .box [.data (.list (r.rvs.map eRw)), .data (.list (r.pks.map ePk)), .data (.list (r.dcs.map eDc)), .data (.list (r.dps.map eDp))]), (1, .box [.data (.str d.id), .data (.str d.author), .data (.str d.q), .data (.str d.s), .data (.str d.ans), .data (.str d.dig), .data (i64 d.til), .data (.bool d.w), .data (.bool d.o), .data (.bool d.rp)])]) 2
    (fun i => i ≤ r.dps.length ∧ (r.dps.take i).any (fun x => ((x.l == d.id) && pres r l x.r) || ((x.r == d.id) && pres r l x.l)) = false) (fun i => r.dps.length - i) 0 ⟨Nat.zero_le _, rfl⟩ (Weak.w) ?_
  rintro i ⟨hi, hpre⟩
  by_cases hi2 : i < r.dps.length
  · have hyes := fun h => any_yes (fun x : Dp => ((x.l == d.id) && pres r l x.r) || ((x.r == d.id) && pres r l x.l)) (List.getElem_mem hi2) h
    have hno := fun h => any_next (p := fun x : Dp => ((x.l == d.id) && pres r l x.r) || ((x.r == d.id) && pres r l x.l)) hi2 hpre h
    generalize hy : r.dps[i] = y at hyes hno
    have e1 := e62 y.r
    have e2 := e62 y.l
    have hst : (((y.l == d.id) && pres r l y.r) || ((y.r == d.id) && pres r l y.l)) = true → stat r l d = 7 := fun h => by
      have : disp r (pres r l) d.id = true := hyes h
      simp only [stat, hf, this, Bool.false_eq_true, if_false, if_true]
    generalize hp1 : pres r l y.r = p1 at e1 hno hst
    generalize hp2 : pres r l y.l = p2 at e2 hno hst
    cases hx1 : (y.l == d.id) <;> cases hx2 : (y.r == d.id) <;> cases p1 <;> cases p2 <;> rw [hx1, hx2] at hno hst
    all_goals first
      | (have hs7 := hst rfl
         (repeat (first
             | (apply axJ; (focus ((with_reducible constructor) <;> rfl)))
             | (apply awT mixedOK hΓ (by kernel_rfl); (simp (disch := omega) only [go_sem, ↓reduceIte, dk, eDp, hy, hx1, hx2, Γ40, e1, e2] <;> with_reducible rfl))
             | ((first | apply awR hΓ | apply awG | apply awH mixedOK hΓ rfl (by kernel_rfl) | apply ovE rfl); (simp (disch := omega) only [go_sem, ↓reduceIte, dk, eDp, hy, hx1, hx2, Γ40, e1, e2] <;> with_reducible rfl); exact trivial)
             | rfl))
         rw [hs7]; done)
      | (have hn := hno rfl
         (repeat (first
             | (apply axJ; (focus ((with_reducible constructor) <;> rfl)))
             | (apply awT mixedOK hΓ (by kernel_rfl); (simp (disch := omega) only [go_sem, ↓reduceIte, dk, eDp, hy, hx1, hx2, Γ40, e1, e2] <;> with_reducible rfl))
             | ((first | apply awR hΓ | apply awG | apply awH mixedOK hΓ rfl (by kernel_rfl) | apply ovE rfl); (simp (disch := omega) only [go_sem, ↓reduceIte, dk, eDp, hy, hx1, hx2, Γ40, e1, e2] <;> with_reducible rfl); exact trivial)
             | rfl))
         exact ⟨i + 1, ⟨by omega, hn⟩, by omega, Weak.w⟩)
  · have hi' : i = r.dps.length := by omega
    subst hi'
    rw [List.take_length] at hpre
    have : disp r (pres r l) d.id = false := hpre
    have hst : stat r l d = 1 := by simp only [stat, hf, this, Bool.false_eq_true, if_false]
    repeat (first
      | (apply axJ; (focus ((with_reducible constructor) <;> rfl)))
      | (apply awT mixedOK hΓ (by kernel_rfl); (simp (disch := omega) only [go_sem, ↓reduceIte, dk] <;> with_reducible rfl))
      | ((first | apply awR hΓ | apply awG | apply awH mixedOK hΓ rfl (by kernel_rfl) | apply ovE rfl); (simp (disch := omega) only [go_sem, ↓reduceIte, dk] <;> with_reducible rfl); exact trivial)
      | rfl)
    rw [hst]
end Go.Ab
