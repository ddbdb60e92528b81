/-
  One text of the proof (own work): contracts of functions of the program, by the abstract machine.
-/
import Derived.Test.YtmcgfohokniepaaX21
import Derived.Test.YtmcgfohokniepaaX43
set_option linter.unusedVariables false
set_option linter.unusedSimpArgs false
namespace Go.Ab
open Go Go.RowKit Go.Proofs
set_option maxRecDepth 4000
set_option maxHeartbeats 4000000
noncomputable def g85 : List D → Option D := encSpec (fun x : Rev × List Now × Dc => [eV x.1 x.2.1, eDc x.2.2]) (fun x => SzV x.1 x.2.1) (fun x => .bool (has x.2.1 (ask x.2.2)))
theorem g85_eq {r : Rev} {l : List Now} {d : Dc} (h : SzV r l) : g85 [.agg [.list (r.rvs.map eRw), .list (r.pks.map ePk), .list (r.dcs.map eDc), .list (r.dps.map eDp), .list (l.map eN)], .agg [.str d.id, .str d.author, .str d.q, .str d.s, .str d.ans, .str d.dig, .int .i64 d.til, .bool d.w, .bool d.o, .bool d.rp]] = some (.bool (has l (ask d))) := encSpec_eq (x := (r, l, d)) h fun y hy => by
  obtain ⟨y1, y2, y3⟩ := y
  simp only [List.cons.injEq, and_true] at hy
  obtain ⟨e1, e2⟩ := eV_inj hy.1
  rw [e2, eDc_inj _ _ hy.2]
noncomputable def Γ85 : FuncId → Option CSpec := fun f => if f = 31 then some (.pure true (g31)) else none
theorem Γ85_ok : ∀ f s, Γ85 f = some s → SpecOK Try.prog f s := by
  intro f s h
  unfold Γ85 at h
  split at h
  · rename_i hf; cases h; subst hf; exact f31_ok
  · cases h
theorem f85_ok : PureOK Try.prog 85 true g85 := by
  have hΓ := Γ85_ok
  refine pure_enc (n := 15) (rs := [.tmp 4]) Try.func85 (by kernel_rfl) rfl (by kernel_rfl) (by kernel_rfl) ?_
  rintro ⟨r, l, d⟩ hz
  dsimp only at hz ⊢
  refine ⟨fun _ => .bool _, fun k hz0 => ?_⟩
  have e31 := g31_eq (x := ask d) hz.l
  simp only [ask] at e31 ⊢
  rw [start_frame (by simp)]; simp only [enumV, go_sem, emptyH]
  repeat (first
    | (apply axJ; (focus ((with_reducible constructor) <;> rfl)))
    | (apply awT mixedOK hΓ (by kernel_rfl); (simp (disch := omega) only [go_sem, ↓reduceIte, ↓lk, ↓ty_build39, dk, Γ85, e31] <;> with_reducible rfl))
    | ((first | apply awR hΓ | apply awG | apply awH mixedOK hΓ rfl (by kernel_rfl) | apply ovE rfl); (simp (disch := omega) only [go_sem, ↓reduceIte, ↓lk, ↓ty_build39, dk, Γ85, e31] <;> with_reducible rfl); exact trivial)
    | rfl)
noncomputable def g59 : List D → Option D := encSpec (fun x : Rev × List Now × Dc => [eV x.1 x.2.1, eDc x.2.2]) (fun x => SzV x.1 x.2.1 ∧ x.2.2.q.length ≤ 1099511627776) (fun x => .bool (first x.1 x.2.1 x.2.2 == 1))
theorem g59_eq {r : Rev} {l : List Now} {d : Dc} (h : SzV r l) (hq : d.q.length ≤ 1099511627776) : g59 [.agg [.list (r.rvs.map eRw), .list (r.pks.map ePk), .list (r.dcs.map eDc), .list (r.dps.map eDp), .list (l.map eN)], .agg [.str d.id, .str d.author, .str d.q, .str d.s, .str d.ans, .str d.dig, .int .i64 d.til, .bool d.w, .bool d.o, .bool d.rp]] = some (.bool (first r l d == 1)) := encSpec_eq (x := (r, l, d)) ⟨h, hq⟩ fun y hy => by
  obtain ⟨y1, y2, y3⟩ := y
  simp only [List.cons.injEq, and_true] at hy
  obtain ⟨e1, e2⟩ := eV_inj hy.1
  rw [e1, e2, eDc_inj _ _ hy.2]
noncomputable def Γ59 : FuncId → Option CSpec := fun f => if f = 84 then some (.pure true (g84)) else if f = 85 then some (.pure true (g85)) else none
theorem Γ59_ok : ∀ f s, Γ59 f = some s → SpecOK Try.prog f s := by
  intro f s h
  unfold Γ59 at h
  split at h
  · rename_i hf; cases h; subst hf; exact f84_ok
  split at h
  · rename_i hf; cases h; subst hf; exact f85_ok
  · cases h
theorem f59_ok : PureOK Try.prog 59 true g59 := by
  have hΓ := Γ59_ok
  refine pure_enc (n := 32) (rs := [.tmp 4]) Try.func59 (by kernel_rfl) rfl (by kernel_rfl) (by kernel_rfl) ?_
  rintro ⟨r, l, d⟩ ⟨hz, hq⟩
  dsimp only at hz hq ⊢
  refine ⟨fun _ => .bool _, fun k hz0 => ?_⟩
  have e84 := g84_eq hz hq
  have e85 := g85_eq (d := d) hz
  rw [start_frame (by simp)]; simp only [enumV, go_sem, emptyH]
  cases h1 : d.w with
  | true =>
    have hf : (first r l d == 1) = false := by simp [first, h1]
    repeat (first
      | (apply axJ; (focus ((with_reducible constructor) <;> rfl)))
      | (apply awT mixedOK hΓ (by kernel_rfl); (simp (disch := omega) only [go_sem, ↓reduceIte, dk, h1] <;> with_reducible rfl))
      | ((first | apply awR hΓ | apply awG | apply awH mixedOK hΓ rfl (by kernel_rfl) | apply ovE rfl); (simp (disch := omega) only [go_sem, ↓reduceIte, dk, h1] <;> with_reducible rfl); exact trivial)
      | rfl)
    rw [hf]
  | false =>
  cases h2 : d.o with
  | true =>
    have hf : (first r l d == 1) = false := by simp [first, h1, h2]
    repeat (first
      | (apply axJ; (focus ((with_reducible constructor) <;> rfl)))
      | (apply awT mixedOK hΓ (by kernel_rfl); (simp (disch := omega) only [go_sem, ↓reduceIte, dk, h1, h2] <;> with_reducible rfl))
      | ((first | apply awR hΓ | apply awG | apply awH mixedOK hΓ rfl (by kernel_rfl) | apply ovE rfl); (simp (disch := omega) only [go_sem, ↓reduceIte, dk, h1, h2] <;> with_reducible rfl); exact trivial)
      | rfl)
    rw [hf]
  | false =>
  cases h3 : d.rp with
  | true =>
    have hf : (first r l d == 1) = false := by simp [first, h1, h2, h3]
    repeat (first
      | (apply axJ; (focus ((with_reducible constructor) <;> rfl)))
      | (apply awT mixedOK hΓ (by kernel_rfl); (simp (disch := omega) only [go_sem, ↓reduceIte, dk, h1, h2, h3] <;> with_reducible rfl))
      | ((first | apply awR hΓ | apply awG | apply awH mixedOK hΓ rfl (by kernel_rfl) | apply ovE rfl); (simp (disch := omega) only [go_sem, ↓reduceIte, dk, h1, h2, h3] <;> with_reducible rfl); exact trivial)
      | rfl)
    rw [hf]
  | false =>
  rw [h1, h2, h3] at e85
  by_cases h4 : upgr r.pks (pkg d.q) > d.til
  · have hf : (first r l d == 1) = false := by simp only [first, h1, h2, h3, h4, if_true, Bool.false_eq_true, if_false]; rfl
    have hle : decide (upgr r.pks (pkg d.q) ≤ d.til) = false := decide_eq_false (by omega)
    repeat (first
      | (apply axJ; (focus ((with_reducible constructor) <;> rfl)))
      | (apply awT mixedOK hΓ (by kernel_rfl); (simp (disch := omega) only [go_sem, ↓reduceIte, dk, h1, h2, h3, Γ59, e84, hle] <;> with_reducible rfl))
      | ((first | apply awR hΓ | apply awG | apply awH mixedOK hΓ rfl (by kernel_rfl) | apply ovE rfl); (simp (disch := omega) only [go_sem, ↓reduceIte, dk, h1, h2, h3, Γ59, e84, hle] <;> with_reducible rfl); exact trivial)
      | rfl)
    rw [hf]
  · have hle : decide (upgr r.pks (pkg d.q) ≤ d.til) = true := decide_eq_true (by omega)
    obtain ⟨bv, h5⟩ : ∃ bv, has l (ask d) = bv := ⟨_, rfl⟩
    rw [h5] at e85
    have hf : (first r l d == 1) = bv := by
      simp only [first, h1, h2, h3, h4, h5, Bool.false_eq_true, if_false]
      cases bv <;> rfl
    rw [hf]
    repeat (first
      | (apply axJ; (focus ((with_reducible constructor) <;> rfl)))
      | (apply awT mixedOK hΓ (by kernel_rfl); (simp (disch := omega) only [go_sem, ↓reduceIte, dk, h1, h2, h3, Γ59, e84, hle, e85] <;> with_reducible rfl))
      | ((first | apply awR hΓ | apply awG | apply awH mixedOK hΓ rfl (by kernel_rfl) | apply ovE rfl); (simp (disch := omega) only [go_sem, ↓reduceIte, dk, h1, h2, h3, Γ59, e84, hle, e85] <;> with_reducible rfl); exact trivial)
      | rfl)
def mK (ks : List (List UInt8)) : List D := ks.map .str
def mV (ks : List (List UInt8)) : List D := ks.map fun _ => .bool true
@[go_sem] theorem keyKind_str (s : List UInt8) : keyKind Try.prog 9 (.str s) = true := by simp [keyKind, ty_und9]
@[go_sem] theorem mK_ok (ks : List (List UInt8)) : (mK ks).all (keyOK Try.prog 9) = true := by
  rw [List.all_eq_true]
  intro d hd
  obtain ⟨s, _, rfl⟩ := List.mem_map.1 hd
  simp [keyOK, keyKind, ty_und9]
theorem mfind_str (id : List UInt8) : ∀ (ks : List (List UInt8)) (n : Nat), mfind Try.prog 9 (.str id) (mK ks) n = some ((ks.findIdx? (id == ·)).map (· + n))
  | [], n => rfl
  | x :: ks, n => by
    simp only [mK, List.map_cons, mfind, keySame, keyEq, List.findIdx?_cons]
    cases h : (id == x) with
    | true => simp
    | false =>
      have := mfind_str id ks (n + 1)
      simp only [mK] at this
      simp only [this]
      cases ks.findIdx? (id == ·) <;> simp <;> omega
theorem contains_find (id : List UInt8) (ks : List (List UInt8)) : ks.contains id = (ks.findIdx? (id == ·)).isSome := by
  induction ks with
  | nil => rfl
  | cons x ks ih =>
    rw [List.contains_cons, ih, List.findIdx?_cons]
    cases (id == x) <;> simp
theorem mget_str (id : List UInt8) (ks : List (List UInt8)) : mget Try.prog 9 (mK ks) (mV ks) (.str id) = some (if ks.contains id then some (.bool true) else none) := by
  unfold mget
  rw [mfind_str, contains_find]
  cases h : ks.findIdx? (id == ·) with
  | none => simp
  | some i =>
    have hi := (List.findIdx?_eq_some_iff_getElem.1 h).1
    simp [mV, hi]
def kadd (ks : List (List UInt8)) (id : List UInt8) : List (List UInt8) := if ks.contains id then ks else ks ++ [id]
theorem mput_str (id : List UInt8) (ks : List (List UInt8)) : mput Try.prog 9 (mK ks) (mV ks) (.str id) (.bool true) = some (mK (kadd ks id), mV (kadd ks id)) := by
  unfold mput kadd
  rw [mfind_str, contains_find]
  cases h : ks.findIdx? (id == ·) with
  | none => simp [mK, mV]
  | some i =>
    obtain ⟨hi, h2, _⟩ := List.findIdx?_eq_some_iff_getElem.1 h
    have h2 : id = ks[i] := by simpa using h2
    simp only [Option.map_some, Nat.add_zero, Option.isSome_some, if_true, Option.some.injEq, Prod.mk.injEq]
    constructor
    · simp only [mK]
      rw [h2]
      apply List.ext_getElem (by simp)
      intro j h3 h4
      rw [List.getElem_set]
      split
      · rename_i he; subst he; simp
      · rfl
    · simp only [mV]
      apply List.ext_getElem (by simp)
      intro j h3 h4
      rw [List.getElem_set]
      split <;> simp
def dspP (ks : List (List UInt8)) (id : List UInt8) (x : Dp) : Bool := ((x.l == id) && ks.contains x.r) || ((x.r == id) && ks.contains x.l)
@[go_sem] def cDc (d : Dc) : List D := [.str d.id, .str d.author, .str d.q, .str d.s, .str d.ans, .str d.dig, .int .i64 d.til, .bool d.w, .bool d.o, .bool d.rp]
noncomputable def g116 (ks : List (List UInt8)) (d : Dc) : List D → Option D := encSpec (fun x : Dp => [eDp x, .ref (cDc d), .ref [.map (mK ks) (mV ks)]]) (fun _ => True) (fun x => .bool (dspP ks d.id x))
theorem g116_eq (ks : List (List UInt8)) (d : Dc) (x : Dp) : g116 ks d (eDp x :: [.ref (cDc d), .ref [.map (mK ks) (mV ks)]]) = some (.bool (dspP ks d.id x)) := encSpec_eq (x := x) trivial fun y hy => by
  simp only [List.cons.injEq, and_true] at hy
  rw [eDp_inj _ _ hy]
theorem f116_ok {ks : List (List UInt8)} {d : Dc} : PureOK Try.prog 116 true (g116 ks d) := by
  have hΓ := Γ0_ok
  refine pure_enc (n := 29) (rs := [.tmp 4]) Try.func116 (by kernel_rfl) rfl (by kernel_rfl) (by kernel_rfl) ?_
  intro x hx
  refine ⟨fun _ => .bool _, fun k hz0 => ?_⟩
  have m1 := mget_str x.r ks
  have m2 := mget_str x.l ks
  unfold dspP
  generalize ks.contains x.r = p1 at m1 ⊢
  generalize ks.contains x.l = p2 at m2 ⊢
  rw [start_frame (by simp)]; simp only [enumV, go_sem, emptyH]
  cases hx1 : (x.l == d.id) <;> cases hx2 : (x.r == d.id) <;> cases p1 <;> cases p2 <;> simp only [if_true, Bool.false_eq_true, if_false] at m1 m2
  all_goals
    (repeat (first
             | (apply axJ; (focus ((with_reducible constructor) <;> rfl)))
             | (apply awT mixedOK hΓ (by kernel_rfl); (simp (disch := omega) only [go_sem, ↓reduceIte, dk, hx1, hx2, ↓m1, ↓m2] <;> with_reducible rfl))
             | ((first | apply awR hΓ | apply awG | apply awH mixedOK hΓ rfl (by kernel_rfl) | apply ovE rfl); (simp (disch := omega) only [go_sem, ↓reduceIte, dk, hx1, hx2, ↓m1, ↓m2] <;> with_reducible rfl); exact trivial)
             | rfl))
theorem f130_ok {f : FuncId} {g : List D → Option D} {caps : List D} {p : _ → Bool} (hf : PureOK Try.prog f true g) (hp : ∀ x, g (eDp x :: caps) = some (.bool (p x))) : PureOK Try.prog 130 true (gIdx eDp f caps p) := by
  have hΓ := Γc_ok hf
  refine pure_enc (n := 19) (rs := [.tmp 4]) Try.func130 (by kernel_rfl) rfl (by kernel_rfl) (by kernel_rfl) ?_
  rintro l hlen
  refine ⟨fun _ => .int _ _, fun c hz0 => ?_⟩
  have hp' := hp
  try simp only [go_sem] at hp'
  simp only [start, go_sem, emptyH, List.replicate_succ, List.replicate_zero]
  repeat (first
    | (apply axJ; (focus ((with_reducible constructor) <;> rfl)))
    | (apply awT mixedOK hΓ (by kernel_rfl); (simp (disch := omega) only [go_sem, ↓reduceIte] <;> with_reducible rfl))
    | ((first | apply awR hΓ | apply awG | apply awH mixedOK hΓ rfl (by kernel_rfl) | apply ovE rfl); (simp (disch := omega) only [go_sem, ↓reduceIte] <;> with_reducible rfl); exact trivial)
    | rfl)
  refine awp_loop_at (X := Nat) (fun i => (.data (.list (l.map eDp)) :: .data (.clo f caps) :: .junk :: .junk :: .junk :: .junk :: .junk :: .data (i64 l.length) :: .data (i64 i) :: .junk :: .junk :: .junk :: .junk :: .junk :: .junk :: .junk :: .junk :: .junk :: .junk :: [])) (fun _ => []) 0
    (fun i => i ≤ l.length ∧ (l.take i).any p = false) (fun i => l.length - i) 0 ⟨Nat.zero_le _, rfl⟩ (Weak.of (by omega) (by simp [ConvL, Conv, ints]) (by simp [TabSub, look, Obj.refsOK, refsOKs, AV.refsOK]) (by simp [refsOKs, AV.refsOK])) ?_
  rintro i ⟨hi, hpre⟩
  repeat (first
    | (apply axJ; (focus ((with_reducible constructor) <;> rfl)))
    | (apply awT mixedOK hΓ (by kernel_rfl); (simp (disch := omega) only [go_sem, ↓reduceIte] <;> with_reducible rfl))
    | ((first | apply awR hΓ | apply awG | apply awH mixedOK hΓ rfl (by kernel_rfl) | apply ovE rfl); (simp (disch := omega) only [go_sem, ↓reduceIte] <;> with_reducible rfl); exact trivial)
    | rfl)
  refine awp_cond (by simp (disch := omega) only [go_sem, ↓reduceIte]; rfl) (fun hc => ?_) (fun hc => ?_)
  · have hi' : i < l.length := by simpa using hc
    repeat (first
      | (apply axJ; (focus ((with_reducible constructor) <;> rfl)))
      | (apply awT mixedOK hΓ (by kernel_rfl); (simp (disch := omega) only [go_sem, ↓reduceIte, dk, Γc, hp'] <;> with_reducible rfl))
      | ((first | apply awR hΓ | apply awG | apply awH mixedOK hΓ rfl (by kernel_rfl) | apply ovE rfl); (simp (disch := omega) only [go_sem, ↓reduceIte, dk, Γc, hp'] <;> with_reducible rfl); exact trivial)
      | rfl)
    refine awp_cond (by simp (disch := omega) only [go_sem, ↓reduceIte]; rfl) (fun hc => ?_) (fun hc => ?_)
    · repeat (first
      | (apply axJ; (focus ((with_reducible constructor) <;> rfl)))
      | (apply awT mixedOK hΓ (by kernel_rfl); (simp (disch := omega) only [go_sem, ↓reduceIte, dk] <;> with_reducible rfl))
      | ((first | apply awR hΓ | apply awG | apply awH mixedOK hΓ rfl (by kernel_rfl) | apply ovE rfl); (simp (disch := omega) only [go_sem, ↓reduceIte, dk] <;> with_reducible rfl); exact trivial)
      | rfl)
      rw [idx_at hi' hc hpre]
    · repeat (first
      | (apply axJ; (focus ((with_reducible constructor) <;> rfl)))
      | (apply awT mixedOK hΓ (by kernel_rfl); (simp (disch := omega) only [go_sem, ↓reduceIte, dk] <;> with_reducible rfl))
      | ((first | apply awR hΓ | apply awG | apply awH mixedOK hΓ rfl (by kernel_rfl) | apply ovE rfl); (simp (disch := omega) only [go_sem, ↓reduceIte, dk] <;> with_reducible rfl); exact trivial)
      | rfl)
      exact ⟨i + 1, ⟨by omega, any_next hi' hpre hc⟩, by omega, Weak.of (by omega) (by simp [ConvL, Conv, ints]) (by simp [TabSub, look, Obj.refsOK, refsOKs, AV.refsOK]) (by simp [refsOKs, AV.refsOK])⟩
  · repeat (first
    | (apply axJ; (focus ((with_reducible constructor) <;> rfl)))
    | (apply awT mixedOK hΓ (by kernel_rfl); (simp (disch := omega) only [go_sem, ↓reduceIte] <;> with_reducible rfl))
    | ((first | apply awR hΓ | apply awG | apply awH mixedOK hΓ rfl (by kernel_rfl) | apply ovE rfl); (simp (disch := omega) only [go_sem, ↓reduceIte] <;> with_reducible rfl); exact trivial)
    | rfl)
    have hi' : i = l.length := by
      have : ¬ i < l.length := by simpa using hc
      omega
    subst hi'
    rw [List.take_length] at hpre
    rw [idx_none hpre]
theorem f115_ok {f : FuncId} {g : List D → Option D} {caps : List D} {p : _ → Bool} (hf : PureOK Try.prog f true g) (hp : ∀ x, g (eDp x :: caps) = some (.bool (p x))) : PureOK Try.prog 115 true (gAny eDp f caps p) := by
  have hΓ := Γc_ok (f130_ok hf hp)
  refine pure_enc (n := 9) (rs := [.tmp 4]) Try.func115 (by kernel_rfl) rfl (by kernel_rfl) (by kernel_rfl) ?_
  rintro l hlen
  refine ⟨fun _ => .bool _, fun c hz0 => ?_⟩
  have hi := gIdx_eq (e := eDp) eDp_inj (f := f) (caps := caps) (p := p) hlen
  simp only [start, go_sem, emptyH, List.replicate_succ, List.replicate_zero]
  repeat (first
    | (apply axJ; (focus ((with_reducible constructor) <;> rfl)))
    | (apply awT mixedOK hΓ (by kernel_rfl); (simp (disch := omega) only [go_sem, ↓reduceIte, Γc, hi] <;> with_reducible rfl))
    | ((first | apply awR hΓ | apply awG | apply awH mixedOK hΓ rfl (by kernel_rfl) | apply ovE rfl); (simp (disch := omega) only [go_sem, ↓reduceIte, Γc, hi] <;> with_reducible rfl); exact trivial)
    | rfl)
  rw [← idx_nonneg]
theorem f115_all {ks : List (List UInt8)} {d : Dc} : PureOK Try.prog 115 true (gAny eDp 116 [.ref (cDc d), .ref [.map (mK ks) (mV ks)]] (dspP ks d.id)) := f115_ok f116_ok fun x => g116_eq ks d x
theorem mK_inj {a b : List (List UInt8)} (h : mK a = mK b) : a = b := map_inj (fun x y h => by simpa using h) h
noncomputable def g86 : List D → Option D := encSpec (fun x : Rev × List Now × Dc × List (List UInt8) => [eV x.1 x.2.1, eDc x.2.2.1, .map (mK x.2.2.2) (mV x.2.2.2)]) (fun x => SzV x.1 x.2.1) (fun x => .bool (disp x.1 (x.2.2.2.contains ·) x.2.2.1.id))
theorem g86_eq {r : Rev} {l : List Now} {d : Dc} {ks : List (List UInt8)} (h : SzV r l) : g86 [.agg [.list (r.rvs.map eRw), .list (r.pks.map ePk), .list (r.dcs.map eDc), .list (r.dps.map eDp), .list (l.map eN)], .agg [.str d.id, .str d.author, .str d.q, .str d.s, .str d.ans, .str d.dig, .int .i64 d.til, .bool d.w, .bool d.o, .bool d.rp], .map (mK ks) (mV ks)] = some (.bool (disp r (ks.contains ·) d.id)) := encSpec_eq (x := (r, l, d, ks)) h fun y hy => by
  obtain ⟨y1, y2, y3, y4⟩ := y
  simp only [List.cons.injEq, and_true, D.map.injEq] at hy
  obtain ⟨e1, e2⟩ := eV_inj hy.1
  rw [e1, eDc_inj _ _ hy.2.1, mK_inj hy.2.2.1]
noncomputable def Γ86 (ks : List (List UInt8)) (d : Dc) : FuncId → Option CSpec := fun f => if f = 115 then some (.pure true (gAny eDp 116 [.ref (cDc d), .ref [.map (mK ks) (mV ks)]] (dspP ks d.id))) else none
theorem Γ86_ok (ks : List (List UInt8)) (d : Dc) : ∀ f s, Γ86 ks d f = some s → SpecOK Try.prog f s := by
  intro f s h
  unfold Γ86 at h
  split at h
  · rename_i hf; cases h; subst hf; exact f115_all
  · cases h
theorem f86_ok : PureOK Try.prog 86 true g86 := by
  refine pure_enc (n := 12) (rs := [.tmp 6]) Try.func86 (by kernel_rfl) rfl (by kernel_rfl) (by kernel_rfl) ?_
  rintro ⟨r, l, d, ks⟩ hz
  dsimp only at hz ⊢
  have hΓ := Γ86_ok ks d
  refine ⟨fun _ => .bool _, fun k hz0 => ?_⟩
  have e115 := gAny_eq (e := eDp) eDp_inj (f := 116) (caps := [.ref (cDc d), .ref [.map (mK ks) (mV ks)]]) (p := dspP ks d.id) hz.r.dps
  have h115 : Γ86 ks d 115 = some (.pure true (gAny eDp 116 [.ref (cDc d), .ref [.map (mK ks) (mV ks)]] (dspP ks d.id))) := rfl
  have hd : disp r (ks.contains ·) d.id = r.dps.any (dspP ks d.id) := rfl
  rw [hd]
  simp only [cDc] at e115 h115
  rw [start_frame (by simp)]; simp only [enumV, go_sem, emptyH]
  repeat (first
    | (apply axJ; (focus ((with_reducible constructor) <;> rfl)))
    | (apply awT mixedOK hΓ (by kernel_rfl); (simp (disch := omega) only [go_sem, ↓reduceIte, dk, h115, e115] <;> with_reducible rfl))
    | ((first | apply awR hΓ | apply awG | apply awH mixedOK hΓ rfl (by kernel_rfl) | apply ovE rfl); (simp (disch := omega) only [go_sem, ↓reduceIte, dk, h115, e115] <;> with_reducible rfl); exact trivial)
    | rfl)
def statK (r : Rev) (l : List Now) (d : Dc) (ks : List (List UInt8)) : Int := if first r l d != 1 then first r l d else if disp r (ks.contains ·) d.id then 7 else 1
noncomputable def g60 : List D → Option D := encSpec (fun x : Rev × List Now × Dc × List (List UInt8) => [eV x.1 x.2.1, eDc x.2.2.1, .map (mK x.2.2.2) (mV x.2.2.2)]) (fun x => SzV x.1 x.2.1 ∧ x.2.2.1.q.length ≤ 1099511627776) (fun x => i64 (statK x.1 x.2.1 x.2.2.1 x.2.2.2))
theorem g60_eq {r : Rev} {l : List Now} {d : Dc} {ks : List (List UInt8)} (h : SzV r l) (hq : d.q.length ≤ 1099511627776) : g60 [.agg [.list (r.rvs.map eRw), .list (r.pks.map ePk), .list (r.dcs.map eDc), .list (r.dps.map eDp), .list (l.map eN)], .agg [.str d.id, .str d.author, .str d.q, .str d.s, .str d.ans, .str d.dig, .int .i64 d.til, .bool d.w, .bool d.o, .bool d.rp], .map (mK ks) (mV ks)] = some (.int .i64 (statK r l d ks)) := encSpec_eq (x := (r, l, d, ks)) ⟨h, hq⟩ fun y hy => by
  obtain ⟨y1, y2, y3, y4⟩ := y
  simp only [List.cons.injEq, and_true, D.map.injEq] at hy
  obtain ⟨e1, e2⟩ := eV_inj hy.1
  rw [e1, e2, eDc_inj _ _ hy.2.1, mK_inj hy.2.2.1]
noncomputable def Γ60 : FuncId → Option CSpec := fun f => if f = 84 then some (.pure true (g84)) else if f = 85 then some (.pure true (g85)) else if f = 86 then some (.pure true (g86)) else none
theorem Γ60_ok : ∀ f s, Γ60 f = some s → SpecOK Try.prog f s := by
  intro f s h
  unfold Γ60 at h
  split at h
  · rename_i hf; cases h; subst hf; exact f84_ok
  split at h
  · rename_i hf; cases h; subst hf; exact f85_ok
  split at h
  · rename_i hf; cases h; subst hf; exact f86_ok
  · cases h
theorem f60_ok : PureOK Try.prog 60 true g60 := by
  have hΓ := Γ60_ok
  refine pure_enc (n := 34) (rs := [.tmp 6]) Try.func60 (by kernel_rfl) rfl (by kernel_rfl) (by kernel_rfl) ?_
  rintro ⟨r, l, d, ks⟩ ⟨hz, hq⟩
  dsimp only at hz hq ⊢
  refine ⟨fun _ => .int _ _, fun k hz0 => ?_⟩
  have e84 := g84_eq hz hq
  have e85 := g85_eq (d := d) hz
  have e86 := g86_eq (d := d) (ks := ks) hz
  rw [start_frame (by simp)]; simp only [enumV, go_sem, emptyH]
  cases h1 : d.w with
  | true =>
    have hf : statK r l d ks = 2 := by simp [statK, first, h1]
    repeat (first
      | (apply axJ; (focus ((with_reducible constructor) <;> rfl)))
      | (apply awT mixedOK hΓ (by kernel_rfl); (simp (disch := omega) only [go_sem, ↓reduceIte, dk, h1] <;> with_reducible rfl))
      | ((first | apply awR hΓ | apply awG | apply awH mixedOK hΓ rfl (by kernel_rfl) | apply ovE rfl); (simp (disch := omega) only [go_sem, ↓reduceIte, dk, h1] <;> with_reducible rfl); exact trivial)
      | rfl)
    rw [hf]
  | false =>
  cases h2 : d.o with
  | true =>
    have hf : statK r l d ks = 3 := by simp [statK, first, h1, h2]
    repeat (first
      | (apply axJ; (focus ((with_reducible constructor) <;> rfl)))
      | (apply awT mixedOK hΓ (by kernel_rfl); (simp (disch := omega) only [go_sem, ↓reduceIte, dk, h1, h2] <;> with_reducible rfl))
      | ((first | apply awR hΓ | apply awG | apply awH mixedOK hΓ rfl (by kernel_rfl) | apply ovE rfl); (simp (disch := omega) only [go_sem, ↓reduceIte, dk, h1, h2] <;> with_reducible rfl); exact trivial)
      | rfl)
    rw [hf]
  | false =>
  cases h3 : d.rp with
  | true =>
    have hf : statK r l d ks = 4 := by simp [statK, first, h1, h2, h3]
    repeat (first
      | (apply axJ; (focus ((with_reducible constructor) <;> rfl)))
      | (apply awT mixedOK hΓ (by kernel_rfl); (simp (disch := omega) only [go_sem, ↓reduceIte, dk, h1, h2, h3] <;> with_reducible rfl))
      | ((first | apply awR hΓ | apply awG | apply awH mixedOK hΓ rfl (by kernel_rfl) | apply ovE rfl); (simp (disch := omega) only [go_sem, ↓reduceIte, dk, h1, h2, h3] <;> with_reducible rfl); exact trivial)
      | rfl)
    rw [hf]
  | false =>
  rw [h1, h2, h3] at e85 e86
  by_cases h4 : upgr r.pks (pkg d.q) > d.til
  · have hf : statK r l d ks = 5 := by
      have : first r l d = 5 := by simp only [first, h1, h2, h3, h4, if_true, Bool.false_eq_true, if_false]
      simp only [statK, this]; rfl
    repeat (first
      | (apply axJ; (focus ((with_reducible constructor) <;> rfl)))
      | (apply awT mixedOK hΓ (by kernel_rfl); (simp (disch := omega) only [go_sem, ↓reduceIte, dk, h1, h2, h3, Γ60, e84] <;> with_reducible rfl))
      | ((first | apply awR hΓ | apply awG | apply awH mixedOK hΓ rfl (by kernel_rfl) | apply ovE rfl); (simp (disch := omega) only [go_sem, ↓reduceIte, dk, h1, h2, h3, Γ60, e84] <;> with_reducible rfl); exact trivial)
      | rfl)
    rw [hf]
  · obtain ⟨bv, h5⟩ : ∃ bv, has l (ask d) = bv := ⟨_, rfl⟩
    obtain ⟨cv, h6⟩ : ∃ cv, disp r (ks.contains ·) d.id = cv := ⟨_, rfl⟩
    rw [h5] at e85
    rw [h6] at e86
    cases bv with
    | false =>
      have hf : statK r l d ks = 6 := by
        have : first r l d = 6 := by simp only [first, h1, h2, h3, h4, h5, Bool.false_eq_true, if_false]
        simp only [statK, this]; rfl
      repeat (first
        | (apply axJ; (focus ((with_reducible constructor) <;> rfl)))
        | (apply awT mixedOK hΓ (by kernel_rfl); (simp (disch := omega) only [go_sem, ↓reduceIte, dk, h1, h2, h3, Γ60, e84, e85] <;> with_reducible rfl))
        | ((first | apply awR hΓ | apply awG | apply awH mixedOK hΓ rfl (by kernel_rfl) | apply ovE rfl); (simp (disch := omega) only [go_sem, ↓reduceIte, dk, h1, h2, h3, Γ60, e84, e85] <;> with_reducible rfl); exact trivial)
        | rfl)
      rw [hf]
    | true =>
      have h7 : first r l d = 1 := by simp only [first, h1, h2, h3, h4, h5, if_true, Bool.false_eq_true, if_false]
      cases cv with
      | true =>
        have hf : statK r l d ks = 7 := by simp only [statK, h7, h6]; rfl
        repeat (first
          | (apply axJ; (focus ((with_reducible constructor) <;> rfl)))
          | (apply awT mixedOK hΓ (by kernel_rfl); (simp (disch := omega) only [go_sem, ↓reduceIte, dk, h1, h2, h3, Γ60, e84, e85, e86] <;> with_reducible rfl))
          | ((first | apply awR hΓ | apply awG | apply awH mixedOK hΓ rfl (by kernel_rfl) | apply ovE rfl); (simp (disch := omega) only [go_sem, ↓reduceIte, dk, h1, h2, h3, Γ60, e84, e85, e86] <;> with_reducible rfl); exact trivial)
          | rfl)
        rw [hf]
      | false =>
        have hf : statK r l d ks = 1 := by simp only [statK, h7, h6]; rfl
        repeat (first
          | (apply axJ; (focus ((with_reducible constructor) <;> rfl)))
          | (apply awT mixedOK hΓ (by kernel_rfl); (simp (disch := omega) only [go_sem, ↓reduceIte, dk, h1, h2, h3, Γ60, e84, e85, e86] <;> with_reducible rfl))
          | ((first | apply awR hΓ | apply awG | apply awH mixedOK hΓ rfl (by kernel_rfl) | apply ovE rfl); (simp (disch := omega) only [go_sem, ↓reduceIte, dk, h1, h2, h3, Γ60, e84, e85, e86] <;> with_reducible rfl); exact trivial)
          | rfl)
        rw [hf]
end Go.Ab
