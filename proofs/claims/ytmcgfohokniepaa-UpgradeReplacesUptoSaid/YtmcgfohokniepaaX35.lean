/-
  One text of the proof (own work): contracts of functions of the program, by the abstract machine.
-/
import Derived.Test.YtmcgfohokniepaaX25
import Derived.Test.YtmcgfohokniepaaX34
import Derived.Test.YtmcgfohokniepaaX33
import Derived.Test.YtmcgfohokniepaaX31
set_option linter.unusedVariables false
set_option linter.unusedSimpArgs false
namespace Go.Ab
open Go Go.RowKit Go.Proofs
set_option maxRecDepth 100000
set_option maxHeartbeats 40000000
theorem call16o (ao : Option Addr) (cap : Nat) (w : World) :
    Calls Try.prog 16 #[.slice ao 0 cap] w fun e w' => ∃ v, e = .returned v ∧ ownsM w' w.heap.size 39 3 v 0 [] ∧ Below w.heap.size w w' := by
  cases ao with
  | none =>
    go_enter Try.func16, Try.ntmps16
    go_wp2
    rw [eq_nil31]
    simp only [Result.andThen]
    rw [Oper.upon_value]
    go_wp2
    go_ret
    exact ⟨_, rfl, ⟨rfl, .inl ⟨rfl, rfl⟩⟩, Below.refl _ _⟩
  | some a =>
    go_enter Try.func16, Try.ntmps16
    go_wp2
    rw [eq_nil31]
    simp only [Result.andThen]
    rw [Oper.upon_value]
    go_wp2
    go_ret
    exact ⟨_, rfl, ownsM_lit w #[] 0 (Nat.le_refl _) (Nat.zero_le _) rfl, (Below.refl _ _).alloc (Nat.le_refl _) _⟩
theorem f16o_ex : ∃ g, OwnOK Try.prog 16 g ∧ ∀ l : List Now, l.length ≤ 1099511627776 ∧ l ≠ [] → ∃ m, m = l.map eN ∧ g [.list (l.map eN)] = some (39, 3, m) := by
  have hΓ := Γ0_ok
  refine own_ex (enc := fun l : List Now => [.list (l.map eN)]) (dom := fun l => l.length ≤ 1099511627776 ∧ l ≠ []) (good := fun l m => m = l.map eN) (t := 39) (sz := 3) (n := 8) (rs := [.tmp 2]) (by omega) Try.func16 (by kernel_rfl) rfl (by kernel_rfl) (by kernel_rfl) (fun a b h => by
    simp only [List.cons.injEq, and_true, D.list.injEq] at h
    exact map_inj eN_inj h) ?_
  rintro l ⟨hl, hne⟩
  obtain ⟨x, l, rfl⟩ := List.exists_cons_of_ne_nil hne
  refine ⟨fun l' hm => hm ▸ elemsOK_map (f := eN) (sz := 3) (fun _ => ⟨rfl, rfl⟩) _, ?_⟩
  rw [start_frame (by simp)]; simp only [enumV, go_sem, emptyH]
  have hem : elemsOK 3 (l.map eN) = true := elemsOK_map (f := eN) (sz := 3) (fun x => ⟨by simp [eN, D.cells], by simp [eN, D.cells, D.one]⟩) l
  have hml : (l.map eN).length + 1 ≤ 1099511627776 := by simpa using hl
  generalize l.map eN = m at *
  (repeat (first | (apply axJ; (focus ((with_reducible constructor) <;> rfl))) | ((first | apply axR hΓ | apply axG | apply ovX rfl | apply ovE rfl); (simp (disch := omega) only [go_sem, ↓reduceIte, ↓lk, dk, hem] <;> with_reducible rfl); exact trivial) | rfl))
  exact reto_x (o := 3) (l := .agg [.str x.q, .str x.s, .str x.d] :: m) rfl (by simp [go_sem]) rfl rfl
open Classical in
noncomputable def g16o : List D → Option (TypeId × Nat × List D) := fun ds => if ds = [.list []] then some (39, 3, []) else f16o_ex.choose ds
theorem g16o_eq {l : List Now} (h : l.length ≤ 1099511627776) : g16o [.list (l.map eN)] = some (39, 3, l.map eN) := by
  cases l with
  | nil => rw [List.map_nil]; exact if_pos rfl
  | cons x l =>
    obtain ⟨m, rfl, h2⟩ := f16o_ex.choose_spec.2 (x :: l) ⟨h, by simp⟩
    rw [← h2]
    exact if_neg (by simp)
theorem f16o_ok : OwnOK Try.prog 16 g16o := by
  intro ds e sz l hd
  unfold g16o at hd
  by_cases hds : ds = [.list []]
  · rw [if_pos hds] at hd
    cases hd
    subst hds
    refine ⟨by omega, by simp, by simp [flat], fun w B vs hB hz hvs => ⟨⟨_, Try.func16, rfl, rfl⟩, ?_⟩⟩
    obtain ⟨u, hu⟩ : ∃ u, vs[0]? = some u := ⟨_, Array.getElem?_eq_getElem (by simp at hz; omega)⟩
    obtain ⟨ao, cap, hv, _⟩ := (hvs 0 (by simp) u hu).list_inv
    have hvs2 : vs = #[.slice ao 0 cap] := by
      apply Array.ext_getElem?
      intro i
      match i with
      | 0 => rw [hu, hv]; rfl
      | i + 1 => rw [Array.getElem?_eq_none (by simp at hz; omega), Array.getElem?_eq_none (by simp)]
    rw [hvs2]
    refine (call16o ao cap w).mono ?_
    rintro e w' ⟨v, rfl, ho, hb⟩
    exact ⟨_, rfl, ⟨[], ho, fun i hi => by simp [flat] at hi⟩, hb⟩
  · rw [if_neg hds] at hd
    exact f16o_ex.choose_spec.1 ds e sz l hd
end Go.Ab
namespace Go.Ab
open Go Go.RowKit Go.Proofs
set_option maxRecDepth 4000
set_option maxHeartbeats 40000000
@[go_sem] theorem ty_size89 : tsize Try.prog 89 = (some 1) := by kernel_rfl
@[go_sem] theorem ty_bytes89 : tbytes Try.prog 89 = (some 8) := by kernel_rfl
@[go_sem] theorem ty_agg89 : tagg Try.prog 89 = (some false) := by kernel_rfl
noncomputable def gIdxD {α : Type} (e : α → D) (dm : α → Prop) (f : FuncId) (caps : List D) (p : α → Bool) : List D → Option D := encSpec (fun l : List α => [.list (l.map e), .clo f caps]) (fun l => l.length ≤ 1099511627776 ∧ ∀ x ∈ l, dm x) (fun l => i64 (idx p l))
theorem gIdxD_eq {α : Type} {e : α → D} {dm : α → Prop} (he : ∀ a b, e a = e b → a = b) {f : FuncId} {caps : List D} {p : α → Bool} {l : List α} (h : l.length ≤ 1099511627776) (hd : ∀ x ∈ l, dm x) : gIdxD e dm f caps p [.list (l.map e), .clo f caps] = some (.int .i64 (idx p l)) :=
  encSpec_eq (x := l) ⟨h, hd⟩ fun y hy => by
    simp only [List.cons.injEq, D.list.injEq, and_true] at hy
    rw [List.map_inj_right he |>.1 hy]
noncomputable def gAnyD {α : Type} (e : α → D) (dm : α → Prop) (f : FuncId) (caps : List D) (p : α → Bool) : List D → Option D := encSpec (fun l : List α => [.list (l.map e), .clo f caps]) (fun l => l.length ≤ 1099511627776 ∧ ∀ x ∈ l, dm x) (fun l => .bool (l.any p))
theorem gAnyD_eq {α : Type} {e : α → D} {dm : α → Prop} (he : ∀ a b, e a = e b → a = b) {f : FuncId} {caps : List D} {p : α → Bool} {l : List α} (h : l.length ≤ 1099511627776) (hd : ∀ x ∈ l, dm x) : gAnyD e dm f caps p [.list (l.map e), .clo f caps] = some (.bool (l.any p)) :=
  encSpec_eq (x := l) ⟨h, hd⟩ fun y hy => by
    simp only [List.cons.injEq, D.list.injEq, and_true] at hy
    rw [List.map_inj_right he |>.1 hy]
theorem f77d_ok {dm : _ → Prop} {f : FuncId} {g : List D → Option D} {caps : List D} {p : _ → Bool} (hf : PureOK Try.prog f true g) (hp : ∀ x, dm x → g (eN x :: caps) = some (.bool (p x))) : PureOK Try.prog 77 true (gIdxD eN dm f caps p) := by
  have hΓ := Γc_ok hf
  refine pure_enc (n := 19) (rs := [.tmp 4]) Try.func77 (by kernel_rfl) rfl (by kernel_rfl) (by kernel_rfl) ?_
  rintro l ⟨hlen, hdm⟩
  refine ⟨fun _ => .int _ _, fun c hz0 => ?_⟩
  simp only [start, go_sem, emptyH, List.replicate_succ, List.replicate_zero]
  repeat (first
    | (apply axJ; (focus ((with_reducible constructor) <;> rfl)))
    | (apply awT mixedOK hΓ (by kernel_rfl); (simp (disch := omega) only [go_sem, ↓reduceIte] <;> with_reducible rfl))
    | ((first | apply awR hΓ | apply awG | apply awH mixedOK hΓ rfl (by kernel_rfl) | apply ovE rfl); (simp (disch := omega) only [go_sem, ↓reduceIte] <;> with_reducible rfl); exact trivial)
    | rfl)
  refine awp_loop_at (X := Nat) (fun i => (.data (.list (l.map eN)) :: .data (.clo f caps) :: .junk :: .junk :: .junk :: .junk :: .junk :: .data (i64 l.length) :: .data (i64 i) :: .junk :: .junk :: .junk :: .junk :: .junk :: .junk :: .junk :: .junk :: .junk :: .junk :: [])) (fun _ => []) 0
    (fun i => i ≤ l.length ∧ (l.take i).any p = false) (fun i => l.length - i) 0 ⟨Nat.zero_le _, rfl⟩ (Weak.of (by omega) (by simp [ConvL, Conv, ints]) (by simp [TabSub, look, Obj.refsOK, refsOKs, AV.refsOK]) (by simp [refsOKs, AV.refsOK])) ?_
  rintro i ⟨hi, hpre⟩
  repeat (first
    | (apply axJ; (focus ((with_reducible constructor) <;> rfl)))
    | (apply awT mixedOK hΓ (by kernel_rfl); (simp (disch := omega) only [go_sem, ↓reduceIte] <;> with_reducible rfl))
    | ((first | apply awR hΓ | apply awG | apply awH mixedOK hΓ rfl (by kernel_rfl) | apply ovE rfl); (simp (disch := omega) only [go_sem, ↓reduceIte] <;> with_reducible rfl); exact trivial)
    | rfl)
  refine awp_cond (by simp (disch := omega) only [go_sem, ↓reduceIte]; rfl) (fun hc => ?_) (fun hc => ?_)
  · have hi' : i < l.length := by simpa using hc
    have hp' := hp _ (hdm _ (List.getElem_mem hi'))
    try simp only [go_sem] at hp'
    repeat (first
      | (apply axJ; (focus ((with_reducible constructor) <;> rfl)))
      | (apply awT mixedOK hΓ (by kernel_rfl); (simp (disch := omega) only [go_sem, ↓reduceIte, dk, Γc, hp'] <;> with_reducible rfl))
      | ((first | apply awR hΓ | apply awG | apply awH mixedOK hΓ rfl (by kernel_rfl) | apply ovE rfl); (simp (disch := omega) only [go_sem, ↓reduceIte, dk, Γc, hp'] <;> with_reducible rfl); exact trivial)
      | rfl)
    refine awp_cond (by simp (disch := omega) only [go_sem, ↓reduceIte]; rfl) (fun hc => ?_) (fun hc => ?_)
    · repeat (first
      | (apply axJ; (focus ((with_reducible constructor) <;> rfl)))
      | (apply awT mixedOK hΓ (by kernel_rfl); (simp (disch := omega) only [go_sem, ↓reduceIte, dk] <;> with_reducible rfl))
      | ((first | apply awR hΓ | apply awG | apply awH mixedOK hΓ rfl (by kernel_rfl) | apply ovE rfl); (simp (disch := omega) only [go_sem, ↓reduceIte, dk] <;> with_reducible rfl); exact trivial)
      | rfl)
      rw [idx_at hi' hc hpre]
    · repeat (first
      | (apply axJ; (focus ((with_reducible constructor) <;> rfl)))
      | (apply awT mixedOK hΓ (by kernel_rfl); (simp (disch := omega) only [go_sem, ↓reduceIte, dk] <;> with_reducible rfl))
      | ((first | apply awR hΓ | apply awG | apply awH mixedOK hΓ rfl (by kernel_rfl) | apply ovE rfl); (simp (disch := omega) only [go_sem, ↓reduceIte, dk] <;> with_reducible rfl); exact trivial)
      | rfl)
      exact ⟨i + 1, ⟨by omega, any_next hi' hpre hc⟩, by omega, Weak.of (by omega) (by simp [ConvL, Conv, ints]) (by simp [TabSub, look, Obj.refsOK, refsOKs, AV.refsOK]) (by simp [refsOKs, AV.refsOK])⟩
  · repeat (first
    | (apply axJ; (focus ((with_reducible constructor) <;> rfl)))
    | (apply awT mixedOK hΓ (by kernel_rfl); (simp (disch := omega) only [go_sem, ↓reduceIte] <;> with_reducible rfl))
    | ((first | apply awR hΓ | apply awG | apply awH mixedOK hΓ rfl (by kernel_rfl) | apply ovE rfl); (simp (disch := omega) only [go_sem, ↓reduceIte] <;> with_reducible rfl); exact trivial)
    | rfl)
    have hi' : i = l.length := by
      have : ¬ i < l.length := by simpa using hc
      omega
    subst hi'
    rw [List.take_length] at hpre
    rw [idx_none hpre]
theorem f52d_ok {dm : _ → Prop} {f : FuncId} {g : List D → Option D} {caps : List D} {p : _ → Bool} (hf : PureOK Try.prog f true g) (hp : ∀ x, dm x → g (eN x :: caps) = some (.bool (p x))) : PureOK Try.prog 52 true (gAnyD eN dm f caps p) := by
  have hΓ := Γc_ok (f77d_ok (dm := dm) hf hp)
  refine pure_enc (n := 9) (rs := [.tmp 4]) Try.func52 (by kernel_rfl) rfl (by kernel_rfl) (by kernel_rfl) ?_
  rintro l ⟨hlen, hdm⟩
  refine ⟨fun _ => .bool _, fun c hz0 => ?_⟩
  have hi := gIdxD_eq (e := eN) (dm := dm) eN_inj (f := f) (caps := caps) (p := p) hlen hdm
  simp only [start, go_sem, emptyH, List.replicate_succ, List.replicate_zero]
  repeat (first
    | (apply axJ; (focus ((with_reducible constructor) <;> rfl)))
    | (apply awT mixedOK hΓ (by kernel_rfl); (simp (disch := omega) only [go_sem, ↓reduceIte, Γc, hi] <;> with_reducible rfl))
    | ((first | apply awR hΓ | apply awG | apply awH mixedOK hΓ rfl (by kernel_rfl) | apply ovE rfl); (simp (disch := omega) only [go_sem, ↓reduceIte, Γc, hi] <;> with_reducible rfl); exact trivial)
    | rfl)
  rw [← idx_nonneg]
def pkq (nm : List UInt8) (x : Now) : Bool := pkg x.q == nm
def Qsz (x : Now) : Prop := x.q.length ≤ 1099511627776
noncomputable def Γ51 : FuncId → Option CSpec := fun f => if f = 12 then some (.pure true (g12)) else none
theorem Γ51_ok : ∀ f s, Γ51 f = some s → SpecOK Try.prog f s := by
  intro f s h
  unfold Γ51 at h
  split at h
  · rename_i hf; cases h; subst hf; exact f12_ok
  · cases h
noncomputable def g51 (nm : List UInt8) : List D → Option D := encSpec (fun x : Now => [eN x, .ref [.str nm]]) Qsz (fun x => .bool (pkq nm x))
theorem g51_eq {nm : List UInt8} (x : Now) (h : Qsz x) : g51 nm (eN x :: [.ref [.str nm]]) = some (.bool (pkq nm x)) := encSpec_eq (x := x) h fun y hy => by
  simp only [List.cons.injEq, and_true] at hy
  rw [eN_inj _ _ hy]
theorem f51_ok (nm : List UInt8) : PureOK Try.prog 51 true (g51 nm) := by
  have hΓ := Γ51_ok
  refine pure_enc (n := 9) (rs := [.tmp 3]) Try.func51 (by kernel_rfl) rfl (by kernel_rfl) (by kernel_rfl) ?_
  intro x hx
  refine ⟨fun _ => .bool _, fun k hz0 => ?_⟩
  have e12 := g12_eq hx
  unfold pkq
  generalize pkg x.q = s at *
  generalize hb : (s == nm) = b
  rw [start_frame (by simp)]; simp only [enumV, go_sem, emptyH]
  repeat (first
    | (apply axJ; (focus ((with_reducible constructor) <;> rfl)))
    | (apply awT mixedOK hΓ (by kernel_rfl); (simp (disch := omega) only [go_sem, ↓reduceIte, dk, Γ51, eN, e12, hb] <;> with_reducible rfl))
    | ((first | apply awR hΓ | apply awG | apply awH mixedOK hΓ rfl (by kernel_rfl) | apply ovE rfl); (simp (disch := omega) only [go_sem, ↓reduceIte, dk, Γ51, eN, e12, hb] <;> with_reducible rfl); exact trivial)
    | rfl)
noncomputable def g53 (nm : List UInt8) : List D → Option D := encSpec (fun x : Now => [eN x, .ref [.clo 51 [.ref [.str nm]]]]) Qsz (fun x => .bool (!pkq nm x))
theorem g53_eq {nm : List UInt8} (x : Now) (h : Qsz x) : g53 nm (eN x :: [.ref [.clo 51 [.ref [.str nm]]]]) = some (.bool (!pkq nm x)) := encSpec_eq (x := x) h fun y hy => by
  simp only [List.cons.injEq, and_true] at hy
  rw [eN_inj _ _ hy]
theorem f53_ok (nm : List UInt8) : PureOK Try.prog 53 true (g53 nm) := by
  have hΓ := Γc_ok (f51_ok nm)
  refine pure_enc (n := 8) (rs := [.tmp 3]) Try.func53 (by kernel_rfl) rfl (by kernel_rfl) (by kernel_rfl) ?_
  intro x hx
  refine ⟨fun _ => .bool _, fun k hz0 => ?_⟩
  have e51 := g51_eq (nm := nm) x hx
  unfold eN at e51
  generalize pkq nm x = b at *
  rw [start_frame (by simp)]; simp only [enumV, go_sem, emptyH]
  repeat (first
    | (apply axJ; (focus ((with_reducible constructor) <;> rfl)))
    | (apply awT mixedOK hΓ (by kernel_rfl); (simp (disch := omega) only [go_sem, ↓reduceIte, dk, Γc, eN, e51] <;> with_reducible rfl))
    | ((first | apply awR hΓ | apply awG | apply awH mixedOK hΓ rfl (by kernel_rfl) | apply ovE rfl); (simp (disch := omega) only [go_sem, ↓reduceIte, dk, Γc, eN, e51] <;> with_reducible rfl); exact trivial)
    | rfl)
theorem f52_all {nm : List UInt8} : PureOK Try.prog 52 true (gAnyD eN Qsz 53 [.ref [.clo 51 [.ref [.str nm]]]] fun x => !pkq nm x) := f52d_ok (f53_ok nm) fun x hx => g53_eq x hx
theorem f77_all {nm : List UInt8} : PureOK Try.prog 77 true (gIdxD eN Qsz 51 [.ref [.str nm]] (pkq nm)) := f77d_ok (f51_ok nm) fun x hx => g51_eq x hx
end Go.Ab
