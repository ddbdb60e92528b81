/-
  One text of the proof (own work): contracts of functions of the program, by the abstract machine.
-/
import Derived.Test.YtapnigckcnknoaaGreatDoorX0
set_option linter.unusedVariables false
set_option linter.unusedSimpArgs false
namespace Go.Ab
open Go Go.RowKit
def updθ (θ : Nat → Value) (k : Nat) (v : Value) : Nat → Value := fun o => if o = k then v else θ o
theorem heap_lt {w : World} {b : Nat} {o : Go.Obj} (h : w.heap[b]? = some o) : b < w.heap.size := (Array.getElem?_eq_some_iff.1 h).1
theorem ObjR.lt {c : Ctx} {H : Heap} {θ : Nat → Value} {w : World} {x : Obj} {v : Value} (h : ObjR c H θ w x v) (hx : x.live = true) {b : Nat} (hb : blk v = some b) : b < w.heap.size := by
  cases x with
  | box cs =>
    obtain ⟨b', e, vs, rfl, hh, _⟩ := h
    simp [blk] at hb
    subst hb
    exact heap_lt hh
  | row e sz l =>
    obtain ⟨_, _, _, vs, hown, _⟩ := h
    rcases hown.2 with ⟨rfl, _⟩ | ⟨g, cap, cur, rfl, _, ⟨_, hh, _⟩, _⟩
    · simp [blk] at hb
    · simp [blk] at hb
      subst hb
      exact heap_lt hh
  | arr e sz n cs =>
    obtain ⟨_, _, vs, hown, _⟩ := h
    rcases hown.2 with ⟨rfl, _⟩ | ⟨g, cap, cur, rfl, _, ⟨_, hh, _⟩, _⟩
    · simp [blk] at hb
    · simp [blk] at hb
      subst hb
      exact heap_lt hh
  | frz l => cases hx
  | map ks vs =>
    obtain ⟨b', clock, es, rfl, hh, _⟩ := h
    simp [blk] at hb
    subst hb
    exact heap_lt hh
  | dead => cases hx
theorem own_lt {c : Ctx} {H : Heap} {θ : Nat → Value} {w : World} (hs : HSim c H θ w) {b : Nat} (h : own H θ b) : b < w.heap.size := by
  obtain ⟨o, x, hg, hx, hb⟩ := h
  exact (hs.objs o x hg).lt hx hb
theorem ObjR.mono {c : Ctx} {H H' : Heap} {θ θ' : Nat → Value} {w w' : World} {x : Obj} {v : Value} (h : ObjR c H θ w x v)
    (hk : ∀ b, vis c H θ w b → vis c H' θ' w' b ∧ w'.heap[b]? = w.heap[b]?) (hl : HLe H θ H' θ') (hb : x.live = true → ∀ b, blk v = some b → w'.heap[b]? = w.heap[b]?) : ObjR c H' θ' w' x v := by
  cases x with
  | box cs =>
    obtain ⟨b', e, vs, rfl, hh, hz, hown, hv⟩ := h
    refine ⟨b', e, vs, rfl, ?_, hz, hown, fun i hi u hu => ⟨(hv i hi u hu).1.mono hk hl, (hv i hi u hu).2⟩⟩
    rw [hb rfl b' rfl]
    exact hh
  | row e sz l =>
    obtain ⟨h0, h1, h2, vs, hown, hbl, hv⟩ := h
    refine ⟨h0, h1, h2, vs, ⟨hown.1, ?_⟩, hbl, fun i hi u hu => (hv i hi u hu).mono hk⟩
    rcases hown.2 with h3 | ⟨g, cap, cur, rfl, h4, hh, h5⟩
    · exact .inl h3
    · refine .inr ⟨g, cap, cur, rfl, h4, ?_, h5⟩
      rw [hb rfl g rfl]
      exact hh
  | arr e sz n cs =>
    obtain ⟨h0, h1, vs, hown, hbl, hv⟩ := h
    refine ⟨h0, h1, vs, ⟨hown.1, ?_⟩, hbl, fun i hi u hu => ⟨(hv i hi u hu).1.mono hk hl, (hv i hi u hu).2⟩⟩
    rcases hown.2 with h3 | ⟨g, cap, cur, rfl, h4, hh, h5⟩
    · exact .inl h3
    · refine .inr ⟨g, cap, cur, rfl, h4, ?_, h5⟩
      rw [hb rfl g rfl]
      exact hh
  | frz l => exact DR.mono h hk
  | map ks vs =>
    obtain ⟨b', clock, es, rfl, hh, hown, h1, h2, hst, h3, h4⟩ := h
    refine ⟨b', clock, es, rfl, ?_, hown, h1, h2, hst, fun i hi e he => (h3 i hi e he).mono hk, fun i hi e he => (h4 i hi e he).mono hk⟩
    rw [hb rfl b' rfl]
    exact hh
  | dead => trivial
theorem HSim.grow {c : Ctx} {H : Heap} {θ : Nat → Value} {w w' : World} (hs : HSim c H θ w) (hw : ∀ b, b < w.heap.size → w'.heap[b]? = w.heap[b]?) (hz : w.heap.size ≤ w'.heap.size) :
    HSim c H θ w' ∧ (∀ b, vis c H θ w b → vis c H θ w' b ∧ w'.heap[b]? = w.heap[b]?) := by
  have hk : ∀ b, vis c H θ w b → vis c H θ w' b ∧ w'.heap[b]? = w.heap[b]? := fun b ⟨h1, h2, h3⟩ => ⟨⟨by omega, h2, h3⟩, hw b h1⟩
  exact ⟨⟨Nat.le_trans hs.size hz, fun o x hg => (hs.objs o x hg).mono hk (HLe.refl _ _) (fun hx b hb => hw b ((hs.objs o x hg).lt hx hb)), hs.inj⟩, hk⟩
theorem St.grow {c : Ctx} {H : Heap} {θ : Nat → Value} {w w' : World} {sl : List AV} {a : Act} (hs : St c H θ w sl a) (hw : ∀ b, b < w.heap.size → w'.heap[b]? = w.heap[b]?) (hz : w.heap.size ≤ w'.heap.size) :
    St c H θ w' sl a :=
  have h := hs.sim.grow hw hz
  ⟨h.1, hs.defers, hs.size, fun i x v h1 h2 => (hs.vals i x v h1 h2).mono h.2 (HLe.refl _ _)⟩
theorem St.put {c : Ctx} {H : Heap} {θ : Nat → Value} {w : World} {sl : List AV} {a : Act} (hs : St c H θ w sl a) {x : AV} {v : Value} (hx : VR H θ w (vis c H θ w) x v) (d : Nat) :
    St c H θ w (sl.set d x) (a.put (some d) v) := by
  refine ⟨hs.sim, hs.defers, by simp [Act.put, hs.size], fun i y u hy hu => ?_⟩
  simp only [Act.put, Array.getElem?_setIfInBounds] at hu
  rw [List.getElem?_set] at hy
  by_cases hd : d = i
  · subst hd
    rw [if_pos rfl] at hy hu
    split at hu
    · split at hy
      · simp at hu hy
        subst hu
        subst hy
        exact hx
      · cases hy
    · cases hu
  · rw [if_neg hd] at hy hu
    exact hs.vals i y u hy hu
theorem St.putO {c : Ctx} {H : Heap} {θ : Nat → Value} {w : World} {sl : List AV} {a : Act} (hs : St c H θ w sl a) {x : AV} {v : Value} (hx : VR H θ w (vis c H θ w) x v) (d : Option Nat) :
    St c H θ w (match d with | some d => sl.set d x | none => sl) (a.put d v) := by
  cases d with
  | some d => exact hs.put hx d
  | none => exact hs
theorem HSim.add {c : Ctx} {H : Heap} {θ : Nat → Value} {w w' : World} (hs : HSim c H θ w) {k : Nat} {x : Obj} {val : Value} (hk : ¬ H.ref k)
    (hw : ∀ b, b < w.heap.size → w'.heap[b]? = w.heap[b]?) (hz : w.heap.size ≤ w'.heap.size) (hf : ∀ b, blk val = some b → w.heap.size ≤ b)
    (hobj : (∀ y u, VR H θ w (vis c H θ w) y u → VR (H.set k x) (updθ θ k val) w' (vis c (H.set k x) (updθ θ k val) w') y u) → ObjR c (H.set k x) (updθ θ k val) w' x val) :
    HSim c (H.set k x) (updθ θ k val) w' ∧ (∀ y u, VR H θ w (vis c H θ w) y u → VR (H.set k x) (updθ θ k val) w' (vis c (H.set k x) (updθ θ k val) w') y u) ∧ HLe H θ (H.set k x) (updθ θ k val) := by
  have hne : ∀ o, H.ref o → o ≠ k := fun o ho e => hk (e ▸ ho)
  have hget : ∀ o, H.ref o → (H.set k x).get o = H.get o := fun o ho => by rw [Heap.get_set, if_neg (hne o ho)]
  have hθ : ∀ o, H.ref o → updθ θ k val o = θ o := fun o ho => by simp [updθ, hne o ho]
  have hle : HLe H θ (H.set k x) (updθ θ k val) := by
    refine ⟨fun o ho => Heap.ref_set ho, fun o x' ho h => ?_⟩
    rw [hget o ho] at h
    exact ⟨x', h, x'.evo_refl, fun _ => hθ o ho⟩
  have hown : ∀ b, b < w.heap.size → own (H.set k x) (updθ θ k val) b → own H θ b := by
    rintro b hb ⟨o, y, hg, hy, hbl⟩
    rw [Heap.get_set] at hg
    by_cases ho : o = k
    · subst ho
      simp only [updθ, if_true] at hbl
      have := hf b hbl
      omega
    · rw [if_neg ho] at hg
      simp only [updθ, if_neg ho] at hbl
      exact ⟨o, y, hg, hy, hbl⟩
  have hv : ∀ b, vis c H θ w b → vis c (H.set k x) (updθ θ k val) w' b ∧ w'.heap[b]? = w.heap[b]? := fun b ⟨h1, h2, h3⟩ =>
    ⟨⟨by omega, fun h => h2 (hown b h1 h), h3⟩, hw b h1⟩
  have hvr : ∀ y u, VR H θ w (vis c H θ w) y u → VR (H.set k x) (updθ θ k val) w' (vis c (H.set k x) (updθ θ k val) w') y u := fun y u h => h.mono hv hle
  refine ⟨⟨Nat.le_trans hs.size hz, fun o y hg => ?_, fun o o' y y' hg hg' hy hy' hne' b hb hb' => ?_⟩, hvr, hle⟩
  · rw [Heap.get_set] at hg
    by_cases ho : o = k
    · subst ho
      simp only [if_true, Option.some.injEq] at hg
      subst hg
      simp only [updθ, if_true]
      exact hobj hvr
    · rw [if_neg ho] at hg
      simp only [updθ, if_neg ho]
      exact (hs.objs o y hg).mono hv hle (fun hy b hb => hw b ((hs.objs o y hg).lt hy hb))
  · rw [Heap.get_set] at hg hg'
    by_cases ho : o = k
    · subst ho
      rw [if_neg (Ne.symm hne')] at hg'
      simp only [updθ, if_true] at hb
      simp only [updθ, if_neg (Ne.symm hne')] at hb'
      have h1 := hf b hb
      have h2 := (hs.objs o' y' hg').lt hy' hb'
      omega
    · rw [if_neg ho] at hg
      simp only [updθ, if_neg ho] at hb
      by_cases ho' : o' = k
      · subst ho'
        simp only [updθ, if_true] at hb'
        have h1 := hf b hb'
        have h2 := (hs.objs o y hg).lt hy hb
        omega
      · rw [if_neg ho'] at hg'
        simp only [updθ, if_neg ho'] at hb'
        exact hs.inj o o' y y' hg hg' hy hy' hne' b hb hb'
theorem St.add {c : Ctx} {H : Heap} {θ : Nat → Value} {w w' : World} {sl : List AV} {a : Act} (hs : St c H θ w sl a) {k : Nat} {x : Obj} {val : Value} (hk : ¬ H.ref k)
    (hw : ∀ b, b < w.heap.size → w'.heap[b]? = w.heap[b]?) (hz : w.heap.size ≤ w'.heap.size) (hf : ∀ b, blk val = some b → w.heap.size ≤ b)
    (hobj : (∀ y u, VR H θ w (vis c H θ w) y u → VR (H.set k x) (updθ θ k val) w' (vis c (H.set k x) (updθ θ k val) w') y u) → ObjR c (H.set k x) (updθ θ k val) w' x val) :
    St c (H.set k x) (updθ θ k val) w' sl a ∧ (∀ y u, VR H θ w (vis c H θ w) y u → VR (H.set k x) (updθ θ k val) w' (vis c (H.set k x) (updθ θ k val) w') y u) ∧ HLe H θ (H.set k x) (updθ θ k val) :=
  have h := hs.sim.add hk hw hz hf hobj
  ⟨⟨h.1, hs.defers, hs.size, fun i y v h1 h2 => h.2.1 y v (hs.vals i y v h1 h2)⟩, h.2⟩
theorem HSim.turn {c : Ctx} {H : Heap} {θ : Nat → Value} {w w' : World} (hs : HSim c H θ w) {k : Nat} {x0 x : Obj} {val : Value} (hg0 : H.get k = some x0) (hx0 : x0.live = true) (hx : x.live = true)
    (hw : ∀ b, b < w.heap.size → blk (θ k) ≠ some b → w'.heap[b]? = w.heap[b]?) (hz : w.heap.size ≤ w'.heap.size) (hf : ∀ b, blk val = some b → blk (θ k) = some b ∨ w.heap.size ≤ b)
    (hevo : x0.evo x) (hsame : x0.rlen = x.rlen → val = θ k)
    (hobj : (∀ y u, VR H θ w (vis c H θ w) y u → VR (H.set k x) (updθ θ k val) w' (vis c (H.set k x) (updθ θ k val) w') y u) → ObjR c (H.set k x) (updθ θ k val) w' x val) :
    HSim c (H.set k x) (updθ θ k val) w' ∧ (∀ y u, VR H θ w (vis c H θ w) y u → VR (H.set k x) (updθ θ k val) w' (vis c (H.set k x) (updθ θ k val) w') y u) ∧ HLe H θ (H.set k x) (updθ θ k val) := by
  have hle : HLe H θ (H.set k x) (updθ θ k val) := by
    refine ⟨fun o ho => Heap.ref_set ho, fun o x' ho h => ?_⟩
    rw [Heap.get_set] at h
    by_cases hok : o = k
    · subst hok
      simp only [if_true, Option.some.injEq] at h
      subst h
      exact ⟨x0, hg0, hevo, fun he => by simp only [updθ, if_true]; exact hsame he⟩
    · rw [if_neg hok] at h
      exact ⟨x', h, x'.evo_refl, fun _ => by simp [updθ, hok]⟩
  have hown' : ∀ b, own (H.set k x) (updθ θ k val) b → own H θ b ∨ w.heap.size ≤ b := by
    rintro b ⟨o, y, hg, hy, hbl⟩
    rw [Heap.get_set] at hg
    by_cases ho : o = k
    · subst ho
      simp only [updθ, if_true] at hbl
      rcases hf b hbl with h | h
      · exact .inl ⟨o, x0, hg0, hx0, h⟩
      · exact .inr h
    · rw [if_neg ho] at hg
      simp only [updθ, if_neg ho] at hbl
      exact .inl ⟨o, y, hg, hy, hbl⟩
  have hv : ∀ b, vis c H θ w b → vis c (H.set k x) (updθ θ k val) w' b ∧ w'.heap[b]? = w.heap[b]? := fun b ⟨h1, h2, h3⟩ => by
    refine ⟨⟨by omega, fun h => ?_, h3⟩, hw b h1 (fun h => h2 ⟨k, x0, hg0, hx0, h⟩)⟩
    rcases hown' b h with h | h
    · exact h2 h
    · omega
  have hvr : ∀ y u, VR H θ w (vis c H θ w) y u → VR (H.set k x) (updθ θ k val) w' (vis c (H.set k x) (updθ θ k val) w') y u := fun y u h => h.mono hv hle
  refine ⟨⟨Nat.le_trans hs.size hz, fun o y hg => ?_, fun o o' y y' hg hg' hy hy' hne' b hb hb' => ?_⟩, hvr, hle⟩
  · rw [Heap.get_set] at hg
    by_cases ho : o = k
    · subst ho
      simp only [if_true, Option.some.injEq] at hg
      subst hg
      simp only [updθ, if_true]
      exact hobj hvr
    · rw [if_neg ho] at hg
      simp only [updθ, if_neg ho]
      exact (hs.objs o y hg).mono hv hle (fun hy b hb => hw b ((hs.objs o y hg).lt hy hb) (hs.inj o k y x0 hg hg0 hy hx0 ho b hb))
  · rw [Heap.get_set] at hg hg'
    by_cases ho : o = k
    · subst ho
      rw [if_neg (Ne.symm hne')] at hg'
      simp only [updθ, if_true] at hb
      simp only [updθ, if_neg (Ne.symm hne')] at hb'
      have h2 := (hs.objs o' y' hg').lt hy' hb'
      rcases hf b hb with h1 | h1
      · exact hs.inj o o' x0 y' hg0 hg' hx0 hy' hne' b h1 hb'
      · omega
    · rw [if_neg ho] at hg
      simp only [updθ, if_neg ho] at hb
      by_cases ho' : o' = k
      · subst ho'
        simp only [updθ, if_true] at hb'
        have h2 := (hs.objs o y hg).lt hy hb
        rcases hf b hb' with h1 | h1
        · exact hs.inj o o' y x0 hg hg0 hy hx0 ho b hb h1
        · omega
      · rw [if_neg ho'] at hg'
        simp only [updθ, if_neg ho'] at hb'
        exact hs.inj o o' y y' hg hg' hy hy' hne' b hb hb'
end Go.Ab
