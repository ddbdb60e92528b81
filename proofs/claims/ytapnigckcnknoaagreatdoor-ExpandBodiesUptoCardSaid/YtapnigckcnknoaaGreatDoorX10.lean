/-
  One text of the proof (own work): contracts of functions of the program, by the abstract machine.
-/
import Derived.Test.YtapnigckcnknoaaGreatDoorX9
set_option linter.unusedVariables false
set_option linter.unusedSimpArgs false
namespace Go.Ab
open Go Go.RowKit
def CallOK (P : Program) (f : FuncId) (vs : Array Value) (w : World) (R : Value → World → Prop) : Prop :=
  (∃ fn, P.funcs[f]? = some fn ∧ (fn.name == "runtime.NumGoroutine") = false ∧ fn.body.isNone = false) ∧ Calls P f vs w (fun e w' => ∃ v, e = .returned v ∧ R v w')
def PureOK (P : Program) (f : FuncId) (fl : Bool) (g : List D → Option D) : Prop :=
  ∀ ds d, g ds = some d → (fl = true → d.Flat) ∧ ∀ (w : World) (B : Nat → Prop) (vs : Array Value), (∀ b, B b → b < w.heap.size) → vs.size = ds.length →
    (∀ i (hi : i < ds.length) u, vs[i]? = some u → DR w B (ds[i]) u) →
    CallOK P f vs w fun v w' => DR w' (fun b => B b ∨ (w.heap.size ≤ b ∧ b < w'.heap.size)) d v ∧ Below w.heap.size w w'
def OwnOK (P : Program) (f : FuncId) (g : List D → Option (TypeId × Nat × List D)) : Prop :=
  ∀ ds e sz l, g ds = some (e, sz, l) → 0 < sz ∧ (∀ d ∈ l, d.cells.length = sz) ∧ (∀ d ∈ flat l, d.one = true) ∧ ∀ (w : World) (B : Nat → Prop) (vs : Array Value), (∀ b, B b → b < w.heap.size) → vs.size = ds.length →
    (∀ i (hi : i < ds.length) u, vs[i]? = some u → DR w B (ds[i]) u) →
    CallOK P f vs w fun v w' => (∃ us, ownsM w' w.heap.size e sz v l.length us ∧ ∀ i (hi : i < (flat l).length) u, us[i]? = some u → DR w' (fun b => (B b ∨ (w.heap.size ≤ b ∧ b < w'.heap.size)) ∧ blk v ≠ some b) ((flat l)[i]) u) ∧ Below w.heap.size w w'
def LocOK (P : Program) (f : FuncId) (g : List AV → List Obj → Option (AV × List Obj)) : Prop :=
  ∀ xs os r os', g xs os = some (r, os') → os.length ≤ os'.length → ∀ (c : Ctx) (θ : Nat → Value) (w : World) (vs : Array Value), c.base = os.length → HSim c ⟨enumO 0 os, os.length⟩ θ w → vs.size = xs.length →
    (∀ i (hi : i < xs.length) u, vs[i]? = some u → VR ⟨enumO 0 os, os.length⟩ θ w (vis c ⟨enumO 0 os, os.length⟩ θ w) (xs[i]) u) →
    CallOK P f vs w fun v w' => ∃ θ', HSim c ⟨enumO 0 os', os'.length⟩ θ' w' ∧ VR ⟨enumO 0 os', os'.length⟩ θ' w' (vis c ⟨enumO 0 os', os'.length⟩ θ' w') r v ∧ Kept c w w' ∧ Evo os.length ⟨enumO 0 os, os.length⟩ θ ⟨enumO 0 os', os'.length⟩ θ'
def SpecOK (P : Program) (f : FuncId) : CSpec → Prop
  | .pure fl g => PureOK P f fl g
  | .own g => OwnOK P f g
  | .loc g => LocOK P f g
theorem mapOpt_some {f : AV → Option D} {l : List AV} {ds : List D} (h : mapOpt f l = some ds) : ds.length = l.length ∧ ∀ i (h1 : i < l.length) (h2 : i < ds.length), f l[i] = some ds[i] := by
  induction l generalizing ds with
  | nil => simp only [mapOpt, Option.some.injEq] at h; subst h; simp
  | cons x r ih =>
    simp only [mapOpt] at h
    split at h
    · rename_i d ds' h1 h2
      simp only [Option.some.injEq] at h
      subst h
      obtain ⟨h3, h4⟩ := ih h2
      refine ⟨by simp [h3], fun i hi hj => ?_⟩
      cases i with
      | zero => exact h1
      | succ i => exact h4 i (by simpa using hi) (by simpa using hj)
    · cases h
theorem DR.one_of {w : World} {B : Nat → Prop} {d : D} {v : Value} (h : DR w B d v) (ho : v.oneCell' = true) : d.one = true := by
  cases h <;> simp_all [D.one, Value.oneCell']
section
variable {P : Program} {c : Ctx} {H H' : Heap} {θ θ' : Nat → Value} {w w' : World} {sl : List AV} {a : Act} {o : Oper} {r : AV}
def seen (c : Ctx) (w : World) (b : Nat) : Prop := b < w.heap.size ∧ (b < c.n0 → c.Bl b ∨ c.Init b)
theorem vis_seen {b : Nat} (h : vis c H θ w b) : seen c w b := ⟨h.1, h.2.2⟩
theorem toD_sound (hs : HSim c H θ w) : ∀ (m : Nat) (x : AV) (v : Value) (d : D), VR H θ w (vis c H θ w) x v → toD H m x = some d → DR w (seen c w) d v := by
  have base : ∀ (m : Nat) (x : AV) (v : Value) (d : D), VR H θ w (vis c H θ w) x v → (∀ l, x ≠ .agg l) → (∀ f l, x ≠ .fn f l) → (∀ o off, x ≠ .ptr o off) → (∀ l, x ≠ .tup l) → (∀ o n, x ≠ .row o n) → toD H m x = some d → DR w (seen c w) d v := by
    intro m x v d hx h1 h2 h3 h4 h5 h
    cases x with
    | data d' => cases m <;> (simp only [toD, Option.some.injEq] at h; subst h; exact hx.data_inv.mono fun b hb => ⟨vis_seen hb, rfl⟩)
    | nils => cases hx; cases m <;> (simp only [toD, Option.some.injEq] at h; subst h; exact .empty none 0)
    | row ob n => exact absurd rfl (h5 ob n)
    | mref ob =>
      have h' : (match H.get ob with
        | some (.map ks vs) => some (D.map ks vs)
        | _ => none) = some d := by cases m <;> exact h
      split at h'
      · rename_i hg
        simp only [Option.some.injEq] at h'
        subst h'
        obtain ⟨b, clock, es, rfl, _, hw, hown, h6, h7, hst, h8, h9⟩ := map_val hs hx hg
        refine .map _ _ b clock es ⟨heap_lt hw, fun hlt => ?_⟩ hw h6 h7 hst (fun i hi e he => (h8 i hi e he).mono fun b hb => ⟨vis_seen hb, rfl⟩) (fun i hi e he => (h9 i hi e he).mono fun b hb => ⟨vis_seen hb, rfl⟩)
        rcases hown with h10 | h10
        · omega
        · exact .inr h10
      · cases h'
    | agg l => exact absurd rfl (h1 l)
    | fn f l => exact absurd rfl (h2 f l)
    | bnd f l => cases m <;> simp [toD] at h
    | ptr o off => exact absurd rfl (h3 o off)
    | junk => cases m <;> simp [toD] at h
    | rref _ _ _ _ => cases m <;> simp [toD] at h
    | tup l => exact absurd rfl (h4 l)
  have rowc : ∀ (m ob n : Nat) (v : Value) (d : D), VR H θ w (vis c H θ w) (.row ob n) v → toD H m (.row ob n) = some d → (∀ e sz k cs, H.get ob ≠ some (.arr e sz k cs)) → DR w (seen c w) d v := by
    intro m ob n v d hx h hna
    have h' : (match H.get ob with
      | some (.row _ _ l) => if l.length = n then some (D.list l) else none
      | some (.frz l) => if l.length = n then some (D.list l) else none
      | _ => none) = some d := by
      cases hgo : H.get ob with
      | none => cases m <;> (simp only [toD, hgo] at h; cases h)
      | some x =>
        cases x with
        | arr e sz k cs => exact absurd hgo (hna _ _ _ _)
        | _ => cases m <;> (simp only [toD, hgo] at h; exact h)
    split at h'
    · rename_i hg
      split at h'
      · rename_i hn
        simp only [Option.some.injEq] at h'
        subst h'
        obtain ⟨he, _⟩ := row_val hs hx hg hn
        rw [he]
        obtain ⟨_, _, _, _, _, hbl, _⟩ := row_cells hs hg
        refine row_reads hs hg (fun b hb => vis_seen hb) (fun b hb => ⟨(hs.objs _ _ hg).lt rfl hb, fun hlt => ?_⟩)
        rcases hbl b hb with h5 | h5
        · omega
        · exact .inr h5
      · cases h'
    · rename_i hg
      split at h'
      · rename_i hn
        simp only [Option.some.injEq] at h'
        subst h'
        exact (frz_val hs hx hg hn).mono fun b hb => ⟨vis_seen hb, rfl⟩
      · cases h'
    · cases h'
  intro m
  induction m with
  | zero =>
    intro x v d hx h
    cases x with
    | row ob n =>
      refine rowc 0 ob n v d hx h fun e sz k cs hg => ?_
      simp [toD, hg] at h
    | _ => refine base 0 _ v d hx ?_ ?_ ?_ ?_ ?_ h <;> intros <;> intro e <;> first | (cases e; done) | (simp [toD] at h; done)
  | succ m ih =>
    intro x v d hx h
    cases x with
    | row ob n =>
      cases hgo : H.get ob with
      | none => exact rowc _ ob n v d hx h (by simp [hgo])
      | some y =>
        cases y with
        | arr e sz k cs =>
          simp only [toD, hgo] at h
          split at h
          · rename_i hc
            obtain ⟨rfl, rfl⟩ := hc
            split at h
            · rename_i ds hds
              simp only [Option.some.injEq] at h
              subst h
              obtain ⟨hl, hds⟩ := mapOpt_some hds
              obtain ⟨he, _⟩ := arr_val hs hx hgo rfl
              obtain ⟨hsz, hcl, vs, hown, hbl, hvs⟩ := arr_cells hs hgo
              rw [← he] at hown hbl
              simp only [Nat.mul_one] at hcl
              have key : ∀ i (hi : i < ds.length), DR w (seen c w) ds[i] (vs.getD i undef) ∧ (vs.getD i undef).oneCell' = true := by
                intro i hi
                have h1 := hvs i (by omega) (vs.getD i undef) (by simp [show i < vs.length by have := hown.1; omega])
                exact ⟨ih _ _ _ h1.1 (hds i (by omega) hi), h1.2⟩
              have hone : ∀ d ∈ ds, d.one = true := fun d hd => by
                obtain ⟨i, hi, rfl⟩ := List.mem_iff_getElem.1 hd
                exact (key i hi).1.one_of (key i hi).2
              have hcl1 : ∀ d ∈ ds, d.cells.length = 1 := fun d hd => by rw [one_cells (hone d hd)]; rfl
              have hflat : flat ds = ds := by
                have : ∀ l : List D, (∀ d ∈ l, d.one = true) → flat l = l := by
                  intro l
                  induction l with
                  | nil => intro _; rfl
                  | cons x r ih => intro hh; rw [flat_cons, one_cells (hh x (by simp)), ih (fun y hy => hh y (by simp [hy]))]; rfl
                exact this ds hone
              have hkn : ds.length = k := by omega
              rcases hown.2 with ⟨h1, h3⟩ | ⟨g, cap, cur, h1, _, ⟨_, hh, _⟩, hnc, hrest⟩
              · have : ds = [] := List.eq_nil_of_length_eq_zero (by omega)
                subst this
                rw [h1]
                exact .empty none 0
              · have hcell := hown.cells (g := g) (by rw [h1]; rfl)
                rw [h1]
                have := DR.list (w := w) (B := seen c w) ds ⟨g, 0, none⟩ cap 1 (fun i => vs.getD i undef) ⟨heap_lt hh, fun hlt => by
                    rcases hbl g (by rw [h1]; rfl) with h5 | h5
                    · simp only at hlt; omega
                    · exact .inr h5⟩ (by omega) hcl1 (by rw [hflat]; exact hone)
                  (fun i hi => by
                    rw [hflat] at hi
                    exact hcell i _ (by simp [show i < vs.length by have := hown.1; omega]))
                  (fun i hi => by
                    have hi' : i < ds.length := by rw [hflat] at hi; exact hi
                    have e : (flat ds)[i] = ds[i] := by simp only [hflat]
                    rw [e]
                    exact (key i hi').1)
                rw [hkn] at this
                exact this
            · cases h
          · cases h
        | _ => exact rowc _ ob n v d hx h (by simp [hgo])
    | ptr ob off =>
      simp only [toD] at h
      split at h
      · rename_i cs hg
        split at h
        · rename_i ds hds
          simp only [Option.some.injEq] at h
          subst h
          obtain ⟨hl, hds⟩ := mapOpt_some hds
          obtain ⟨b, e, vs, hθ, hh, hz, hown, hcs⟩ := box_cells hs hg
          cases hx with
          | ptr _ _ _ hv hr hp =>
            obtain ⟨b', hb', rfl⟩ := hp cs hg
            rw [hθ] at hb'
            simp only [Value.pointer.injEq, Option.some.injEq, Addr.mk.injEq, and_true] at hb'
            subst hb'
            simp only [List.length_drop] at hl
            have key : ∀ i (hi : i < ds.length), DR w (seen c w) ds[i] (vs.getD (off + i) undef) ∧ (vs.getD (off + i) undef).oneCell' = true := by
              intro i hi
              have h1 := hcs (off + i) (by omega) (vs.getD (off + i) undef) (by simp [show off + i < vs.size by omega])
              have h2 := hds i (by simp; omega) hi
              rw [List.getElem_drop] at h2
              exact ⟨ih _ _ _ h1.1 h2, h1.2⟩
            refine .ref ds ⟨b, off, none⟩ (fun i => vs.getD (off + i) undef) ⟨heap_lt hh, fun hlt => ?_⟩ (fun d hd => ?_) (fun i hi => ?_) (fun i hi => (key i hi).1)
            · rcases hown with h5 | h5
              · simp only at hlt; omega
              · exact .inr h5
            · obtain ⟨i, hi, rfl⟩ := List.mem_iff_getElem.1 hd
              exact (key i hi).1.one_of (key i hi).2
            · rw [Addr.add_lit, cell_of_row w b _ vs e (0, 0) hh]
              simp [show off + i < vs.size by omega]
        · cases h
      · cases h
    | agg l =>
      simp only [toD] at h
      split at h
      · rename_i ds hds
        simp only [Option.some.injEq] at h
        subst h
        obtain ⟨hl, hds⟩ := mapOpt_some hds
        cases hx with
        | agg _ vs u hz hv hh =>
          have key : ∀ i (hi : i < ds.length), DR w (seen c w) ds[i] (u i) := fun i hi => ih _ _ _ (hh i (by omega)) (hds i (by omega) hi)
          refine .agg ds vs u (by omega) (fun d hd => ?_) (fun i hi => (hv i (by omega)).1) key
          obtain ⟨i, hi, rfl⟩ := List.mem_iff_getElem.1 hd
          exact (key i hi).one_of (hv i (by omega)).2
      · cases h
    | bnd f l => simp [toD] at h
    | fn f l =>
      simp only [toD] at h
      split at h
      · rename_i ds hds
        simp only [Option.some.injEq] at h
        subst h
        obtain ⟨hl, hds⟩ := mapOpt_some hds
        cases hx with
        | fn _ _ vs u hz hv hh => exact .clo f ds vs u (by omega) (fun i hi => hv i (by omega)) (fun i hi => ih _ _ _ (hh i (by omega)) (hds i (by omega) hi))
      · cases h
    | tup l =>
      simp only [toD] at h
      split at h
      · rename_i ds hds
        simp only [Option.some.injEq] at h
        subst h
        obtain ⟨hl, hds⟩ := mapOpt_some hds
        cases hx with
        | tup _ vs u hz hv hh => exact .tup ds vs u (by omega) (fun i hi => hv i (by omega)) (fun i hi => ih _ _ _ (hh i (by omega)) (hds i (by omega) hi))
      · cases h
    | data d' => exact base _ _ _ _ hx (by simp) (by simp) (by simp) (by simp) (by simp) h
    | nils => exact base _ _ _ _ hx (by simp) (by simp) (by simp) (by simp) (by simp) h
    | mref _ => exact base _ _ _ _ hx (by simp) (by simp) (by simp) (by simp) (by simp) h
    | junk => exact base _ _ _ _ hx (by simp) (by simp) (by simp) (by simp) (by simp) h
    | rref _ _ _ _ => exact base _ _ _ _ hx (by simp) (by simp) (by simp) (by simp) (by simp) h
theorem freeze_closed : ∀ (xs : List AV) (H H' : Heap), freeze H xs = some H' → (∀ c θ w sl a, St c H θ w sl a → St c H' θ w sl a ∧ HLe H θ H' θ) ∧ (∀ x : AV, x.closed H = true → x.closed H' = true) ∧ (∀ x : AV, x ∈ xs → x.closed H' = true)
  | [], H, H', h => by
    simp only [freeze, Option.some.injEq] at h
    subst h
    exact ⟨fun _ _ _ _ _ h => ⟨h, HLe.refl _ _⟩, fun _ h => h, by simp⟩
  | x :: r, H, H', h => by
    have rest : ∀ H1, freeze H1 r = some H' → (∀ c θ w sl a, St c H θ w sl a → St c H1 θ w sl a ∧ HLe H θ H1 θ) → (∀ y : AV, y.closed H = true → y.closed H1 = true) → x.closed H1 = true →
        (∀ c θ w sl a, St c H θ w sl a → St c H' θ w sl a ∧ HLe H θ H' θ) ∧ (∀ x : AV, x.closed H = true → x.closed H' = true) ∧ (∀ y : AV, y ∈ x :: r → y.closed H' = true) := by
      intro H1 hf h1 h2 h3
      obtain ⟨g1, g2, g3⟩ := freeze_closed r H1 H' hf
      refine ⟨fun c θ w sl a hs => ⟨(g1 _ _ _ _ _ (h1 _ _ _ _ _ hs).1).1, (h1 _ _ _ _ _ hs).2.trans (g1 _ _ _ _ _ (h1 _ _ _ _ _ hs).1).2⟩, fun y hy => g2 y (h2 y hy), fun y hy => ?_⟩
      rcases List.mem_cons.1 hy with rfl | hy
      · exact g2 _ h3
      · exact g3 y hy
    cases x with
    | row ob n =>
      simp only [freeze] at h
      split at h
      · rename_i e sz l hg
        split at h
        · refine rest _ h (fun c θ w sl a hs => ⟨hs.freeze hg, (freeze_row hs.sim hg).2.2.2⟩) (fun y hy => ?_) ?_
          · cases y with
            | row o2 n2 =>
              simp only [AV.closed] at hy ⊢
              rw [Heap.get_set]
              by_cases h2 : o2 = ob
              · rw [if_pos h2]
              · rw [if_neg h2]; exact hy
            | _ => exact hy
          · simp [AV.closed, Heap.get_set]
        · cases h
      · rename_i l hg
        exact rest _ h (fun _ _ _ _ _ h => ⟨h, HLe.refl _ _⟩) (fun _ h => h) (by simp [AV.closed, hg])
      · cases h
    | data d => simp only [freeze, AV.closed, if_true] at h; exact rest _ h (fun _ _ _ _ _ h => ⟨h, HLe.refl _ _⟩) (fun _ h => h) rfl
    | nils => simp only [freeze, AV.closed, if_true] at h; exact rest _ h (fun _ _ _ _ _ h => ⟨h, HLe.refl _ _⟩) (fun _ h => h) rfl
    | junk => simp [freeze, AV.closed] at h
    | ptr _ _ => simp [freeze, AV.closed] at h
    | rref _ _ _ _ => simp [freeze, AV.closed] at h
    | agg _ => simp [freeze, AV.closed] at h
    | tup _ => simp [freeze, AV.closed] at h
    | fn _ _ => simp [freeze, AV.closed] at h
    | bnd _ _ => simp [freeze, AV.closed] at h
    | mref _ => simp [freeze, AV.closed] at h
theorem freeze_ref : ∀ (xs : List AV) (H H' : Heap), freeze H xs = some H' → ∀ k, H'.ref k → H.ref k
  | [], H, H', h, k, hr => by
    simp only [freeze, Option.some.injEq] at h
    subst h
    exact hr
  | x :: r, H, H', h, k, hr => by
    cases x with
    | row ob n =>
      simp only [freeze] at h
      split at h
      · rename_i e sz l hg
        split at h
        · have := freeze_ref r _ _ h k hr
          rcases this with h1 | h1
          · exact .inl h1
          · rw [Heap.get_set] at h1
            by_cases h2 : k = ob
            · exact .inr (by rw [h2, hg]; rfl)
            · rw [if_neg h2] at h1; exact .inr h1
        · cases h
      · exact freeze_ref r _ _ h k hr
      · cases h
    | data d => simp only [freeze, AV.closed, if_true] at h; exact freeze_ref r _ _ h k hr
    | nils => simp only [freeze, AV.closed, if_true] at h; exact freeze_ref r _ _ h k hr
    | junk => simp [freeze, AV.closed] at h
    | ptr _ _ => simp [freeze, AV.closed] at h
    | rref _ _ _ _ => simp [freeze, AV.closed] at h
    | agg _ => simp [freeze, AV.closed] at h
    | tup _ => simp [freeze, AV.closed] at h
    | fn _ _ => simp [freeze, AV.closed] at h
    | bnd _ _ => simp [freeze, AV.closed] at h
    | mref _ => simp [freeze, AV.closed] at h
theorem closed_reads (hs : HSim c H θ w) {m : Nat} {x : AV} {v : Value} {d : D} (hx : VR H θ w (vis c H θ w) x v) (hc : x.closed H = true) (h : toD H m x = some d) : DR w (vis c H θ w) d v := by
  cases x with
  | data d' => cases m <;> (simp only [toD, Option.some.injEq] at h; subst h; exact hx.data_inv)
  | nils => cases hx; cases m <;> (simp only [toD, Option.some.injEq] at h; subst h; exact .empty none 0)
  | row ob n =>
    simp only [AV.closed] at hc
    split at hc
    · rename_i l hg
      have h' : (if l.length = n then some (D.list l) else none) = some d := by cases m <;> (simp only [toD, hg] at h; exact h)
      split at h'
      · rename_i hn
        simp only [Option.some.injEq] at h'
        subst h'
        exact frz_val hs hx hg hn
      · cases h'
    · cases hc
  | _ => simp [AV.closed] at hc
theorem vr_of_st {H1 : Heap} (hs : St c H θ w sl a) (h : ∀ sl a, St c H θ w sl a → St c H1 θ w sl a ∧ HLe H θ H1 θ) {x : AV} {u : Value} (hxu : VR H θ w (vis c H θ w) x u) : VR H1 θ w (vis c H1 θ w) x u := by
  have hst : St c H θ w (sl ++ [x]) { a with tmps := a.tmps.push u } := ⟨hs.sim, hs.defers, by simp [hs.size], fun i y v hy hv => by
    simp only [Array.getElem?_push] at hv
    by_cases hi : i = a.tmps.size
    · rw [if_pos hi] at hv
      cases hv
      rw [List.getElem?_append_right (by have := hs.size; omega), hi, hs.size, Nat.sub_self] at hy
      simp only [List.getElem?_cons_zero, Option.some.injEq] at hy
      subst hy
      exact hxu
    · rw [if_neg hi] at hv
      have hlt : i < a.tmps.size := (Array.getElem?_eq_some_iff.1 hv).1
      rw [List.getElem?_append_left (by have := hs.size; omega)] at hy
      exact hs.vals i y v hy hv⟩
  exact (h _ _ hst).1.vals a.tmps.size x u (by rw [List.getElem?_append_right (by have := hs.size; omega)]; simp [hs.size]) (by simp)
theorem add_row' (hs : St c H θ w sl a) {k : Nat} (hk : ¬ H.ref k) {e : TypeId} {sz : Nat} {l : List D} {vs : List Value} {v : Value} (hsz : 0 < sz) (hcl : ∀ d ∈ l, d.cells.length = sz) (hone : ∀ d ∈ flat l, d.one = true)
    (hown : ownsM w' w.heap.size e sz v l.length vs) (hd : ∀ i (hi : i < (flat l).length) u, vs[i]? = some u → DR w' (fun b => (vis c H θ w b ∨ (w.heap.size ≤ b ∧ b < w'.heap.size)) ∧ blk v ≠ some b) ((flat l)[i]) u)
    (hw : ∀ b, b < w.heap.size → w'.heap[b]? = w.heap[b]?) (hz : w.heap.size ≤ w'.heap.size) :
    ∃ θ', VR (H.set k (.row e sz l)) θ' w' (vis c (H.set k (.row e sz l)) θ' w') (.row k l.length) v ∧ St c (H.set k (.row e sz l)) θ' w' sl a ∧ HLe H θ (H.set k (.row e sz l)) θ' := by
  have hn0 := hs.sim.size
  have hvis : ∀ b, ((vis c H θ w b ∨ (w.heap.size ≤ b ∧ b < w'.heap.size)) ∧ blk v ≠ some b) → vis c (H.set k (.row e sz l)) (updθ θ k v) w' b := by
    rintro b ⟨hb, hne⟩
    refine ⟨?_, ?_, ?_⟩
    · rcases hb with h | h
      · have := h.1; omega
      · exact h.2
    · rintro ⟨o, y, hg, hy, hbl⟩
      rw [Heap.get_set] at hg
      by_cases ho : o = k
      · simp only [updθ, if_pos ho] at hbl
        exact hne hbl
      · rw [if_neg ho] at hg
        simp only [updθ, if_neg ho] at hbl
        have hown' : own H θ b := ⟨o, y, hg, hy, hbl⟩
        rcases hb with h | h
        · exact h.2.1 hown'
        · have := own_lt hs.sim hown'; omega
    · intro hlt
      rcases hb with h | h
      · exact h.2.2 hlt
      · omega
  have h := hs.add (w' := w') (k := k) (x := .row e sz l) (val := v) hk hw hz (fun b hb => ownsRow_blk hown hb)
    (fun _ => ⟨hsz, hcl, hone, vs, ownsRow_base hown (Nat.zero_le _), fun b hb => .inl (Nat.le_trans hs.sim.size (ownsRow_blk hown hb)), fun i hi u hu => (hd i hi u hu).mono fun b hb => ⟨hvis b hb, rfl⟩⟩)
  refine ⟨_, .row k _ v (ownsRow_one hown) (.inr (by rw [Heap.get_set, if_pos rfl]; rfl)) (fun x' m' hx' hm' => ?_), h.1, h.2.2⟩
  rw [Heap.get_set, if_pos rfl] at hx'
  cases hx'
  cases hm'
  exact ⟨Nat.le_refl _, fun _ => by simp [updθ]⟩
end
end Go.Ab
