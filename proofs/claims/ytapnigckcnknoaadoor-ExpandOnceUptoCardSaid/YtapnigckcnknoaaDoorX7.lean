/-
  One text of the proof (own work): contracts of functions of the program, by the abstract machine.
-/
import Derived.Test.YtapnigckcnknoaaDoorX6
set_option linter.unusedVariables false
set_option linter.unusedSimpArgs false
namespace Go.Ab
open Go Go.RowKit
def CallOK (P : Program) (f : FuncId) (vs : Array Value) (w : World) (R : Value → World → Prop) : Prop :=
  (∃ fn, P.funcs[f]? = some fn ∧ (fn.name == "runtime.NumGoroutine") = false ∧ fn.body.isNone = false) ∧ Calls P f vs w (fun e w' => ∃ v, e = .returned v ∧ R v w')
def PureOK (P : Program) (f : FuncId) (fl : Bool) (g : List D → Option D) : Prop :=
  ∀ ds d, g ds = some d → (fl = true → d.Flat) ∧ ∀ (w : World) (B : Nat → Prop) (vs : Array Value), (∀ b, B b → b < w.heap.size) → vs.size = ds.length →
    (∀ i (hi : i < ds.length) u, vs[i]? = some u → DR w B (ds[i]) u) →
    CallOK P f vs w fun v w' => DR w' (fun b => B b ∨ (w.heap.size ≤ b ∧ b < w'.heap.size)) d v ∧ Below w.heap.size w w'
def OwnOK (P : Program) (f : FuncId) (g : List D → Option (TypeId × Nat × List D)) : Prop :=
  ∀ ds e sz l, g ds = some (e, sz, l) → 0 < sz ∧ (∀ d ∈ l, d.cells.length = sz) ∧ (∀ d ∈ flat l, d.one = true) ∧ ∀ (w : World) (B : Nat → Prop) (vs : Array Value), (∀ b, B b → b < w.heap.size) → vs.size = ds.length →
    (∀ i (hi : i < ds.length) u, vs[i]? = some u → DR w B (ds[i]) u) →
    CallOK P f vs w fun v w' => (∃ us, ownsM w' w.heap.size e sz v l.length us ∧ ∀ i (hi : i < (flat l).length) u, us[i]? = some u → DR w' (fun b => (B b ∨ (w.heap.size ≤ b ∧ b < w'.heap.size)) ∧ blk v ≠ some b) ((flat l)[i]) u) ∧ Below w.heap.size w w'
def LocOK (P : Program) (f : FuncId) (g : List AV → List Obj → Option (AV × List Obj)) : Prop :=
  ∀ xs os r os', g xs os = some (r, os') → os.length ≤ os'.length → ∀ (c : Ctx) (θ : Nat → Value) (w : World) (vs : Array Value), c.base = os.length → HSim c ⟨enumO 0 os, os.length⟩ θ w → vs.size = xs.length →
    (∀ i (hi : i < xs.length) u, vs[i]? = some u → VR ⟨enumO 0 os, os.length⟩ θ w (vis c ⟨enumO 0 os, os.length⟩ θ w) (xs[i]) u) →
    CallOK P f vs w fun v w' => ∃ θ', HSim c ⟨enumO 0 os', os'.length⟩ θ' w' ∧ VR ⟨enumO 0 os', os'.length⟩ θ' w' (vis c ⟨enumO 0 os', os'.length⟩ θ' w') r v ∧ Kept c w w' ∧ Evo os.length ⟨enumO 0 os, os.length⟩ θ ⟨enumO 0 os', os'.length⟩ θ'
def SpecOK (P : Program) (f : FuncId) : CSpec → Prop
  | .pure fl g => PureOK P f fl g
  | .own g => OwnOK P f g
  | .loc g => LocOK P f g
theorem mapOpt_some {f : AV → Option D} {l : List AV} {ds : List D} (h : mapOpt f l = some ds) : ds.length = l.length ∧ ∀ i (h1 : i < l.length) (h2 : i < ds.length), f l[i] = some ds[i] := by
  induction l generalizing ds with
  | nil => simp only [mapOpt, Option.some.injEq] at h; subst h; simp
  | cons x r ih =>
    simp only [mapOpt] at h
    split at h
    · rename_i d ds' h1 h2
      simp only [Option.some.injEq] at h
      subst h
      obtain ⟨h3, h4⟩ := ih h2
      refine ⟨by simp [h3], fun i hi hj => ?_⟩
      cases i with
      | zero => exact h1
      | succ i => exact h4 i (by simpa using hi) (by simpa using hj)
    · cases h
theorem DR.one_of {w : World} {B : Nat → Prop} {d : D} {v : Value} (h : DR w B d v) (ho : v.oneCell' = true) : d.one = true := by
  cases h <;> simp_all [D.one, Value.oneCell']
section
variable {P : Program} {c : Ctx} {H H' : Heap} {θ θ' : Nat → Value} {w w' : World} {sl : List AV} {a : Act} {o : Oper} {r : AV}
def seen (c : Ctx) (w : World) (b : Nat) : Prop := b < w.heap.size ∧ (b < c.n0 → c.Bl b ∨ c.Init b)
theorem vis_seen {b : Nat} (h : vis c H θ w b) : seen c w b := ⟨h.1, h.2.2⟩
theorem toD_sound (hs : HSim c H θ w) : ∀ (m : Nat) (x : AV) (v : Value) (d : D), VR H θ w (vis c H θ w) x v → toD H m x = some d → DR w (seen c w) d v := by
  have base : ∀ (m : Nat) (x : AV) (v : Value) (d : D), VR H θ w (vis c H θ w) x v → (∀ l, x ≠ .agg l) → (∀ f l, x ≠ .fn f l) → (∀ o off, x ≠ .ptr o off) → (∀ l, x ≠ .tup l) → (∀ o n, x ≠ .row o n) → toD H m x = some d → DR w (seen c w) d v := by
    intro m x v d hx h1 h2 h3 h4 h5 h
    cases x with
    | data d' => cases m <;> (simp only [toD, Option.some.injEq] at h; subst h; exact hx.data_inv.mono fun b hb => ⟨vis_seen hb, rfl⟩)
    | nils => cases hx; cases m <;> (simp only [toD, Option.some.injEq] at h; subst h; exact .empty none 0)
    | row ob n => exact absurd rfl (h5 ob n)
    | mref ob =>
      have h' : (match H.get ob with
        | some (.map ks vs) => some (D.map ks vs)
        | _ => none) = some d := by cases m <;> exact h
      split at h'
      · rename_i hg
        simp only [Option.some.injEq] at h'
        subst h'
        obtain ⟨b, clock, es, rfl, _, hw, hown, h6, h7, hst, h8, h9⟩ := map_val hs hx hg
        refine .map _ _ b clock es ⟨heap_lt hw, fun hlt => ?_⟩ hw h6 h7 hst (fun i hi e he => (h8 i hi e he).mono fun b hb => ⟨vis_seen hb, rfl⟩) (fun i hi e he => (h9 i hi e he).mono fun b hb => ⟨vis_seen hb, rfl⟩)
        rcases hown with h10 | h10
        · omega
        · exact .inr h10
      · cases h'
    | agg l => exact absurd rfl (h1 l)
    | fn f l => exact absurd rfl (h2 f l)
    | bnd f l => cases m <;> simp [toD] at h
    | ptr o off => exact absurd rfl (h3 o off)
    | junk => cases m <;> simp [toD] at h
    | rref _ _ _ _ => cases m <;> simp [toD] at h
    | tup l => exact absurd rfl (h4 l)
  have rowc : ∀ (m ob n : Nat) (v : Value) (d : D), VR H θ w (vis c H θ w) (.row ob n) v → toD H m (.row ob n) = some d → (∀ e sz k cs, H.get ob ≠ some (.arr e sz k cs)) → DR w (seen c w) d v := by
    intro m ob n v d hx h hna
    have h' : (match H.get ob with
      | some (.row _ _ l) => if l.length = n then some (D.list l) else none
      | some (.frz l) => if l.length = n then some (D.list l) else none
      | _ => none) = some d := by
      cases hgo : H.get ob with
      | none => cases m <;> (simp only [toD, hgo] at h; cases h)
      | some x =>
        cases x with
        | arr e sz k cs => exact absurd hgo (hna _ _ _ _)
        | _ => cases m <;> (simp only [toD, hgo] at h; exact h)
    split at h'
    · rename_i hg
      split at h'
      · rename_i hn
        simp only [Option.some.injEq] at h'
        subst h'
        obtain ⟨he, _⟩ := row_val hs hx hg hn
        rw [he]
        obtain ⟨_, _, _, _, _, hbl, _⟩ := row_cells hs hg
        refine row_reads hs hg (fun b hb => vis_seen hb) (fun b hb => ⟨(hs.objs _ _ hg).lt rfl hb, fun hlt => ?_⟩)
        rcases hbl b hb with h5 | h5
        · omega
        · exact .inr h5
      · cases h'
    · rename_i hg
      split at h'
      · rename_i hn
        simp only [Option.some.injEq] at h'
        subst h'
        exact (frz_val hs hx hg hn).mono fun b hb => ⟨vis_seen hb, rfl⟩
      · cases h'
    · cases h'
  intro m
  induction m with
  | zero =>
    intro x v d hx h
    cases x with
    | row ob n =>
      refine rowc 0 ob n v d hx h fun e sz k cs hg => ?_
      simp [toD, hg] at h
    | _ => refine base 0 _ v d hx ?_ ?_ ?_ ?_ ?_ h <;> intros <;> intro e <;> first | (cases e; done) | (simp [toD] at h; done)
  | succ m ih =>
    intro x v d hx h
    cases x with
    | row ob n =>
      cases hgo : H.get ob with
      | none => exact rowc _ ob n v d hx h (by simp [hgo])
      | some y =>
        cases y with
        | arr e sz k cs =>
          simp only [toD, hgo] at h
          split at h
          · rename_i hc
            obtain ⟨rfl, rfl⟩ := hc
            split at h
            · rename_i ds hds
              simp only [Option.some.injEq] at h
              subst h
              obtain ⟨hl, hds⟩ := mapOpt_some hds
              obtain ⟨he, _⟩ := arr_val hs hx hgo rfl
              obtain ⟨hsz, hcl, vs, hown, hbl, hvs⟩ := arr_cells hs hgo
              rw [← he] at hown hbl
              simp only [Nat.mul_one] at hcl
              have key : ∀ i (hi : i < ds.length), DR w (seen c w) ds[i] (vs.getD i undef) ∧ (vs.getD i undef).oneCell' = true := by
                intro i hi
                have h1 := hvs i (by omega) (vs.getD i undef) (by simp [show i < vs.length by have := hown.1; omega])
                exact ⟨ih _ _ _ h1.1 (hds i (by omega) hi), h1.2⟩
              have hone : ∀ d ∈ ds, d.one = true := fun d hd => by
                obtain ⟨i, hi, rfl⟩ := List.mem_iff_getElem.1 hd
                exact (key i hi).1.one_of (key i hi).2
              have hcl1 : ∀ d ∈ ds, d.cells.length = 1 := fun d hd => by rw [one_cells (hone d hd)]; rfl
              have hflat : flat ds = ds := by
                have : ∀ l : List D, (∀ d ∈ l, d.one = true) → flat l = l := by
                  intro l
                  induction l with
                  | nil => intro _; rfl
                  | cons x r ih => intro hh; rw [flat_cons, one_cells (hh x (by simp)), ih (fun y hy => hh y (by simp [hy]))]; rfl
                exact this ds hone
              have hkn : ds.length = k := by omega
              rcases hown.2 with ⟨h1, h3⟩ | ⟨g, cap, cur, h1, _, ⟨_, hh, _⟩, hnc, hrest⟩
              · have : ds = [] := List.eq_nil_of_length_eq_zero (by omega)
                subst this
                rw [h1]
                exact .empty none 0
              · have hcell := hown.cells (g := g) (by rw [h1]; rfl)
                rw [h1]
                have := DR.list (w := w) (B := seen c w) ds ⟨g, 0, none⟩ cap 1 (fun i => vs.getD i undef) ⟨heap_lt hh, fun hlt => by
                    rcases hbl g (by rw [h1]; rfl) with h5 | h5
                    · simp only at hlt; omega
                    · exact .inr h5⟩ (by omega) hcl1 (by rw [hflat]; exact hone)
                  (fun i hi => by
                    rw [hflat] at hi
                    exact hcell i _ (by simp [show i < vs.length by have := hown.1; omega]))
                  (fun i hi => by
                    have hi' : i < ds.length := by rw [hflat] at hi; exact hi
                    have e : (flat ds)[i] = ds[i] := by simp only [hflat]
                    rw [e]
                    exact (key i hi').1)
                rw [hkn] at this
                exact this
            · cases h
          · cases h
        | _ => exact rowc _ ob n v d hx h (by simp [hgo])
    | ptr ob off =>
      simp only [toD] at h
      split at h
      · rename_i cs hg
        split at h
        · rename_i ds hds
          simp only [Option.some.injEq] at h
          subst h
          obtain ⟨hl, hds⟩ := mapOpt_some hds
          obtain ⟨b, e, vs, hθ, hh, hz, hown, hcs⟩ := box_cells hs hg
          cases hx with
          | ptr _ _ _ hv hr hp =>
            obtain ⟨b', hb', rfl⟩ := hp cs hg
            rw [hθ] at hb'
            simp only [Value.pointer.injEq, Option.some.injEq, Addr.mk.injEq, and_true] at hb'
            subst hb'
            simp only [List.length_drop] at hl
            have key : ∀ i (hi : i < ds.length), DR w (seen c w) ds[i] (vs.getD (off + i) undef) ∧ (vs.getD (off + i) undef).oneCell' = true := by
              intro i hi
              have h1 := hcs (off + i) (by omega) (vs.getD (off + i) undef) (by simp [show off + i < vs.size by omega])
              have h2 := hds i (by simp; omega) hi
              rw [List.getElem_drop] at h2
              exact ⟨ih _ _ _ h1.1 h2, h1.2⟩
            refine .ref ds ⟨b, off, none⟩ (fun i => vs.getD (off + i) undef) ⟨heap_lt hh, fun hlt => ?_⟩ (fun d hd => ?_) (fun i hi => ?_) (fun i hi => (key i hi).1)
            · rcases hown with h5 | h5
              · simp only at hlt; omega
              · exact .inr h5
            · obtain ⟨i, hi, rfl⟩ := List.mem_iff_getElem.1 hd
              exact (key i hi).1.one_of (key i hi).2
            · rw [Addr.add_lit, cell_of_row w b _ vs e (0, 0) hh]
              simp [show off + i < vs.size by omega]
        · cases h
      · cases h
    | agg l =>
      simp only [toD] at h
      split at h
      · rename_i ds hds
        simp only [Option.some.injEq] at h
        subst h
        obtain ⟨hl, hds⟩ := mapOpt_some hds
        cases hx with
        | agg _ vs u hz hv hh =>
          have key : ∀ i (hi : i < ds.length), DR w (seen c w) ds[i] (u i) := fun i hi => ih _ _ _ (hh i (by omega)) (hds i (by omega) hi)
          refine .agg ds vs u (by omega) (fun d hd => ?_) (fun i hi => (hv i (by omega)).1) key
          obtain ⟨i, hi, rfl⟩ := List.mem_iff_getElem.1 hd
          exact (key i hi).one_of (hv i (by omega)).2
      · cases h
    | bnd f l => simp [toD] at h
    | fn f l =>
      simp only [toD] at h
      split at h
      · rename_i ds hds
        simp only [Option.some.injEq] at h
        subst h
        obtain ⟨hl, hds⟩ := mapOpt_some hds
        cases hx with
        | fn _ _ vs u hz hv hh => exact .clo f ds vs u (by omega) (fun i hi => hv i (by omega)) (fun i hi => ih _ _ _ (hh i (by omega)) (hds i (by omega) hi))
      · cases h
    | tup l =>
      simp only [toD] at h
      split at h
      · rename_i ds hds
        simp only [Option.some.injEq] at h
        subst h
        obtain ⟨hl, hds⟩ := mapOpt_some hds
        cases hx with
        | tup _ vs u hz hv hh => exact .tup ds vs u (by omega) (fun i hi => hv i (by omega)) (fun i hi => ih _ _ _ (hh i (by omega)) (hds i (by omega) hi))
      · cases h
    | data d' => exact base _ _ _ _ hx (by simp) (by simp) (by simp) (by simp) (by simp) h
    | nils => exact base _ _ _ _ hx (by simp) (by simp) (by simp) (by simp) (by simp) h
    | mref _ => exact base _ _ _ _ hx (by simp) (by simp) (by simp) (by simp) (by simp) h
    | junk => exact base _ _ _ _ hx (by simp) (by simp) (by simp) (by simp) (by simp) h
    | rref _ _ _ _ => exact base _ _ _ _ hx (by simp) (by simp) (by simp) (by simp) (by simp) h
theorem freeze_closed : ∀ (xs : List AV) (H H' : Heap), freeze H xs = some H' → (∀ c θ w sl a, St c H θ w sl a → St c H' θ w sl a ∧ HLe H θ H' θ) ∧ (∀ x : AV, x.closed H = true → x.closed H' = true) ∧ (∀ x : AV, x ∈ xs → x.closed H' = true)
  | [], H, H', h => by
    simp only [freeze, Option.some.injEq] at h
    subst h
    exact ⟨fun _ _ _ _ _ h => ⟨h, HLe.refl _ _⟩, fun _ h => h, by simp⟩
  | x :: r, H, H', h => by
    have rest : ∀ H1, freeze H1 r = some H' → (∀ c θ w sl a, St c H θ w sl a → St c H1 θ w sl a ∧ HLe H θ H1 θ) → (∀ y : AV, y.closed H = true → y.closed H1 = true) → x.closed H1 = true →
        (∀ c θ w sl a, St c H θ w sl a → St c H' θ w sl a ∧ HLe H θ H' θ) ∧ (∀ x : AV, x.closed H = true → x.closed H' = true) ∧ (∀ y : AV, y ∈ x :: r → y.closed H' = true) := by
      intro H1 hf h1 h2 h3
      obtain ⟨g1, g2, g3⟩ := freeze_closed r H1 H' hf
      refine ⟨fun c θ w sl a hs => ⟨(g1 _ _ _ _ _ (h1 _ _ _ _ _ hs).1).1, (h1 _ _ _ _ _ hs).2.trans (g1 _ _ _ _ _ (h1 _ _ _ _ _ hs).1).2⟩, fun y hy => g2 y (h2 y hy), fun y hy => ?_⟩
      rcases List.mem_cons.1 hy with rfl | hy
      · exact g2 _ h3
      · exact g3 y hy
    cases x with
    | row ob n =>
      simp only [freeze] at h
      split at h
      · rename_i e sz l hg
        split at h
        · refine rest _ h (fun c θ w sl a hs => ⟨hs.freeze hg, (freeze_row hs.sim hg).2.2.2⟩) (fun y hy => ?_) ?_
          · cases y with
            | row o2 n2 =>
              simp only [AV.closed] at hy ⊢
              rw [Heap.get_set]
              by_cases h2 : o2 = ob
              · rw [if_pos h2]
              · rw [if_neg h2]; exact hy
            | _ => exact hy
          · simp [AV.closed, Heap.get_set]
        · cases h
      · rename_i l hg
        exact rest _ h (fun _ _ _ _ _ h => ⟨h, HLe.refl _ _⟩) (fun _ h => h) (by simp [AV.closed, hg])
      · cases h
    | data d => simp only [freeze, AV.closed, if_true] at h; exact rest _ h (fun _ _ _ _ _ h => ⟨h, HLe.refl _ _⟩) (fun _ h => h) rfl
    | nils => simp only [freeze, AV.closed, if_true] at h; exact rest _ h (fun _ _ _ _ _ h => ⟨h, HLe.refl _ _⟩) (fun _ h => h) rfl
    | junk => simp [freeze, AV.closed] at h
    | ptr _ _ => simp [freeze, AV.closed] at h
    | rref _ _ _ _ => simp [freeze, AV.closed] at h
    | agg _ => simp [freeze, AV.closed] at h
    | tup _ => simp [freeze, AV.closed] at h
    | fn _ _ => simp [freeze, AV.closed] at h
    | bnd _ _ => simp [freeze, AV.closed] at h
    | mref _ => simp [freeze, AV.closed] at h
theorem freeze_ref : ∀ (xs : List AV) (H H' : Heap), freeze H xs = some H' → ∀ k, H'.ref k → H.ref k
  | [], H, H', h, k, hr => by
    simp only [freeze, Option.some.injEq] at h
    subst h
    exact hr
  | x :: r, H, H', h, k, hr => by
    cases x with
    | row ob n =>
      simp only [freeze] at h
      split at h
      · rename_i e sz l hg
        split at h
        · have := freeze_ref r _ _ h k hr
          rcases this with h1 | h1
          · exact .inl h1
          · rw [Heap.get_set] at h1
            by_cases h2 : k = ob
            · exact .inr (by rw [h2, hg]; rfl)
            · rw [if_neg h2] at h1; exact .inr h1
        · cases h
      · exact freeze_ref r _ _ h k hr
      · cases h
    | data d => simp only [freeze, AV.closed, if_true] at h; exact freeze_ref r _ _ h k hr
    | nils => simp only [freeze, AV.closed, if_true] at h; exact freeze_ref r _ _ h k hr
    | junk => simp [freeze, AV.closed] at h
    | ptr _ _ => simp [freeze, AV.closed] at h
    | rref _ _ _ _ => simp [freeze, AV.closed] at h
    | agg _ => simp [freeze, AV.closed] at h
    | tup _ => simp [freeze, AV.closed] at h
    | fn _ _ => simp [freeze, AV.closed] at h
    | bnd _ _ => simp [freeze, AV.closed] at h
    | mref _ => simp [freeze, AV.closed] at h
theorem closed_reads (hs : HSim c H θ w) {m : Nat} {x : AV} {v : Value} {d : D} (hx : VR H θ w (vis c H θ w) x v) (hc : x.closed H = true) (h : toD H m x = some d) : DR w (vis c H θ w) d v := by
  cases x with
  | data d' => cases m <;> (simp only [toD, Option.some.injEq] at h; subst h; exact hx.data_inv)
  | nils => cases hx; cases m <;> (simp only [toD, Option.some.injEq] at h; subst h; exact .empty none 0)
  | row ob n =>
    simp only [AV.closed] at hc
    split at hc
    · rename_i l hg
      have h' : (if l.length = n then some (D.list l) else none) = some d := by cases m <;> (simp only [toD, hg] at h; exact h)
      split at h'
      · rename_i hn
        simp only [Option.some.injEq] at h'
        subst h'
        exact frz_val hs hx hg hn
      · cases h'
    · cases hc
  | _ => simp [AV.closed] at hc
theorem vr_of_st {H1 : Heap} (hs : St c H θ w sl a) (h : ∀ sl a, St c H θ w sl a → St c H1 θ w sl a ∧ HLe H θ H1 θ) {x : AV} {u : Value} (hxu : VR H θ w (vis c H θ w) x u) : VR H1 θ w (vis c H1 θ w) x u := by
  have hst : St c H θ w (sl ++ [x]) { a with tmps := a.tmps.push u } := ⟨hs.sim, hs.defers, by simp [hs.size], fun i y v hy hv => by
    simp only [Array.getElem?_push] at hv
    by_cases hi : i = a.tmps.size
    · rw [if_pos hi] at hv
      cases hv
      rw [List.getElem?_append_right (by have := hs.size; omega), hi, hs.size, Nat.sub_self] at hy
      simp only [List.getElem?_cons_zero, Option.some.injEq] at hy
      subst hy
      exact hxu
    · rw [if_neg hi] at hv
      have hlt : i < a.tmps.size := (Array.getElem?_eq_some_iff.1 hv).1
      rw [List.getElem?_append_left (by have := hs.size; omega)] at hy
      exact hs.vals i y v hy hv⟩
  exact (h _ _ hst).1.vals a.tmps.size x u (by rw [List.getElem?_append_right (by have := hs.size; omega)]; simp [hs.size]) (by simp)
theorem add_row' (hs : St c H θ w sl a) {k : Nat} (hk : ¬ H.ref k) {e : TypeId} {sz : Nat} {l : List D} {vs : List Value} {v : Value} (hsz : 0 < sz) (hcl : ∀ d ∈ l, d.cells.length = sz) (hone : ∀ d ∈ flat l, d.one = true)
    (hown : ownsM w' w.heap.size e sz v l.length vs) (hd : ∀ i (hi : i < (flat l).length) u, vs[i]? = some u → DR w' (fun b => (vis c H θ w b ∨ (w.heap.size ≤ b ∧ b < w'.heap.size)) ∧ blk v ≠ some b) ((flat l)[i]) u)
    (hw : ∀ b, b < w.heap.size → w'.heap[b]? = w.heap[b]?) (hz : w.heap.size ≤ w'.heap.size) :
    ∃ θ', VR (H.set k (.row e sz l)) θ' w' (vis c (H.set k (.row e sz l)) θ' w') (.row k l.length) v ∧ St c (H.set k (.row e sz l)) θ' w' sl a ∧ HLe H θ (H.set k (.row e sz l)) θ' := by
  have hn0 := hs.sim.size
  have hvis : ∀ b, ((vis c H θ w b ∨ (w.heap.size ≤ b ∧ b < w'.heap.size)) ∧ blk v ≠ some b) → vis c (H.set k (.row e sz l)) (updθ θ k v) w' b := by
    rintro b ⟨hb, hne⟩
    refine ⟨?_, ?_, ?_⟩
    · rcases hb with h | h
      · have := h.1; omega
      · exact h.2
    · rintro ⟨o, y, hg, hy, hbl⟩
      rw [Heap.get_set] at hg
      by_cases ho : o = k
      · simp only [updθ, if_pos ho] at hbl
        exact hne hbl
      · rw [if_neg ho] at hg
        simp only [updθ, if_neg ho] at hbl
        have hown' : own H θ b := ⟨o, y, hg, hy, hbl⟩
        rcases hb with h | h
        · exact h.2.1 hown'
        · have := own_lt hs.sim hown'; omega
    · intro hlt
      rcases hb with h | h
      · exact h.2.2 hlt
      · omega
  have h := hs.add (w' := w') (k := k) (x := .row e sz l) (val := v) hk hw hz (fun b hb => ownsRow_blk hown hb)
    (fun _ => ⟨hsz, hcl, hone, vs, ownsRow_base hown (Nat.zero_le _), fun b hb => .inl (Nat.le_trans hs.sim.size (ownsRow_blk hown hb)), fun i hi u hu => (hd i hi u hu).mono fun b hb => ⟨hvis b hb, rfl⟩⟩)
  refine ⟨_, .row k _ v (ownsRow_one hown) (.inr (by rw [Heap.get_set, if_pos rfl]; rfl)) (fun x' m' hx' hm' => ?_), h.1, h.2.2⟩
  rw [Heap.get_set, if_pos rfl] at hx'
  cases hx'
  cases hm'
  exact ⟨Nat.le_refl _, fun _ => by simp [updθ]⟩
end
end Go.Ab
namespace Go.Ab
open Go Go.RowKit
theorem idxOf_some : ∀ {fp : List Nat} {o i : Nat}, idxOf fp o = some i → fp[i]? = some o
  | [], o, i, h => by simp [idxOf] at h
  | x :: r, o, i, h => by
    simp only [idxOf] at h
    split at h
    · rename_i he; simp only [Option.some.injEq] at h; subst h; simp [he]
    · split at h
      · rename_i j hj
        simp only [Option.some.injEq] at h
        subst h
        simpa using idxOf_some hj
      · cases h
theorem look_enumO : ∀ (os : List Obj) (n o : Nat), look (enumO n os) o = if n ≤ o then os[o - n]? else none
  | [], n, o => by simp [enumO, look]
  | x :: r, n, o => by
    simp only [enumO, look]
    by_cases h : o = n
    · subst h; simp
    · rw [if_neg h, look_enumO r (n + 1) o]
      by_cases h1 : n ≤ o
      · rw [if_pos h1, if_pos (by omega), show o - n = (o - (n + 1)) + 1 from by omega, List.getElem?_cons_succ]
      · rw [if_neg h1, if_neg (by omega)]
theorem get_enumO (os : List Obj) (m o : Nat) : (⟨enumO 0 os, m⟩ : Heap).get o = os[o]? := by
  unfold Heap.get
  rw [look_enumO]
  simp
theorem nodupB_spec : ∀ {l : List Nat}, nodupB l = true → ∀ (i j x : Nat), l[i]? = some x → l[j]? = some x → i = j
  | [], _, i, j, x, h1, _ => by simp at h1
  | y :: r, h, i, j, x, h1, h2 => by
    simp only [nodupB, Bool.and_eq_true, Bool.not_eq_true', List.contains_eq_mem, decide_eq_false_iff_not] at h
    cases i with
    | zero =>
      cases j with
      | zero => rfl
      | succ j =>
        simp only [List.getElem?_cons_zero, Option.some.injEq] at h1
        simp only [List.getElem?_cons_succ] at h2
        subst h1
        exact absurd (List.mem_of_getElem? h2) h.1
    | succ i =>
      cases j with
      | zero =>
        simp only [List.getElem?_cons_zero, Option.some.injEq] at h2
        simp only [List.getElem?_cons_succ] at h1
        subst h2
        exact absurd (List.mem_of_getElem? h1) h.1
      | succ j => rw [nodupB_spec h.2 i j x (by simpa using h1) (by simpa using h2)]
theorem getAll_spec {H : Heap} : ∀ {fp : List Nat} {objs : List Obj}, getAll H fp = some objs → objs.length = fp.length ∧ ∀ (i o : Nat), fp[i]? = some o → ∃ x, objs[i]? = some x ∧ H.get o = some x
  | [], objs, h => by simp only [getAll, Option.some.injEq] at h; subst h; simp
  | o :: r, objs, h => by
    simp only [getAll] at h
    split at h
    · rename_i x l h1 h2
      simp only [Option.some.injEq] at h
      subst h
      obtain ⟨h3, h4⟩ := getAll_spec h2
      refine ⟨by simp [h3], fun i o' hi => ?_⟩
      cases i with
      | zero => simp at hi; subst hi; exact ⟨x, rfl, h1⟩
      | succ i => simpa using h4 i o' (by simpa using hi)
    · cases h
theorem rens_length (H : Heap) (ρ : Nat → Option Nat) : ∀ l : List AV, (rens H ρ l).length = l.length
  | [] => rfl
  | x :: r => by simp [rens, rens_length H ρ r]
theorem rens_get (H : Heap) (ρ : Nat → Option Nat) : ∀ (l : List AV) (i : Nat) (h : i < (rens H ρ l).length) (h' : i < l.length), (rens H ρ l)[i] = ren H ρ l[i]
  | [], i, h, h' => by simp at h'
  | x :: r, 0, h, h' => rfl
  | x :: r, i + 1, h, h' => by
    simp only [rens, List.getElem_cons_succ]
    exact rens_get H ρ r i _ (by simpa using h')
theorem renO_evo {x y : Obj} {H H' : Heap} {ρ ρ' : Nat → Option Nat} (h : (renO H ρ x).evo y) : x.evo (renO H' ρ' y) := by
  cases x <;> cases y <;> simp_all [renO, Obj.evo]
theorem renO_rlen (x : Obj) (H : Heap) (ρ : Nat → Option Nat) : (renO H ρ x).rlen = x.rlen := by cases x <;> rfl
theorem renO_rsz (x : Obj) (H : Heap) (ρ : Nat → Option Nat) : (renO H ρ x).rsz = x.rsz := by cases x <;> rfl
theorem renO_live (x : Obj) (H : Heap) (ρ : Nat → Option Nat) : (renO H ρ x).live = x.live := by cases x <;> rfl
def home (fp : List Nat) (k i : Nat) : Nat := match fp[i]? with
  | some o => o
  | none => k + (i - fp.length)
theorem home_lt {fp : List Nat} {k i : Nat} (h : i < fp.length) : fp[i]? = some (home fp k i) := by
  unfold home
  rw [List.getElem?_eq_getElem h]
theorem home_ge {fp : List Nat} {k i : Nat} (h : fp.length ≤ i) : home fp k i = k + (i - fp.length) := by
  unfold home
  rw [List.getElem?_eq_none h]
theorem home_inj {fp : List Nat} {k : Nat} (hnd : nodupB fp = true) (hk : ∀ (i o : Nat), fp[i]? = some o → o < k) {i j : Nat} (h : home fp k i = home fp k j) : i = j := by
  rcases Nat.lt_or_ge i fp.length with h1 | h1 <;> rcases Nat.lt_or_ge j fp.length with h2 | h2
  · exact nodupB_spec hnd i j _ (home_lt h1) (h ▸ home_lt h2)
  · have := hk i _ (home_lt (k := k) h1)
    rw [home_ge h2] at h
    omega
  · have := hk j _ (home_lt (k := k) h2)
    rw [home_ge h1] at h
    omega
  · rw [home_ge h1, home_ge h2] at h
    omega
theorem putAll_out {fp : List Nat} {k o : Nat} : ∀ (os : List Obj) (tab : List (Nat × Obj)) (i : Nat), (∀ j, j < os.length → o ≠ home fp k (i + j)) → look (putAll fp k tab i os) o = look tab o
  | [], tab, i, h => rfl
  | x :: r, tab, i, h => by
    simp only [putAll]
    rw [putAll_out r _ (i + 1) (fun j hj => by rw [show i + 1 + j = i + (j + 1) from by omega]; exact h (j + 1) (by simpa using hj))]
    have h0 := h 0 (by simp)
    simp only [Nat.add_zero] at h0
    rw [look_upd, if_neg]
    exact h0
theorem putAll_in {fp : List Nat} {k : Nat} (inj : ∀ i j, home fp k i = home fp k j → i = j) : ∀ (os : List Obj) (tab : List (Nat × Obj)) (i j : Nat) (x : Obj), os[j]? = some x → look (putAll fp k tab i os) (home fp k (i + j)) = some (renO ⟨[], 0⟩ (backTo fp k) x)
  | [], tab, i, j, x, h => by simp at h
  | y :: r, tab, i, j, x, h => by
    simp only [putAll]
    cases j with
    | zero =>
      simp only [List.getElem?_cons_zero, Option.some.injEq] at h
      subst h
      rw [putAll_out r _ (i + 1) (fun j hj he => by have := inj _ _ he; omega)]
      rw [look_upd, if_pos]
      rfl
    | succ j =>
      have := putAll_in inj r (upd tab (home fp k i) (renO ⟨[], 0⟩ (backTo fp k) y)) (i + 1) j x (by simpa using h)
      rw [show i + (j + 1) = i + 1 + j from by omega]
      exact this
section
variable {P : Program} {c : Ctx} {H : Heap} {θ : Nat → Value} {w w' : World}
theorem VR.toCallee (hs : HSim c H θ w) {fp : List Nat} {objs : List Obj} {B' : Nat → Prop} (hobj : objs.length = fp.length ∧ ∀ (i o : Nat), fp[i]? = some o → ∃ x, objs[i]? = some x ∧ H.get o = some x)
    (hB : ∀ b, vis c H θ w b → B' b) {x : AV} {v : Value} (h : VR H θ w (vis c H θ w) x v) :
    VR ⟨enumO 0 (objs.map (renO H (idxOf fp))), objs.length⟩ (fun i => θ (fp.getD i 0)) w B' (ren H (idxOf fp) x) v := by
  have hθ : ∀ {o i : Nat}, idxOf fp o = some i → i < objs.length ∧ fp.getD i 0 = o ∧ ∃ y, objs[i]? = some y ∧ H.get o = some y := fun {o i} h => by
    have h1 := idxOf_some h
    obtain ⟨y, h2, h3⟩ := hobj.2 i o h1
    refine ⟨(List.getElem?_eq_some_iff.1 h2).1, by simp [List.getD, h1], y, h2, h3⟩
  have hget : ∀ {i : Nat} {y : Obj}, objs[i]? = some y → ∀ z, (⟨enumO 0 (objs.map (renO H (idxOf fp))), objs.length⟩ : Heap).get i = some z → z = renO H (idxOf fp) y := fun {i y} h z hz => by
    rw [get_enumO, List.getElem?_map, h] at hz
    simpa using hz.symm
  induction h with
  | data d v h => simp only [ren]; exact .data d v (h.mono fun b hb => ⟨hB b hb, rfl⟩)
  | junk v => simp only [ren]; exact .junk v
  | nils => simp only [ren]; exact .nils
  | ptr o off v hv hr h =>
    simp only [ren]
    split
    · rename_i o' ho
      obtain ⟨h1, h2, y, h3, h4⟩ := hθ ho
      refine .ptr o' off v hv (.inl h1) fun cs hcs => ?_
      have := hget h3 _ hcs
      cases y <;> simp [renO] at this
      rw [h2]
      exact h _ h4
    · exact .junk v
  | row o n v hv hr h =>
    simp only [ren]
    split
    · rename_i l hg
      split
      · rename_i hn
        exact .data _ _ ((frz_val hs (.row o n v hv hr h) hg hn).mono fun b hb => ⟨hB b hb, rfl⟩)
      · exact .junk v
    · split
      · rename_i o' ho
        obtain ⟨h1, h2, y, h3, h4⟩ := hθ ho
        refine .row o' n v hv (.inl h1) fun z m hz hm => ?_
        have := hget h3 _ hz
        subst this
        rw [renO_rlen] at hm
        rw [h2]
        exact h y m h4 hm
      · exact .junk v
  | rref o n i off v hv hr h =>
    simp only [ren]
    split
    · rename_i o' ho
      obtain ⟨h1, h2, y, h3, h4⟩ := hθ ho
      refine .rref o' n i off v hv (.inl h1) fun z m sz hz hm hsz => ?_
      have := hget h3 _ hz
      subst this
      rw [renO_rlen] at hm
      rw [renO_rsz] at hsz
      rw [h2]
      exact h y m sz h4 hm hsz
    · exact .junk v
  | mref o v hv hr h =>
    simp only [ren]
    split
    · rename_i o' ho
      obtain ⟨h1, h2, y, h3, h4⟩ := hθ ho
      refine .mref o' v hv (.inl h1) fun ks vs hz => ?_
      have := hget h3 _ hz
      cases y <;> simp [renO] at this
      rw [h2]
      exact h _ _ h4
    · exact .junk v
  | agg l vs u hz hv _ ih =>
    simp only [ren]
    exact .agg _ vs u (by rw [rens_length]; exact hz) (fun i hi => hv i (by rw [rens_length] at hi; exact hi)) fun i hi => by
      rw [rens_get H _ l i hi (by rw [rens_length] at hi; exact hi)]
      exact ih i (by rw [rens_length] at hi; exact hi)
  | tup l vs u hz hv _ ih =>
    simp only [ren]
    exact .tup _ vs u (by rw [rens_length]; exact hz) (fun i hi => hv i (by rw [rens_length] at hi; exact hi)) fun i hi => by
      rw [rens_get H _ l i hi (by rw [rens_length] at hi; exact hi)]
      exact ih i (by rw [rens_length] at hi; exact hi)
  | fn f l vs u hz hv _ ih =>
    simp only [ren]
    exact .fn f _ vs u (by rw [rens_length]; exact hz) (fun i hi => hv i (by rw [rens_length] at hi; exact hi)) fun i hi => by
      rw [rens_get H _ l i hi (by rw [rens_length] at hi; exact hi)]
      exact ih i (by rw [rens_length] at hi; exact hi)
  | bnd f l vs u hz hv _ ih =>
    simp only [ren]
    exact .bnd f _ vs u (by rw [rens_length]; exact hz) (fun i hi => hv i (by rw [rens_length] at hi; exact hi)) fun i hi => by
      rw [rens_get H _ l i hi (by rw [rens_length] at hi; exact hi)]
      exact ih i (by rw [rens_length] at hi; exact hi)
theorem VR.fromCallee {H2 H' : Heap} {θ2 θ' : Nat → Value} {B B' : Nat → Prop} {σ : Nat → Nat} (hB : ∀ b, B b → B' b) (href : ∀ i, H2.ref i → H'.ref (σ i))
    (hget : ∀ i z, H2.ref i → H'.get (σ i) = some z → ∃ y, H2.get i = some y ∧ z = renO ⟨[], 0⟩ (fun i => some (σ i)) y ∧ θ' (σ i) = θ2 i) {x : AV} {v : Value} (h : VR H2 θ2 w' B x v) :
    VR H' θ' w' B' (ren ⟨[], 0⟩ (fun i => some (σ i)) x) v := by
  induction h with
  | data d v h => simp only [ren]; exact .data d v (h.mono fun b hb => ⟨hB b hb, rfl⟩)
  | junk v => simp only [ren]; exact .junk v
  | nils => simp only [ren]; exact .nils
  | ptr o off v hv hr h =>
    simp only [ren]
    refine .ptr _ off v hv (href o hr) fun cs hcs => ?_
    obtain ⟨y, h1, h2, h3⟩ := hget o _ hr hcs
    cases y <;> simp [renO] at h2
    rw [h3]
    exact h _ h1
  | row o n v hv hr h =>
    simp only [ren, Heap.get, look]
    refine .row _ n v hv (href o hr) fun z m hz hm => ?_
    obtain ⟨y, h1, h2, h3⟩ := hget o _ hr hz
    subst h2
    rw [renO_rlen] at hm
    rw [h3]
    exact h y m h1 hm
  | rref o n i off v hv hr h =>
    simp only [ren]
    refine .rref _ n i off v hv (href o hr) fun z m sz hz hm hsz => ?_
    obtain ⟨y, h1, h2, h3⟩ := hget o _ hr hz
    subst h2
    rw [renO_rlen] at hm
    rw [renO_rsz] at hsz
    rw [h3]
    exact h y m sz h1 hm hsz
  | mref o v hv hr h =>
    simp only [ren]
    refine .mref _ v hv (href o hr) fun ks vs hz => ?_
    obtain ⟨y, h1, h2, h3⟩ := hget o _ hr hz
    cases y <;> simp [renO] at h2
    rw [h3]
    exact h _ _ h1
  | agg l vs u hz hv _ ih =>
    simp only [ren]
    exact .agg _ vs u (by rw [rens_length]; exact hz) (fun i hi => hv i (by rw [rens_length] at hi; exact hi)) fun i hi => by
      rw [rens_get _ _ l i hi (by rw [rens_length] at hi; exact hi)]
      exact ih i (by rw [rens_length] at hi; exact hi)
  | tup l vs u hz hv _ ih =>
    simp only [ren]
    exact .tup _ vs u (by rw [rens_length]; exact hz) (fun i hi => hv i (by rw [rens_length] at hi; exact hi)) fun i hi => by
      rw [rens_get _ _ l i hi (by rw [rens_length] at hi; exact hi)]
      exact ih i (by rw [rens_length] at hi; exact hi)
  | fn f l vs u hz hv _ ih =>
    simp only [ren]
    exact .fn f _ vs u (by rw [rens_length]; exact hz) (fun i hi => hv i (by rw [rens_length] at hi; exact hi)) fun i hi => by
      rw [rens_get _ _ l i hi (by rw [rens_length] at hi; exact hi)]
      exact ih i (by rw [rens_length] at hi; exact hi)
  | bnd f l vs u hz hv _ ih =>
    simp only [ren]
    exact .bnd f _ vs u (by rw [rens_length]; exact hz) (fun i hi => hv i (by rw [rens_length] at hi; exact hi)) fun i hi => by
      rw [rens_get _ _ l i hi (by rw [rens_length] at hi; exact hi)]
      exact ih i (by rw [rens_length] at hi; exact hi)
theorem ObjR.turn {c2 : Ctx} {H1 H2 : Heap} {θ1 θ2 : Nat → Value} {x : Obj} {v : Value} {ρ : Nat → Option Nat} {Hr : Heap} (h : ObjR c H1 θ1 w x v)
    (hd : ∀ b, vis c H1 θ1 w b → vis c2 H2 θ2 w b) (hvr : ∀ y u, VR H1 θ1 w (vis c H1 θ1 w) y u → VR H2 θ2 w (vis c2 H2 θ2 w) (ren Hr ρ y) u)
    (hown : ∀ b, x.live = true → blk v = some b → (c.n0 ≤ b ∨ c.Init b) → c2.n0 ≤ b ∨ c2.Init b) : ObjR c2 H2 θ2 w (renO Hr ρ x) v := by
  cases x with
  | box cs =>
    obtain ⟨b, e, vs, rfl, h2, h3, h4, h5⟩ := h
    refine ⟨b, e, vs, rfl, h2, by rw [rens_length]; exact h3, hown b rfl rfl h4, fun i hi u hu => ?_⟩
    have hi' : i < cs.length := by rw [rens_length] at hi; exact hi
    rw [rens_get _ _ cs i hi hi']
    exact ⟨hvr _ _ (h5 i hi' u hu).1, (h5 i hi' u hu).2⟩
  | row e sz l =>
    obtain ⟨h1, h2, h3, vs, h4, h5, h6⟩ := h
    exact ⟨h1, h2, h3, vs, h4, fun b hb => hown b rfl hb (h5 b hb), fun i hi u hu => (h6 i hi u hu).mono fun b hb => ⟨hd b hb, rfl⟩⟩
  | arr e sz n cs =>
    obtain ⟨h1, h2, vs, h4, h5, h6⟩ := h
    refine ⟨h1, by rw [rens_length]; exact h2, vs, h4, fun b hb => hown b rfl hb (h5 b hb), fun i hi u hu => ?_⟩
    have hi' : i < cs.length := by rw [rens_length] at hi; exact hi
    rw [rens_get _ _ cs i hi hi']
    exact ⟨hvr _ _ (h6 i hi' u hu).1, (h6 i hi' u hu).2⟩
  | frz l => exact DR.mono h fun b hb => ⟨hd b hb, rfl⟩
  | map ks vs =>
    obtain ⟨b, clock, es, rfl, h2, h3, h4, h5, hst, h6, h7⟩ := h
    exact ⟨b, clock, es, rfl, h2, hown b rfl rfl h3, h4, h5, hst, fun i hi e he => (h6 i hi e he).mono fun b hb => ⟨hd b hb, rfl⟩, fun i hi e he => (h7 i hi e he).mono fun b hb => ⟨hd b hb, rfl⟩⟩
  | dead => trivial
theorem ObjR.mine {x : Obj} {v : Value} (h : ObjR c H θ w x v) (hx : x.live = true) {b : Nat} (hb : blk v = some b) : c.n0 ≤ b ∨ c.Init b := by
  cases x with
  | box cs =>
    obtain ⟨b', e, vs, rfl, _, _, h4, _⟩ := h
    simp [blk] at hb
    subst hb
    exact h4
  | row e sz l => obtain ⟨_, _, _, _, _, h5, _⟩ := h; exact h5 b hb
  | arr e sz n cs => obtain ⟨_, _, _, _, h5, _⟩ := h; exact h5 b hb
  | frz l => cases hx
  | map ks vs =>
    obtain ⟨b', _, _, rfl, _, h3, _⟩ := h
    simp [blk] at hb
    subst hb
    exact h3
  | dead => cases hx
theorem callLoc_next {k : Nat} {g : List AV → List Obj → Option (AV × List Obj)} {xs : List AV} {r : AV} {H' : Heap} (h : callLoc k H g xs = some (r, H')) (hb : H.bnd k) (hn : H.next ≤ k) : k ≤ H'.next ∧ H'.bnd H'.next := by
  unfold callLoc at h
  generalize hfp : xs.foldl (foot H 6) [] = fp at h
  split at h
  · rename_i objs hobj
    split at h
    · rename_i hnd
      split at h
      · rename_i r1 os' hg
        split at h
        · rename_i hlen
          simp only [Option.some.injEq, Prod.mk.injEq] at h
          obtain ⟨rfl, rfl⟩ := h
          obtain ⟨ho1, ho2⟩ := getAll_spec hobj
          refine ⟨Nat.le_add_right _ _, fun o ho => ?_⟩
          simp only [Heap.get] at ho ⊢
          by_cases hex : ∃ j, j < os'.length ∧ o = home fp k (0 + j)
          · obtain ⟨j, hj, rfl⟩ := hex
            rw [Nat.zero_add]
            rcases Nat.lt_or_ge j fp.length with h1 | h1
            · obtain ⟨x, _, h3⟩ := ho2 j _ (home_lt (k := k) h1)
              have := hb _ (by rw [h3]; rfl)
              omega
            · rw [home_ge h1]; omega
          · rw [putAll_out os' H.tab 0 (fun j hj he => hex ⟨j, hj, he⟩)] at ho
            have := hb o ho
            omega
        · cases h
      · cases h
    · cases h
  · cases h
theorem loc_call {f : FuncId} {k : Nat} {g : List AV → List Obj → Option (AV × List Obj)} {xs : List AV} {vs : Array Value} {r : AV} {H' : Heap} (hs : HSim c H θ w) (hb : H.bnd k) (hn : H.next ≤ k) (hS : LocOK P f g) (hz : vs.size = xs.length)
    (hvs : ∀ i (hi : i < xs.length) u, vs[i]? = some u → VR H θ w (vis c H θ w) (xs[i]) u) (h : callLoc k H g xs = some (r, H')) :
    CallOK P f vs w fun v w' => ∃ θ', HSim c H' θ' w' ∧ VR H' θ' w' (vis c H' θ' w') r v ∧ Kept c w w' ∧ HLe H θ H' θ' ∧ ∀ b, vis c H θ w b → vis c H' θ' w' b ∧ w'.heap[b]? = w.heap[b]? := by
  unfold callLoc at h
  generalize hfp : xs.foldl (foot H 6) [] = fp at h
  split at h
  · rename_i objs hobj
    split at h
    · rename_i hnd
      split at h
      · rename_i r1 os' hg
        split at h
        · rename_i hlen
          simp only [Option.some.injEq, Prod.mk.injEq] at h
          obtain ⟨rfl, rfl⟩ := h
          have hspec := getAll_spec hobj
          obtain ⟨ho1, ho2⟩ := hspec
          have hfk : ∀ (i o : Nat), fp[i]? = some o → o < k := fun i o hi => by
            obtain ⟨x, _, h3⟩ := ho2 i o hi
            exact hb o (by rw [h3]; rfl)
          have hinj : ∀ i j, home fp k i = home fp k j → i = j := fun i j => home_inj hnd hfk
          let os := objs.map (renO H (idxOf fp))
          let Hl : Heap := ⟨enumO 0 os, objs.length⟩
          let θl : Nat → Value := fun i => θ (fp.getD i 0)
          have hosl : os.length = objs.length := by simp [os]
          have hlget : ∀ i y, Hl.get i = some y → ∃ o x, fp[i]? = some o ∧ objs[i]? = some x ∧ H.get o = some x ∧ y = renO H (idxOf fp) x ∧ θl i = θ o := fun i y hi => by
            simp only [Hl, get_enumO, os, List.getElem?_map, Option.map_eq_some_iff] at hi
            obtain ⟨x, hx, rfl⟩ := hi
            have hlt : i < fp.length := by have := (List.getElem?_eq_some_iff.1 hx).1; omega
            have hfi := home_lt (k := k) hlt
            obtain ⟨x', h1, h2⟩ := ho2 i _ hfi
            rw [hx] at h1
            cases h1
            exact ⟨_, x, hfi, hx, h2, rfl, by simp [θl, List.getD, hfi]⟩
          have hownl : ∀ b, own Hl θl b → ∃ (i o : Nat) (x : Obj), fp[i]? = some o ∧ H.get o = some x ∧ x.live = true ∧ blk (θ o) = some b := fun b ⟨i, y, h1, h2, h3⟩ => by
            obtain ⟨o, x, g1, g2, g3, rfl, g5⟩ := hlget i y h1
            rw [renO_live] at h2
            rw [g5] at h3
            exact ⟨i, o, x, g1, g3, h2, h3⟩
          have hownl' : ∀ b, own Hl θl b → own H θ b := fun b hb => by
            obtain ⟨i, o, x, _, h2, h3, h4⟩ := hownl b hb
            exact ⟨o, x, h2, h3, h4⟩
          let cl : Ctx := { n0 := w.heap.size, Bl := vis c H θ w, Init := own Hl θl, apart := fun b hb ho => hb.2.1 (hownl' b ho), base := os.length }
          have hvl : ∀ b, vis c H θ w b → vis cl Hl θl w b := fun b hb => ⟨hb.1, fun ho => hb.2.1 (hownl' b ho), fun _ => .inl hb⟩
          have hto : ∀ {x v}, VR H θ w (vis c H θ w) x v → VR Hl θl w (vis cl Hl θl w) (ren H (idxOf fp) x) v := fun {x v} hx => VR.toCallee hs ⟨ho1, ho2⟩ hvl hx
          have hsl : HSim cl Hl θl w := by
            refine ⟨Nat.le_refl _, fun i y hi => ?_, fun i j y z hi hj hy hz hne b h1 h2 => ?_⟩
            · obtain ⟨o, x, g1, g2, g3, rfl, g5⟩ := hlget i y hi
              rw [g5]
              exact (hs.objs o x g3).turn hvl (fun y u hy => hto hy) fun b hx hbl _ => .inr ⟨i, _, hi, by rw [renO_live]; exact hx, by rw [g5]; exact hbl⟩
            · obtain ⟨o, x, g1, g2, g3, rfl, g5⟩ := hlget i y hi
              obtain ⟨o', x', g1', g2', g3', rfl, g5'⟩ := hlget j z hj
              rw [renO_live] at hy hz
              rw [g5] at h1
              rw [g5'] at h2
              exact hs.inj o o' x x' g3 g3' hy hz (fun he => hne (by subst he; exact nodupB_spec hnd i j _ g1 g1')) b h1 h2
          have hHl : Hl = ⟨enumO 0 os, os.length⟩ := by simp only [Hl, hosl]
          obtain ⟨hcall1, hcall2⟩ := hS (rens H (idxOf fp) xs) os r1 os' hg (by rw [hosl, ho1]; exact hlen) cl θl w vs rfl (hHl ▸ hsl) (by rw [rens_length]; exact hz) (fun i hi u hu => by
            have hi' : i < xs.length := by rw [rens_length] at hi; exact hi
            rw [rens_get H _ xs i hi hi', ← hHl]
            exact hto (hvs i hi' u hu))
          refine ⟨hcall1, hcall2.mono ?_⟩
          rintro e w' ⟨v, rfl, θ2, hs2, hv2, hk2, hev2⟩
          refine ⟨v, rfl, ?_⟩
          rw [← hHl] at hev2
          let H2 : Heap := ⟨enumO 0 os', os'.length⟩
          let H' : Heap := ⟨putAll fp k H.tab 0 os', k + (os'.length - fp.length)⟩
          let θ' : Nat → Value := fun o => match (List.range os'.length).find? (fun i => home fp k i == o) with
            | some i => θ2 i
            | none => θ o
          have hθin : ∀ i, i < os'.length → θ' (home fp k i) = θ2 i := fun i hi => by
            have : (List.range os'.length).find? (fun j => home fp k j == home fp k i) = some i := by
              rw [List.find?_eq_some_iff_getElem]
              refine ⟨by simp, i, by simpa using hi, by simp, fun j hj => ?_⟩
              simp only [List.getElem_range, Bool.not_eq_true', beq_eq_false_iff_ne, ne_eq]
              intro he
              have := hinj _ _ he
              omega
            simp only [θ', this]
          have hθout : ∀ o, (∀ i, i < os'.length → o ≠ home fp k i) → θ' o = θ o := fun o ho => by
            have : (List.range os'.length).find? (fun j => home fp k j == o) = none := by
              rw [List.find?_eq_none]
              intro j hj
              simp only [List.mem_range] at hj
              simp only [beq_iff_eq]
              exact fun he => ho j hj he.symm
            simp only [θ', this]
          have h2get : ∀ i, H2.get i = os'[i]? := fun i => get_enumO _ _ _
          have hin : ∀ i y, os'[i]? = some y → H'.get (home fp k i) = some (renO ⟨[], 0⟩ (backTo fp k) y) := fun i y hi => by
            have := putAll_in hinj os' H.tab 0 i y hi
            rw [Nat.zero_add] at this
            exact this
          have hout : ∀ o, (∀ i, i < os'.length → o ≠ home fp k i) → H'.get o = H.get o := fun o ho =>
            putAll_out os' H.tab 0 (fun j hj => by rw [Nat.zero_add]; exact ho j hj)
          have hcase : ∀ o, (∃ i y, os'[i]? = some y ∧ o = home fp k i) ∨ (∀ i, i < os'.length → o ≠ home fp k i) := fun o => by
            by_cases hex : ∃ i, i < os'.length ∧ o = home fp k i
            · obtain ⟨i, hi, rfl⟩ := hex
              exact .inl ⟨i, os'[i], by simp [hi], rfl⟩
            · exact .inr fun i hi he => hex ⟨i, hi, he⟩
          have hframe : ∀ o x, H.get o = some x → (∀ i, i < os'.length → o ≠ home fp k i) → ∀ i o2, fp[i]? = some o2 → o2 ≠ o := fun o x hgo ho i o2 hi he => by
            subst he
            have hlt : i < fp.length := (List.getElem?_eq_some_iff.1 hi).1
            have := home_lt (k := k) hlt
            rw [hi] at this
            exact ho i (by omega) (Option.some.inj this)
          have hmine : ∀ b, own Hl θl b → c.n0 ≤ b ∨ c.Init b := fun b hb => by
            obtain ⟨i, o, x, h1, h2, h3, h4⟩ := hownl b hb
            exact (hs.objs o x h2).mine h3 h4
          have hfrown : ∀ o x b, H.get o = some x → x.live = true → blk (θ o) = some b → (∀ i, i < os'.length → o ≠ home fp k i) → ¬ own Hl θl b := fun o x b hgo hx hbl ho hown => by
            obtain ⟨i, o2, x2, h1, h2, h3, h4⟩ := hownl b hown
            exact hs.inj o2 o x2 x h2 hgo h3 hx (hframe o x hgo ho i o2 h1) b h4 hbl
          have hown' : ∀ b, own H' θ' b → (∃ i y, os'[i]? = some y ∧ y.live = true ∧ blk (θ2 i) = some b) ∨ (∃ o x, H.get o = some x ∧ x.live = true ∧ blk (θ o) = some b ∧ ∀ i, i < os'.length → o ≠ home fp k i) := fun b ⟨o, x, h1, h2, h3⟩ => by
            rcases hcase o with ⟨i, y, hi, rfl⟩ | ho
            · rw [hin i y hi] at h1
              cases h1
              rw [renO_live] at h2
              rw [hθin i (List.getElem?_eq_some_iff.1 hi).1] at h3
              exact .inl ⟨i, y, hi, h2, h3⟩
            · rw [hout o ho] at h1
              rw [hθout o ho] at h3
              exact .inr ⟨o, x, h1, h2, h3, ho⟩
          have hmine2 : ∀ i y b, os'[i]? = some y → y.live = true → blk (θ2 i) = some b → w.heap.size ≤ b ∨ own Hl θl b := fun i y b hi hy hbl =>
            (hs2.objs i y (by rw [get_enumO]; exact hi)).mine hy hbl
          have hvis2 : ∀ b, vis cl H2 θ2 w' b → vis c H' θ' w' b := fun b ⟨h1, h2, h3⟩ => by
            refine ⟨h1, fun ho => ?_, fun hlt => ?_⟩
            · rcases hown' b ho with ⟨i, y, g1, g2, g3⟩ | ⟨o, x, g1, g2, g3, g4⟩
              · exact h2 ⟨i, y, by rw [h2get]; exact g1, g2, g3⟩
              · have hb0 := (hs.objs o x g1).lt g2 g3
                rcases h3 hb0 with h4 | h4
                · exact h4.2.1 ⟨o, x, g1, g2, g3⟩
                · exact hfrown o x b g1 g2 g3 g4 h4
            · rcases h3 (Nat.lt_of_lt_of_le hlt hs.size) with h4 | h4
              · exact h4.2.2 hlt
              · rcases hmine b h4 with h5 | h5
                · omega
                · exact .inr h5
          have hvis1 : ∀ b, vis c H θ w b → vis c H' θ' w' b ∧ w'.heap[b]? = w.heap[b]? := fun b hb0 => by
            have hnl : ¬ own Hl θl b := fun ho => hb0.2.1 (hownl' b ho)
            refine ⟨⟨Nat.lt_of_lt_of_le hb0.1 hk2.size, fun ho => ?_, hb0.2.2⟩, hk2.block b hb0.1 hnl⟩
            rcases hown' b ho with ⟨i, y, g1, g2, g3⟩ | ⟨o, x, g1, g2, g3, _⟩
            · rcases hmine2 i y b g1 g2 g3 with g4 | g4
              · have := hb0.1; omega
              · exact hnl g4
            · exact hb0.2.1 ⟨o, x, g1, g2, g3⟩
          have hle : HLe H θ H' θ' := by
            refine ⟨fun o ho => ?_, fun o z ho hz => ?_⟩
            · rcases ho with ho | ho
              · exact .inl (by simp only [H']; omega)
              · exact .inl (by have := hb o ho; simp only [H']; omega)
            · rcases hcase o with ⟨i, y, hi, rfl⟩ | hno
              · rw [hin i y hi] at hz
                cases hz
                have hlt : i < fp.length := by
                  rcases Nat.lt_or_ge i fp.length with h1 | h1
                  · exact h1
                  · rw [home_ge h1] at ho
                    rcases ho with ho | ho
                    · omega
                    · have := hb _ ho; omega
                have hfi := home_lt (k := k) hlt
                obtain ⟨x, g1, g2⟩ := ho2 i _ hfi
                obtain ⟨x2, e1, e2, e3⟩ := hev2 i y (by omega) (by rw [get_enumO]; exact hi)
                have hx2 : x2 = renO H (idxOf fp) x := by
                  simp only [Hl, get_enumO, os, List.getElem?_map, g1, Option.map_some, Option.some.injEq] at e1
                  exact e1.symm
                subst hx2
                refine ⟨x, g2, renO_evo e2, fun he => ?_⟩
                rw [hθin i (List.getElem?_eq_some_iff.1 hi).1, e3 (by rw [renO_rlen, he, renO_rlen])]
                simp [θl, List.getD, hfi]
              · rw [hout o hno] at hz
                exact ⟨z, hz, z.evo_refl, fun _ => hθout o hno⟩
          have hvr2 : ∀ {x v}, VR H2 θ2 w' (vis cl H2 θ2 w') x v → VR H' θ' w' (vis c H' θ' w') (ren ⟨[], 0⟩ (backTo fp k) x) v := fun {x v} hx => by
            have href : ∀ i, H2.ref i → i < os'.length := fun i hi => by
              rcases hi with hi | hi
              · exact hi
              · rw [h2get] at hi
                exact (List.getElem?_eq_some_iff.1 (Option.eq_some_of_isSome hi)).1
            exact VR.fromCallee (σ := home fp k) hvis2 (fun i hi => by
              have := href i hi
              refine .inl ?_
              simp only [H']
              rcases Nat.lt_or_ge i fp.length with h1 | h1
              · have := hfk i _ (home_lt (k := k) h1); omega
              · rw [home_ge h1]; omega) (fun i z hi hz => by
              have hlt := href i hi
              have hy : os'[i]? = some os'[i] := by simp [hlt]
              rw [hin i _ hy] at hz
              cases hz
              exact ⟨os'[i], by rw [h2get]; exact hy, rfl, hθin i hlt⟩) hx
          refine ⟨θ', ⟨Nat.le_trans hs.size hk2.size, fun o x hgo => ?_, fun o o' x x' hgo hgo' hx hx' hne b h1 h2 => ?_⟩, hvr2 hv2, ⟨hk2.os, hk2.tape, hk2.output, hk2.size, fun b hlt hni => ?_⟩, hle, hvis1⟩
          · have hgo' : H'.get o = some x := hgo
            rcases hcase o with ⟨i, y, hi, rfl⟩ | hno
            · rw [hin i y hi] at hgo'
              cases hgo'
              rw [hθin i (List.getElem?_eq_some_iff.1 hi).1]
              refine ObjR.turn (hs2.objs i y (by rw [get_enumO]; exact hi)) hvis2 (fun y u hy => hvr2 hy) fun b _ _ h4 => ?_
              rcases h4 with h4 | h4
              · exact .inl (Nat.le_trans hs.size h4)
              · exact hmine b h4
            · rw [hout o hno] at hgo'
              rw [hθout o hno]
              exact (hs.objs o x hgo').mono hvis1 hle fun hx b hbl => hk2.block b ((hs.objs o x hgo').lt hx hbl) (hfrown o x b hgo' hx hbl hno)
          · have hg1 : H'.get o = some x := hgo
            have hg2 : H'.get o' = some x' := hgo'
            rcases hcase o with ⟨i, y, hi, rfl⟩ | hno <;> rcases hcase o' with ⟨j, z, hj, rfl⟩ | hno'
            · rw [hin i y hi] at hg1
              rw [hin j z hj] at hg2
              cases hg1
              cases hg2
              rw [renO_live] at hx hx'
              rw [hθin i (List.getElem?_eq_some_iff.1 hi).1] at h1
              rw [hθin j (List.getElem?_eq_some_iff.1 hj).1] at h2
              exact hs2.inj i j y z (by rw [get_enumO]; exact hi) (by rw [get_enumO]; exact hj) hx hx' (fun he => hne (by rw [he])) b h1 h2
            · rw [hin i y hi] at hg1
              rw [hout o' hno'] at hg2
              cases hg1
              rw [renO_live] at hx
              rw [hθin i (List.getElem?_eq_some_iff.1 hi).1] at h1
              rw [hθout o' hno'] at h2
              rcases hmine2 i y b hi hx h1 with h4 | h4
              · have := (hs.objs o' x' hg2).lt hx' h2; omega
              · exact hfrown o' x' b hg2 hx' h2 hno' h4
            · rw [hout o hno] at hg1
              rw [hin j z hj] at hg2
              cases hg2
              rw [renO_live] at hx'
              rw [hθout o hno] at h1
              rw [hθin j (List.getElem?_eq_some_iff.1 hj).1] at h2
              rcases hmine2 j z b hj hx' h2 with h4 | h4
              · have := (hs.objs o x hg1).lt hx h1; omega
              · exact hfrown o x b hg1 hx h1 hno h4
            · rw [hout o hno] at hg1
              rw [hout o' hno'] at hg2
              rw [hθout o hno] at h1
              rw [hθout o' hno'] at h2
              exact hs.inj o o' x x' hg1 hg2 hx hx' hne b h1 h2
          · refine hk2.block b (Nat.lt_of_lt_of_le hlt hs.size) fun ho => ?_
            rcases hmine b ho with h4 | h4
            · omega
            · exact hni h4
        · cases h
      · cases h
    · cases h
  · cases h
end
end Go.Ab
