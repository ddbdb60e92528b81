/-
  One text of the proof (own work): contracts of functions of the program, by the abstract machine.
-/
import Derived.OpenShut
import Derived.JoinedCond
import Derived.ProofKit
import Derived.Test.YtmcgfohokniepaaX20
set_option linter.unusedVariables false
set_option linter.unusedSimpArgs false
namespace Go.Ab
open Go Go.RowKit
def fitsAll (P : Program) : List Ty → List TypeId → Bool
  | [], [] => true
  | ty :: r, t :: ts => ty.fits P t && fitsAll P r ts
  | _, _ => false
def HasTys (n : Nat) : List Ty → List D → Prop
  | [], xs => xs = []
  | ty :: r, xs => ∃ cs ys, HasTy n ty cs ∧ HasTys n r ys ∧ xs = ty.pack cs :: ys
section
variable {H : Type} {enc : TypeId × Value → H} {P : Program} {W W' : World}
theorem arg_read {n base : Nat} {ty : Ty} {t : TypeId} {v : Value} {d : DataW H} {ps : List MemPlace} (hf : ty.fits P t = true) (h : DataW.Trod enc P W 0 (fun _ => true) true t v d ps) (hv : Value.okWide P W .any base t v) (hb : bulk d ≤ n) :
    ∃ cs, HasTy n ty cs ∧ DR W (belowSz W) (ty.pack cs) v := by
  obtain ⟨fuel, h⟩ := h
  obtain ⟨cs, h1, h2⟩ := trod_reads ty fuel t _ d ps hf h hb
  refine ⟨cs, h1, ?_⟩
  have one : ∀ (x : D), cs = [x] → ty.pack cs = x → v.oneCell' = true → DR W (belowSz W) (ty.pack cs) v := by
    intro x hx hp ho
    subst hx
    rw [hp]
    have hvc : v.cells.toList = [v] := by cases v <;> simp_all [Value.cells, Value.oneCell']
    rw [hvc] at h2
    have := h2.2 0 (by simp) v rfl
    simpa using this
  cases ty with
  | bool =>
    obtain ⟨b, rfl⟩ := h1
    refine one _ rfl rfl ?_
    simp only [Ty.fits] at hf
    split at hf
    · rename_i hu
      simp only [Value.okWide, hu, Cell.okWide] at hv
      cases v <;> simp_all [Cell.ok, Value.oneCell']
    · cases hf
  | int k =>
    obtain ⟨b, _, rfl⟩ := h1
    refine one _ rfl rfl ?_
    simp only [Ty.fits] at hf
    split at hf
    · rename_i hu
      simp only [Value.okWide, hu, Cell.okWide] at hv
      cases v <;> simp_all [Cell.ok, Value.oneCell']
    · cases hf
  | str =>
    obtain ⟨b, _, rfl⟩ := h1
    refine one _ rfl rfl ?_
    simp only [Ty.fits] at hf
    split at hf
    · rename_i hu
      simp only [Value.okWide, hu, Cell.okWide] at hv
      cases v <;> simp_all [Cell.ok, Value.oneCell']
    · cases hf
  | slice ty =>
    obtain ⟨b, _, _, rfl⟩ := h1
    refine one _ rfl rfl ?_
    simp only [Ty.fits] at hf
    split at hf
    · rename_i hu
      simp only [Value.okWide, hu, Cell.okWide] at hv
      cases v <;> simp_all [Cell.ok, Value.oneCell']
    · cases hf
  | struct fs =>
    simp only [Ty.fits] at hf
    split at hf
    · rename_i hu
      simp only [Value.okWide, hu] at hv
      obtain ⟨vs, rfl, _⟩ := hv
      simp only [Value.cells] at h2
      refine .agg cs vs (fun i => vs.getD i undef) (by have := h2.1; simpa using this) (HasTyL.spec fs cs h1).2 (fun i hi => ?_) (fun i hi => ?_)
      · have : i < vs.size := by have := h2.1; simp at this; omega
        simp [this]
      · have : i < vs.size := by have := h2.1; simp at this; omega
        exact h2.2 i hi _ (by simp [this])
    · cases hf
  | arr fs =>
    simp only [Ty.fits] at hf
    split at hf
    · rename_i hu
      simp only [Value.okWide, hu] at hv
      obtain ⟨vs, rfl, _⟩ := hv
      simp only [Value.cells] at h2
      refine .agg cs vs (fun i => vs.getD i undef) (by have := h2.1; simpa using this) (HasTyL.spec fs cs h1).2 (fun i hi => ?_) (fun i hi => ?_)
      · have : i < vs.size := by have := h2.1; simp at this; omega
        simp [this]
      · have : i < vs.size := by have := h2.1; simp at this; omega
        exact h2.2 i hi _ (by simp [this])
    · cases hf
theorem args_read {n base : Nat} : ∀ (tys : List Ty) (ts : List TypeId) (vs : List Value) (ds : List (DataW H)) (ps : List MemPlace), fitsAll P tys ts = true → DataW.TrodAll enc P W 0 (fun _ => true) true ts vs ds ps →
    (∀ (j : Nat) t v, ts[j]? = some t → vs[j]? = some v → Value.okWide P W .any base t v) → bulkAll ds ≤ n → ∃ xs, HasTys n tys xs ∧ vs.length = xs.length ∧ ∀ i (hi : i < xs.length) u, vs[i]? = some u → DR W (belowSz W) (xs[i]) u
  | [], [], vs, ds, ps, hf, h, hv, hb => by
    obtain ⟨rfl, rfl, rfl⟩ := ChangeShapes.trodAll_nil h
    exact ⟨[], rfl, rfl, fun i hi => by simp at hi⟩
  | [], t :: ts, vs, ds, ps, hf, h, hv, hb => by simp [fitsAll] at hf
  | ty :: r, [], vs, ds, ps, hf, h, hv, hb => by simp [fitsAll] at hf
  | ty :: r, t :: ts, vs, ds, ps, hf, h, hv, hb => by
    simp only [fitsAll, Bool.and_eq_true] at hf
    obtain ⟨v, vs', d, ds', p, q, rfl, rfl, rfl, h1, h2⟩ := ChangeShapes.trodAll_cons h
    simp only [bulkAll] at hb
    obtain ⟨cs, g1, g2⟩ := arg_read (n := n) hf.1 h1 (hv 0 t v rfl rfl) (by omega)
    obtain ⟨xs, g3, g4, g5⟩ := args_read (n := n) (base := base) r ts vs' ds' q hf.2 h2 (fun j t' v' hj hj' => hv (j + 1) t' v' (by simpa using hj) (by simpa using hj')) (by omega)
    refine ⟨ty.pack cs :: xs, ⟨cs, xs, g1, g3, rfl⟩, by simp [g4], fun i hi u hu => ?_⟩
    cases i with
    | zero => simp at hu; subst hu; exact g2
    | succ i => exact g5 i (by simpa using hi) u (by simpa using hu)
theorem args_stay (hl : laidOutB P = true) (hb : Below W.heap.size W W') : ∀ (ts : List TypeId) (vs : List Value) (ds : List (DataW H)) (ps : List MemPlace), ts.all (fun t => P.readableRec t && decide (t < P.types.size)) = true →
    DataW.TrodAll enc P W 0 (fun _ => true) true ts vs ds ps → (∀ x ∈ ps, x.block < W.heap.size) → DataW.TrodAll enc P W' 0 (fun b => decide (b < W.heap.size)) true ts vs ds ps
  | [], vs, ds, ps, hr, h, hlt => by
    obtain ⟨rfl, rfl, rfl⟩ := ChangeShapes.trodAll_nil h
    rfl
  | t :: ts, vs, ds, ps, hr, h, hlt => by
    obtain ⟨v, vs', d, ds', p, q, rfl, rfl, rfl, h1, h2⟩ := ChangeShapes.trodAll_cons h
    simp only [List.all_cons, Bool.and_eq_true, decide_eq_true_eq] at hr
    exact ⟨p, q, Below.trod hl hr.1.1 hr.1.2 h1 hb (fun x hx => hlt x (by simp [hx])), args_stay hl hb ts vs' ds' q hr.2 h2 (fun x hx => hlt x (by simp [hx])), rfl⟩
theorem law_calls {f : FuncId} {fn : Func} {s : ChangeSpec} {g : List D → Option D} {fl apart : Bool} {tys : List Ty} {n base : Nat} {tb : TypeId} (hok : PureOK P f fl g) (hl : laidOutB P = true) (hr : fn.params.toList.all (fun t => P.readableRec t && decide (t < P.types.size)) = true)
    (hres : fn.resultTypes.toList = [tb]) (htb : P.underlying tb = some .bool) (hfit : fitsAll P tys fn.params.toList = true) (hg : ∀ xs, HasTys n tys xs → g xs = some (.bool true)) (hs : s.vars = []) {args : Array Value} {ds gs : List (DataW H)} {before : List MemPlace}
    (hval : ∀ (j : Nat) t v, fn.params[j]? = some t → args[j]? = some v → Value.okWide P W .any base t v) (hW : DataW.Whole enc P fn.params.toList s.vars apart W args.toList ds gs before)
    (hspec : s.fn H (ds ++ gs) = { results := [.lit (.bool true)], args := ds }) (hbulk : bulkAll ds ≤ n) :
    Calls P f args W fun e W' => ∃ v, e = .returned v ∧ s.post enc P fn apart true false false W args v W' := by
  have hW' := hW
  have hlt := hW.lt
  obtain ⟨p, q, hA, hV, rfl, hfz, hnd⟩ := hW
  rw [hs] at hV
  obtain ⟨rfl, rfl⟩ := ChangeShapes.trodVars_none hV
  obtain ⟨xs, h1, h2, h3⟩ := args_read (n := n) tys _ _ _ _ hfit hA (fun j t v hj hv => hval j t v (by simpa using hj) (by simpa using hv)) hbulk
  obtain ⟨_, hcall⟩ := hok xs _ (hg xs h1)
  obtain ⟨_, hc⟩ := hcall W (belowSz W) args (fun b hb => hb) (by simpa using h2) (fun i hi u hu => h3 i hi u (by simpa using hu))
  refine hc.mono ?_
  rintro e W' ⟨v, rfl, hdr, hbel⟩
  have hv := hdr.bool_eq
  subst hv
  have hrs : fn.resultTypes.size = 1 := by
    have := congrArg List.length hres
    simpa using this
  refine ⟨_, rfl, ds, [], p ++ [], [], p, [], hW', ?_, ?_, ?_, ?_, fun h => (by cases h)⟩
  · rw [hspec, hres]
    have : (Value.bool true).resultList fn.resultTypes.size = [.bool true] := by rw [hrs]; rfl
    rw [this]
    exact trodAll_cons_mk (shut_bool htb _) ChangeShapes.trodAll_mk0
  · rw [hspec]
    exact args_stay hl hbel _ _ _ _ hr hA (fun x hx => hlt x (by simp [hx]))
  · rw [hs, hspec]
    rfl
  · exact hbel.frame _
end
end Go.Ab
