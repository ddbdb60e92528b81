/-
  One text of the proof (own work): contracts of functions of the program, by the abstract machine.
-/
import Derived.Test.YtabenhkajabaeaaDoorX6
set_option linter.unusedVariables false
set_option linter.unusedSimpArgs false
namespace Go.Ab
open Go Go.RowKit
theorem run_mapM_list {α β : Type} {P : Program} {w : World} (f : α → Sem β) (g : α → Option β) (hf : ∀ x y, g x = some y → (f x).run P w = .ok y w) :
    ∀ (l : List α) (r : List β), l.mapM g = some r → (l.mapM f).run P w = .ok r w
  | [], r, h => by simp at h; subst h; simp
  | x :: l, r, h => by
    simp only [List.mapM_cons, Option.bind_eq_bind, Option.bind_eq_some_iff, Option.pure_def, Option.some.injEq] at h
    obtain ⟨y, hy, r', hr, rfl⟩ := h
    simp [List.mapM_cons, hf x y hy, run_mapM_list f g hf l r' hr]
theorem run_mapM {α β : Type} {P : Program} {w : World} (f : α → Sem β) (g : α → Option β) (hf : ∀ x y, g x = some y → (f x).run P w = .ok y w) (a : Array α) (r : List β) (h : a.toList.mapM g = some r) :
    (a.mapM f).run P w = .ok r.toArray w := by
  have h1 := run_mapM_list f g hf a.toList r h
  rw [Array.mapM_eq_mapM_toList]
  simp [h1]
theorem tplaces_mapM {P : Program} : ∀ (fs : List Field) (l : List (Nat × Nat)), tplaces P fs = some l → fs.mapM (fun f => (tsize P f.type).map fun n => (f.offset, n)) = some l
  | [], l, h => by simp only [tplaces, Option.some.injEq] at h; subst h; simp
  | f :: r, l, h => by
    simp only [tplaces] at h
    split at h
    · rename_i n l' h1 h2
      simp only [Option.some.injEq] at h
      subst h
      simp [List.mapM_cons, h1, tplaces_mapM r l' h2]
    · cases h
section
variable {P : Program} {c : Ctx} {H H' : Heap} {θ θ' : Nat → Value} {w w' : World} {sl : List AV} {a : Act} {o : Oper} {r : AV}
theorem fill_step (off : Nat) (vc cells : List Value) (h : off + vc.length ≤ cells.length) :
    vc.zipIdx.foldl (fun (cs : Array Value) (x : Value × Nat) => cs.setIfInBounds (off + x.2) x.1) cells.toArray = (over off vc cells).toArray := by
  have key : ∀ (vc : List Value) (k : Nat) (cells : List Value), off + k + vc.length ≤ cells.length →
      (vc.zipIdx k).foldl (fun (cs : Array Value) (x : Value × Nat) => cs.setIfInBounds (off + x.2) x.1) cells.toArray = (over (off + k) vc cells).toArray := by
    intro vc
    induction vc with
    | nil => intro k cells _; simp [over]
    | cons x vc ih =>
      intro k cells hl
      simp only [List.length_cons] at hl
      simp only [List.zipIdx_cons, List.foldl_cons, List.setIfInBounds_toArray]
      rw [ih (k + 1) (cells.set (off + k) x) (by simp; omega)]
      congr 1
      apply List.ext_getElem?
      intro i
      rw [over_get (by simp; omega), over_get (by simp; omega), List.getElem?_set]
      simp only [List.length_cons]
      by_cases c1 : i < off + k
      · rw [if_pos (by omega), if_pos c1, if_neg (by omega)]
      · rw [if_neg c1]
        by_cases c2 : i = off + k
        · subst c2
          rw [if_pos (by omega), if_pos rfl, if_pos (by omega), if_pos (by omega)]
          simp
        · rw [if_neg (show ¬ i < off + (k + 1) by omega)]
          by_cases c3 : i < off + (k + 1) + vc.length
          · rw [if_pos c3, if_pos (by omega), show i - (off + k) = (i - (off + (k + 1))) + 1 from by omega, List.getElem?_cons_succ]
          · rw [if_neg c3, if_neg (by omega), if_neg (by omega)]
  have := key vc 0 cells (by omega)
  simpa using this
theorem fill_sound {place : Nat → Option (Nat × Nat)} {B : Nat → Prop} : ∀ (parts : List (Nat × Operand)) (vals : Operand → Value) (avs : Operand → AV) (cells : List AV) (vs : List Value) (cs : List AV),
    (∀ x, VR H θ w B (avs x) (vals x)) → vs.length = cells.length → (∀ i (hi : i < cells.length) u, vs[i]? = some u → VR H θ w B (cells[i]) u ∧ u.oneCell' = true) →
    setCells cells place (parts.map fun (i, x) => (i, avs x)) = some cs →
    ∃ vs' : List Value, Instr.fill place vs.toArray (parts.map fun (i, x) => (i, vals x)) = some vs'.toArray ∧ vs'.length = cs.length ∧ ∀ i (hi : i < cs.length) u, vs'[i]? = some u → VR H θ w B (cs[i]) u ∧ u.oneCell' = true
  | [], vals, avs, cells, vs, cs, hx, hl, hv, h => by
    simp only [List.map_nil, setCells, Option.some.injEq] at h
    subst h
    exact ⟨vs, rfl, hl, hv⟩
  | (i, x) :: parts, vals, avs, cells, vs, cs, hx, hl, hv, h => by
    simp only [List.map_cons, setCells] at h
    split at h
    · rename_i off size xs hp hc
      split at h
      · rename_i hsz
        split at h
        · rename_i cells' hlay
          obtain ⟨hz, hxs⟩ := cells_sound (hx x) hc
          obtain ⟨hfit, rfl⟩ := lay_some hlay
          have hcond : ((vals x).cells.size ≠ size || decide (off + (vals x).cells.size > vs.toArray.size)) = false := by
            simp only [List.size_toArray, hz, hsz, hl]
            simp
            omega
          have hstep := fill_step off (vals x).cells.toList vs (by simp only [Array.length_toList]; omega)
          obtain ⟨vs', h1, h2, h3⟩ := fill_sound parts vals avs (over off xs cells) (over off (vals x).cells.toList vs) cs hx
            (by rw [over_length (by simp only [Array.length_toList]; omega), over_length hfit, hl])
            (fun j hj u hu => by
              rw [over_get (by simp only [Array.length_toList]; omega)] at hu
              have hj' : j < cells.length := by rw [over_length hfit] at hj; exact hj
              have hx' : (over off xs cells)[j]? = some (over off xs cells)[j] := List.getElem?_eq_getElem hj
              rw [over_get hfit] at hx'
              simp only [Array.length_toList, hz] at hu
              by_cases c1 : j < off
              · rw [if_pos c1] at hu hx'
                rw [List.getElem?_eq_getElem hj', Option.some.injEq] at hx'
                rw [← hx']
                exact hv j hj' u hu
              · rw [if_neg c1] at hu hx'
                by_cases c2 : j < off + xs.length
                · rw [if_pos c2] at hu hx'
                  rw [List.getElem?_eq_getElem (show j - off < xs.length by omega), Option.some.injEq] at hx'
                  rw [← hx']
                  exact hxs (j - off) (by omega) u (by simpa using hu)
                · rw [if_neg c2] at hu hx'
                  rw [List.getElem?_eq_getElem hj', Option.some.injEq] at hx'
                  rw [← hx']
                  exact hv j hj' u hu) h
          refine ⟨vs', ?_, h2, h3⟩
          simp only [List.map_cons, Instr.fill, hp]
          rw [if_neg (by rw [hcond]; simp)]
          rw [← h1]
          congr 1
          rw [← hstep]
          rw [← Array.foldl_toList, Array.toList_zipIdx]
        · cases h
      · cases h
    · cases h
theorem y_build (hs : St c H θ w sl a) {t : TypeId} {parts : Array (Nat × Operand)} {y : AV} (ho : o.op = .build t parts) (h : abuild P t (parts.toList.map fun (i, x) => (i, aev sl x)) = some y) : Yields P c o a w sl H θ y H := by
  unfold abuild at h
  split at h
  · rename_i fs z hu hz
    split at h
    · rename_i cells pl hc hpl
      split at h
      · rename_i cs hset
        simp only [Option.some.injEq] at h
        subst h
        have hz' := hz
        simp only [tzero, Option.bind_eq_some_iff] at hz'
        obtain ⟨i, hi, hzz⟩ := hz'
        obtain ⟨hsz, hcs⟩ := cells_sound (cav_sound (H := H) (θ := θ) (w := w) (B := vis c H θ w) z) hc
        obtain ⟨vs', h1, h2, h3⟩ := fill_sound parts.toList a.eval (aev sl) cells z.cells.toList cs (fun x => aev_sound hs x) (by simpa using hsz) (fun i hi u hu => hcs i hi u (by simpa using hu)) hset
        refine .read hs (v := .agg vs'.toArray) ?_ (mkAgg_sound (.agg _ _ (fun i => vs'.getD i undef) (by simpa using h2) (fun i hi => ?_) (fun i hi => ?_)))
        · have hm := run_mapM (P := P) (w := w) (fun f : Field => (do pure (f.offset, ← sizeOf f.type) : Sem (Nat × Nat))) (fun f => (tsize P f.type).map fun n => (f.offset, n))
            (fun f y hy => by
              simp only [Option.map_eq_some_iff] at hy
              obtain ⟨n, hn, rfl⟩ := hy
              simp [run_sizeOf' hn]) fs pl (tplaces_mapM _ _ hpl)
          have hpl' : (fun (i : Nat) => pl.toArray[i]?) = fun (i : Nat) => pl[i]? := by funext i; simp
          simp only [Array.toArray_toList] at h1
          simp only [execOp, ho, Instr.build, Sem.run_bind, zeroValue, typeInfo, run_program, Result.andThen_ok, hi, Sem.run_pure, hzz, run_underlying hu, hm, hpl']
          have hmap : (Array.map (fun x => (x.1, a.eval x.2)) parts).toList = parts.toList.map fun x => (x.1, a.eval x.2) := by simp
          rw [hmap, h1]
          rfl
        · have : i < vs'.length := by omega
          have hx : vs'[i]? = some (vs'.getD i undef) := by simp [this]
          exact ⟨by simpa using hx, (h3 i hi _ hx).2⟩
        · have : i < vs'.length := by omega
          have hx : vs'[i]? = some (vs'.getD i undef) := by simp [this]
          exact (h3 i hi _ hx).1
      · cases h
    · cases h
  · cases h
end
end Go.Ab
