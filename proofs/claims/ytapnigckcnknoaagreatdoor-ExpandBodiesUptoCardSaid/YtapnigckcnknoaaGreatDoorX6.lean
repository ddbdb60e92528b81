/-
  One text of the proof (own work): contracts of functions of the program, by the abstract machine.
-/
import Derived.Maps.AppendAt
import Derived.Test.YtapnigckcnknoaaGreatDoorX5
set_option linter.unusedVariables false
set_option linter.unusedSimpArgs false
namespace Go.Ab
open Go Go.RowKit
theorem run_mapM_list {α β : Type} {P : Program} {w : World} (f : α → Sem β) (g : α → Option β) (hf : ∀ x y, g x = some y → (f x).run P w = .ok y w) :
    ∀ (l : List α) (r : List β), l.mapM g = some r → (l.mapM f).run P w = .ok r w
  | [], r, h => by simp at h; subst h; simp
  | x :: l, r, h => by
    simp only [List.mapM_cons, Option.bind_eq_bind, Option.bind_eq_some_iff, Option.pure_def, Option.some.injEq] at h
    obtain ⟨y, hy, r', hr, rfl⟩ := h
    simp [List.mapM_cons, hf x y hy, run_mapM_list f g hf l r' hr]
theorem run_mapM {α β : Type} {P : Program} {w : World} (f : α → Sem β) (g : α → Option β) (hf : ∀ x y, g x = some y → (f x).run P w = .ok y w) (a : Array α) (r : List β) (h : a.toList.mapM g = some r) :
    (a.mapM f).run P w = .ok r.toArray w := by
  have h1 := run_mapM_list f g hf a.toList r h
  rw [Array.mapM_eq_mapM_toList]
  simp [h1]
theorem tplaces_mapM {P : Program} : ∀ (fs : List Field) (l : List (Nat × Nat)), tplaces P fs = some l → fs.mapM (fun f => (tsize P f.type).map fun n => (f.offset, n)) = some l
  | [], l, h => by simp only [tplaces, Option.some.injEq] at h; subst h; simp
  | f :: r, l, h => by
    simp only [tplaces] at h
    split at h
    · rename_i n l' h1 h2
      simp only [Option.some.injEq] at h
      subst h
      simp [List.mapM_cons, h1, tplaces_mapM r l' h2]
    · cases h
section
variable {P : Program} {c : Ctx} {H H' : Heap} {θ θ' : Nat → Value} {w w' : World} {sl : List AV} {a : Act} {o : Oper} {r : AV}
theorem fill_step (off : Nat) (vc cells : List Value) (h : off + vc.length ≤ cells.length) :
    vc.zipIdx.foldl (fun (cs : Array Value) (x : Value × Nat) => cs.setIfInBounds (off + x.2) x.1) cells.toArray = (over off vc cells).toArray := by
  have key : ∀ (vc : List Value) (k : Nat) (cells : List Value), off + k + vc.length ≤ cells.length →
      (vc.zipIdx k).foldl (fun (cs : Array Value) (x : Value × Nat) => cs.setIfInBounds (off + x.2) x.1) cells.toArray = (over (off + k) vc cells).toArray := by
    intro vc
    induction vc with
    | nil => intro k cells _; simp [over]
    | cons x vc ih =>
      intro k cells hl
      simp only [List.length_cons] at hl
      simp only [List.zipIdx_cons, List.foldl_cons, List.setIfInBounds_toArray]
      rw [ih (k + 1) (cells.set (off + k) x) (by simp; omega)]
      congr 1
      apply List.ext_getElem?
      intro i
      rw [over_get (by simp; omega), over_get (by simp; omega), List.getElem?_set]
      simp only [List.length_cons]
      by_cases c1 : i < off + k
      · rw [if_pos (by omega), if_pos c1, if_neg (by omega)]
      · rw [if_neg c1]
        by_cases c2 : i = off + k
        · subst c2
          rw [if_pos (by omega), if_pos rfl, if_pos (by omega), if_pos (by omega)]
          simp
        · rw [if_neg (show ¬ i < off + (k + 1) by omega)]
          by_cases c3 : i < off + (k + 1) + vc.length
          · rw [if_pos c3, if_pos (by omega), show i - (off + k) = (i - (off + (k + 1))) + 1 from by omega, List.getElem?_cons_succ]
          · rw [if_neg c3, if_neg (by omega), if_neg (by omega)]
  have := key vc 0 cells (by omega)
  simpa using this
theorem fill_sound {place : Nat → Option (Nat × Nat)} {B : Nat → Prop} : ∀ (parts : List (Nat × Operand)) (vals : Operand → Value) (avs : Operand → AV) (cells : List AV) (vs : List Value) (cs : List AV),
    (∀ x, VR H θ w B (avs x) (vals x)) → vs.length = cells.length → (∀ i (hi : i < cells.length) u, vs[i]? = some u → VR H θ w B (cells[i]) u ∧ u.oneCell' = true) →
    setCells cells place (parts.map fun (i, x) => (i, avs x)) = some cs →
    ∃ vs' : List Value, Instr.fill place vs.toArray (parts.map fun (i, x) => (i, vals x)) = some vs'.toArray ∧ vs'.length = cs.length ∧ ∀ i (hi : i < cs.length) u, vs'[i]? = some u → VR H θ w B (cs[i]) u ∧ u.oneCell' = true
  | [], vals, avs, cells, vs, cs, hx, hl, hv, h => by
    simp only [List.map_nil, setCells, Option.some.injEq] at h
    subst h
    exact ⟨vs, rfl, hl, hv⟩
  | (i, x) :: parts, vals, avs, cells, vs, cs, hx, hl, hv, h => by
    simp only [List.map_cons, setCells] at h
    split at h
    · rename_i off size xs hp hc
      split at h
      · rename_i hsz
        split at h
        · rename_i cells' hlay
          obtain ⟨hz, hxs⟩ := cells_sound (hx x) hc
          obtain ⟨hfit, rfl⟩ := lay_some hlay
          have hcond : ((vals x).cells.size ≠ size || decide (off + (vals x).cells.size > vs.toArray.size)) = false := by
            simp only [List.size_toArray, hz, hsz, hl]
            simp
            omega
          have hstep := fill_step off (vals x).cells.toList vs (by simp only [Array.length_toList]; omega)
          obtain ⟨vs', h1, h2, h3⟩ := fill_sound parts vals avs (over off xs cells) (over off (vals x).cells.toList vs) cs hx
            (by rw [over_length (by simp only [Array.length_toList]; omega), over_length hfit, hl])
            (fun j hj u hu => by
              rw [over_get (by simp only [Array.length_toList]; omega)] at hu
              have hj' : j < cells.length := by rw [over_length hfit] at hj; exact hj
              have hx' : (over off xs cells)[j]? = some (over off xs cells)[j] := List.getElem?_eq_getElem hj
              rw [over_get hfit] at hx'
              simp only [Array.length_toList, hz] at hu
              by_cases c1 : j < off
              · rw [if_pos c1] at hu hx'
                rw [List.getElem?_eq_getElem hj', Option.some.injEq] at hx'
                rw [← hx']
                exact hv j hj' u hu
              · rw [if_neg c1] at hu hx'
                by_cases c2 : j < off + xs.length
                · rw [if_pos c2] at hu hx'
                  rw [List.getElem?_eq_getElem (show j - off < xs.length by omega), Option.some.injEq] at hx'
                  rw [← hx']
                  exact hxs (j - off) (by omega) u (by simpa using hu)
                · rw [if_neg c2] at hu hx'
                  rw [List.getElem?_eq_getElem hj', Option.some.injEq] at hx'
                  rw [← hx']
                  exact hv j hj' u hu) h
          refine ⟨vs', ?_, h2, h3⟩
          simp only [List.map_cons, Instr.fill, hp]
          rw [if_neg (by rw [hcond]; simp)]
          rw [← h1]
          congr 1
          rw [← hstep]
          rw [← Array.foldl_toList, Array.toList_zipIdx]
        · cases h
      · cases h
    · cases h
theorem y_build (hs : St c H θ w sl a) {t : TypeId} {parts : Array (Nat × Operand)} {y : AV} (ho : o.op = .build t parts) (h : abuild P t (parts.toList.map fun (i, x) => (i, aev sl x)) = some y) : Yields P c o a w sl H θ y H := by
  unfold abuild at h
  split at h
  · rename_i fs z hu hz
    split at h
    · rename_i cells pl hc hpl
      split at h
      · rename_i cs hset
        simp only [Option.some.injEq] at h
        subst h
        have hz' := hz
        simp only [tzero, Option.bind_eq_some_iff] at hz'
        obtain ⟨i, hi, hzz⟩ := hz'
        obtain ⟨hsz, hcs⟩ := cells_sound (cav_sound (H := H) (θ := θ) (w := w) (B := vis c H θ w) z) hc
        obtain ⟨vs', h1, h2, h3⟩ := fill_sound parts.toList a.eval (aev sl) cells z.cells.toList cs (fun x => aev_sound hs x) (by simpa using hsz) (fun i hi u hu => hcs i hi u (by simpa using hu)) hset
        refine .read hs (v := .agg vs'.toArray) ?_ (mkAgg_sound (.agg _ _ (fun i => vs'.getD i undef) (by simpa using h2) (fun i hi => ?_) (fun i hi => ?_)))
        · have hm := run_mapM (P := P) (w := w) (fun f : Field => (do pure (f.offset, ← sizeOf f.type) : Sem (Nat × Nat))) (fun f => (tsize P f.type).map fun n => (f.offset, n))
            (fun f y hy => by
              simp only [Option.map_eq_some_iff] at hy
              obtain ⟨n, hn, rfl⟩ := hy
              simp [run_sizeOf' hn]) fs pl (tplaces_mapM _ _ hpl)
          have hpl' : (fun (i : Nat) => pl.toArray[i]?) = fun (i : Nat) => pl[i]? := by funext i; simp
          simp only [Array.toArray_toList] at h1
          simp only [execOp, ho, Instr.build, Sem.run_bind, zeroValue, typeInfo, run_program, Result.andThen_ok, hi, Sem.run_pure, hzz, run_underlying hu, hm, hpl']
          have hmap : (Array.map (fun x => (x.1, a.eval x.2)) parts).toList = parts.toList.map fun x => (x.1, a.eval x.2) := by simp
          rw [hmap, h1]
          rfl
        · have : i < vs'.length := by omega
          have hx : vs'[i]? = some (vs'.getD i undef) := by simp [this]
          exact ⟨by simpa using hx, (h3 i hi _ hx).2⟩
        · have : i < vs'.length := by omega
          have hx : vs'[i]? = some (vs'.getD i undef) := by simp [this]
          exact (h3 i hi _ hx).1
      · cases h
    · cases h
  · cases h
end
end Go.Ab
namespace Go.Ab
open Go Go.RowKit
section
variable {P : Program} {c : Ctx} {H H' : Heap} {θ θ' : Nat → Value} {w w' : World} {sl : List AV} {a : Act} {o : Oper} {r : AV}
theorem ownsRow_blk {w : World} {base : Nat} {e : TypeId} {sz n : Nat} {v : Value} {xs : List Value} (h : ownsM w base e sz v n xs) {b : Nat} (hb : blk v = some b) : base ≤ b := by
  rcases h.2 with ⟨rfl, _⟩ | ⟨g, cap, cur, rfl, h2, h3⟩
  · simp [blk] at hb
  · simp [blk] at hb; omega
theorem blk_ownBlock {w : World} {base : Nat} {e : TypeId} {sz n : Nat} {v : Value} {xs : List Value} (h : ownsM w base e sz v n xs) : blk v = v.ownBlock := by
  rcases h.2 with ⟨rfl, _⟩ | ⟨g, cap, cur, rfl, h2, h3⟩ <;> rfl
theorem add_row (hs : St c H θ w sl a) {k : Nat} (hk : ¬ H.ref k) {e : TypeId} {sz : Nat} {l : List D} {vs : List Value} {v : Value} (hsz : 0 < sz) (hcl : ∀ d ∈ l, d.cells.length = sz) (hone : ∀ d ∈ flat l, d.one = true)
    (hown : ownsM w' w.heap.size e sz v l.length vs) (hd : ∀ i (hi : i < (flat l).length) u, vs[i]? = some u → DR w (vis c H θ w) ((flat l)[i]) u)
    (hw : ∀ b, b < w.heap.size → w'.heap[b]? = w.heap[b]?) (hz : w.heap.size ≤ w'.heap.size) :
    ∃ θ', VR (H.set k (.row e sz l)) θ' w' (vis c (H.set k (.row e sz l)) θ' w') (.row k l.length) v ∧ St c (H.set k (.row e sz l)) θ' w' sl a ∧ HLe H θ (H.set k (.row e sz l)) θ' := by
  have h := hs.add (w' := w') (k := k) (x := .row e sz l) (val := v) hk hw hz (fun b hb => ownsRow_blk hown hb)
    (fun hvr => ⟨hsz, hcl, hone, vs, ownsRow_base hown (Nat.zero_le _), fun b hb => .inl (Nat.le_trans hs.sim.size (ownsRow_blk hown hb)), fun i hi u hu => (hvr (.data _) u (.data _ _ (hd i hi u hu))).data_inv⟩)
  refine ⟨_, .row k _ v (ownsRow_one hown) (.inr (by rw [Heap.get_set, if_pos rfl]; rfl)) (fun x' m' hx' hm' => ?_), h.1, h.2.2⟩
  rw [Heap.get_set, if_pos rfl] at hx'
  cases hx'
  cases hm'
  exact ⟨Nat.le_refl _, fun _ => by simp [updθ]⟩
theorem add_arr (hs : St c H θ w sl a) {k : Nat} (hk : ¬ H.ref k) {e : TypeId} {sz n : Nat} {cs : List AV} {vs : List Value} {v : Value} (hsz : 0 < sz) (hcl : cs.length = n * sz)
    (hown : ownsM w' w.heap.size e sz v n vs) (hd : ∀ i (hi : i < cs.length) u, vs[i]? = some u → VR H θ w (vis c H θ w) (cs[i]) u ∧ u.oneCell' = true)
    (hw : ∀ b, b < w.heap.size → w'.heap[b]? = w.heap[b]?) (hz : w.heap.size ≤ w'.heap.size) :
    ∃ θ', VR (H.set k (.arr e sz n cs)) θ' w' (vis c (H.set k (.arr e sz n cs)) θ' w') (.row k n) v ∧ St c (H.set k (.arr e sz n cs)) θ' w' sl a ∧ HLe H θ (H.set k (.arr e sz n cs)) θ' := by
  have h := hs.add (w' := w') (k := k) (x := .arr e sz n cs) (val := v) hk hw hz (fun b hb => ownsRow_blk hown hb)
    (fun hvr => ⟨hsz, hcl, vs, ownsRow_base hown (Nat.zero_le _), fun b hb => .inl (Nat.le_trans hs.sim.size (ownsRow_blk hown hb)), fun i hi u hu => ⟨hvr _ _ (hd i hi u hu).1, (hd i hi u hu).2⟩⟩)
  refine ⟨_, .row k _ v (ownsRow_one hown) (.inr (by rw [Heap.get_set, if_pos rfl]; rfl)) (fun x' m' hx' hm' => ?_), h.1, h.2.2⟩
  rw [Heap.get_set, if_pos rfl] at hx'
  cases hx'
  cases hm'
  exact ⟨Nat.le_refl _, fun _ => by simp [updθ]⟩
theorem plain_cells {B : Nat → Prop} {x : AV} {v : Value} {d : D} (hx : VR H θ w B x v) (h : x.plain = some d) (hone : d.cells.all D.one = true) :
    v.cells.size = d.cells.length ∧ ∀ i (hi : i < d.cells.length) u, v.cells[i]? = some u → DR w B (d.cells[i]) u ∧ u.oneCell' = true := by
  have hd := plain_sound hx h
  have hv : VR H θ w B (.data d) v := .data _ _ hd
  have hc : (AV.data d).cells = some (d.cells.map .data) := by
    cases d <;> simp_all [AV.cells, D.cells, D.one]
  obtain ⟨h1, h2⟩ := cells_sound hv hc
  simp only [List.length_map] at h1 h2
  refine ⟨h1, fun i hi u hu => ?_⟩
  have := h2 i hi u hu
  simp only [List.getElem_map] at this
  exact ⟨this.1.data_inv, this.2⟩
theorem fill_parts {B : Nat → Prop} {sz : Nat} : ∀ (parts : List (Nat × Operand)) (vals : Operand → Value) (avs : Operand → AV) (i : Nat) (vs : List Value) (ds : List D),
    (∀ x, VR H θ w B (avs x) (vals x)) → vs.length = (i + parts.length) * sz → partsD i sz (parts.map fun (i, x) => (i, avs x)) = some ds →
    ∃ vs' : List Value, Instr.fill (fun i => some (i * sz, sz)) vs.toArray (parts.map fun (i, x) => (i, vals x)) = some vs'.toArray ∧ vs'.length = vs.length ∧ ds.length = parts.length ∧ (∀ d ∈ ds, d.cells.length = sz) ∧ (∀ d ∈ flat ds, d.one = true) ∧
      (∀ j, j < i * sz → vs'[j]? = vs[j]?) ∧ ∀ j (hj : j < (flat ds).length) u, vs'[i * sz + j]? = some u → DR w B ((flat ds)[j]) u
  | [], vals, avs, i, vs, ds, hx, hl, h => by
    simp only [List.map_nil, partsD, Option.some.injEq] at h
    subst h
    exact ⟨vs, rfl, rfl, rfl, by simp, by simp [flat], fun j _ => rfl, fun j hj => by simp [flat] at hj⟩
  | (i', x) :: parts, vals, avs, i, vs, ds, hx, hl, h => by
    simp only [List.map_cons, partsD] at h
    split at h
    · rename_i hi
      subst hi
      split at h
      · rename_i d hd
        split at h
        · rename_i hds
          split at h
          · rename_i ds' hds'
            simp only [Option.some.injEq] at h
            subst h
            obtain ⟨hz, hcs⟩ := plain_cells (hx x) hd hds.2
            simp only [List.length_cons] at hl
            have hls : vs.length = (i + 1 + parts.length) * sz := by rw [hl]; congr 1; omega
            have hsplit : (i + 1 + parts.length) * sz = i * sz + sz + parts.length * sz := by rw [Nat.add_mul, Nat.add_mul, Nat.one_mul]
            have hfit : i * sz + (vals x).cells.toList.length ≤ vs.length := by simp only [Array.length_toList, hz, hds.1]; omega
            obtain ⟨vs', h1, h2, h3, h4, h5, h6, h7⟩ := fill_parts parts vals avs (i + 1) (over (i * sz) (vals x).cells.toList vs) ds' hx (by rw [over_length hfit, hls]) hds'
            have hstep := fill_step (i * sz) (vals x).cells.toList vs hfit
            have hcond : ((vals x).cells.size ≠ sz || decide (i * sz + (vals x).cells.size > vs.toArray.size)) = false := by
              simp only [List.size_toArray, hz, hds.1]
              simp
              omega
            rw [over_length hfit] at h2
            refine ⟨vs', ?_, h2, by simp [h3], fun y hy => ?_, fun y hy => ?_, fun j hj => ?_, fun j hj u hu => ?_⟩
            · simp only [List.map_cons, Instr.fill]
              rw [if_neg (by rw [hcond]; simp), ← h1]
              congr 1
              rw [← hstep]
              rw [← Array.foldl_toList, Array.toList_zipIdx]
            · rcases List.mem_cons.1 hy with rfl | hy
              · exact hds.1
              · exact h4 y hy
            · rw [flat_cons, List.mem_append] at hy
              rcases hy with hy | hy
              · exact List.all_eq_true.1 hds.2 y hy
              · exact h5 y hy
            · rw [h6 j (by rw [Nat.succ_mul]; omega), over_get hfit, if_pos hj]
            · have hsm : (i + 1) * sz = i * sz + sz := Nat.succ_mul _ _
              by_cases c1 : j < sz
              · have hj1 : j < d.cells.length := by omega
                rw [h6 _ (by omega), over_get hfit, if_neg (by omega), if_pos (by simp only [Array.length_toList, hz]; omega), show i * sz + j - i * sz = j from by omega] at hu
                have := (hcs j hj1 u (by simpa using hu)).1
                have e : (flat (d :: ds'))[j] = d.cells[j] := by
                  simp only [flat_cons]
                  rw [List.getElem_append_left hj1]
                rw [e]
                exact this
              · have hj2 : j - sz < (flat ds').length := by rw [flat_cons, List.length_append, hds.1] at hj; omega
                have e : (flat (d :: ds'))[j] = (flat ds')[j - sz] := by
                  simp only [flat_cons]
                  rw [List.getElem_append_right (by omega)]
                  congr 1
                  omega
                rw [e]
                refine h7 (j - sz) hj2 u ?_
                rw [hsm, show i * sz + sz + (j - sz) = i * sz + j from by omega]
                exact hu
          · cases h
        · cases h
      · cases h
    · cases h
theorem y_buildSlice (hs : St c H θ w sl a) {k : Nat} (hk : ¬ H.ref k) {t : TypeId} {len : Nat} {parts : Array (Nat × Operand)} (ho : o.op = .buildSlice t len parts)
    (h : abuildSlice P k H t len (parts.toList.map fun (i, x) => (i, aev sl x)) = some (r, H')) : Yields P c o a w sl H θ r H' := by
  unfold abuildSlice at h
  split at h
  · rename_i e ht
    split at h
    · rename_i sz z hsz hz
      split at h
      · rename_i hlen
        split at h
        · rename_i ds hds
          simp only [Option.some.injEq, Prod.mk.injEq] at h
          obtain ⟨rfl, rfl⟩ := h
          obtain ⟨hl1, hl2⟩ := hlen
          simp only [List.length_map, Array.length_toList] at hl1
          have hz' := hz
          simp only [tzero, Option.bind_eq_some_iff] at hz'
          obtain ⟨i, hi, hzz⟩ := hz'
          have fillAll : ∀ (z : Array Value), z.size = len * (sz + 1) → ∃ vs' : List Value, Instr.fill (fun i => some (i * (sz + 1), sz + 1)) z (parts.toList.map fun (i, x) => (i, a.eval x)) = some vs'.toArray ∧ vs'.length = len * (sz + 1) ∧ ds.length = len ∧ (∀ d ∈ ds, d.cells.length = sz + 1) ∧ (∀ d ∈ flat ds, d.one = true) ∧
              ∀ j (hj : j < (flat ds).length) u, vs'[j]? = some u → DR w (vis c H θ w) ((flat ds)[j]) u := by
            intro z hz
            obtain ⟨vs', h1, h2, h3, h4, h5, _, h7⟩ := fill_parts parts.toList a.eval (aev sl) 0 z.toList ds (fun x => aev_sound hs x) (by simp [hz, hl1]) hds
            refine ⟨vs', by simpa using h1, by simpa [hz] using h2, by simpa [hl1] using h3, h4, h5, fun j hj u hu => h7 j hj u (by simpa using hu)⟩
          have hmap : (Array.map (fun x => (x.1, a.eval x.2)) parts).toList = parts.toList.map fun x => (x.1, a.eval x.2) := by simp
          have hng : ¬ len * (sz + 1) > 2 ^ 24 := by simp; omega
          have run : ∃ vs' : List Value, (execOp a.eval o).run P w = .ok (.value (.slice (some ⟨w.heap.size, 0, none⟩) len len)) (w.alloc (.cells vs'.toArray e)) ∧ vs'.length = len * (sz + 1) ∧ ds.length = len ∧ (∀ d ∈ ds, d.cells.length = sz + 1) ∧ (∀ d ∈ flat ds, d.one = true) ∧
              ∀ j (hj : j < (flat ds).length) u, vs'[j]? = some u → DR w (vis c H θ w) ((flat ds)[j]) u := by
            by_cases h0 : len * (sz + 1) = 0
            · obtain ⟨vs', h1, h2⟩ := fillAll ((Array.range (len * (sz + 1))).map ((#[] : Array Value)[· % (#[] : Array Value).size]!)) (by simp)
              refine ⟨vs', ?_, h2⟩
              simp only [execOp, ho, Instr.buildSlice, Sem.run_bind, run_underlying (telem_some ht), Result.andThen_ok, run_sizeOf' hsz, hng, if_false, Nat.succ_eq_add_one, Sem.run_ite, if_pos h0, Sem.run_pure, hmap, h1, newRow, run_newObj, World.alloc_eq]
            · obtain ⟨vs', h1, h2⟩ := fillAll ((Array.range (len * (sz + 1))).map (z.cells[· % z.cells.size]!)) (by simp)
              refine ⟨vs', ?_, h2⟩
              simp only [execOp, ho, Instr.buildSlice, Sem.run_bind, run_underlying (telem_some ht), Result.andThen_ok, run_sizeOf' hsz, hng, if_false, Nat.succ_eq_add_one, Sem.run_ite, if_neg h0, Sem.run_pure, zeroValue, typeInfo, run_program, hi, hzz, hmap, h1, newRow, run_newObj, World.alloc_eq]
          obtain ⟨vs', hr, h2, h3, h4, h5, h6⟩ := run
          have hlm : len ≤ maxLen := by
            have : len ≤ len * (sz + 1) := Nat.le_mul_of_pos_right _ (by omega)
            simp only [maxLen]
            omega
          have hown := ownsM_lit (e := e) (sz := sz + 1) (base := w.heap.size) w vs'.toArray len (Nat.le_refl _) hlm (by simpa using h2)
          rw [← h3] at hown
          obtain ⟨θ', g1, g2, g3⟩ := add_row (w' := w.alloc (.cells vs'.toArray e)) hs hk (by omega) h4 h5 hown h6 (fun b hb => Below.heap_alloc w _ b hb) (by simp)
          rw [h3] at g1 hown
          exact .value hr g1 g2 ⟨rfl, rfl, rfl, by simp, fun b hb _ => Below.heap_alloc w _ b (Nat.lt_of_lt_of_le hb hs.sim.size)⟩ g3
        · cases h
      · cases h
    · cases h
  · cases h
theorem replicate_flat {d : D} {n : Nat} (i : Nat) (hi : i < (flat (List.replicate n d)).length) (hd : 0 < d.cells.length) : ∃ h : i % d.cells.length < d.cells.length, (flat (List.replicate n d))[i] = d.cells[i % d.cells.length] := by
  refine ⟨Nat.mod_lt _ hd, ?_⟩
  have hall : ∀ x ∈ List.replicate n d, x.cells.length = d.cells.length := fun x hx => by rw [List.eq_of_mem_replicate hx]
  have hl := flat_length hall
  have hlt : i / d.cells.length < n := by
    rw [hl, List.length_replicate] at hi
    exact Nat.div_lt_of_lt_mul (by rw [Nat.mul_comm]; exact hi)
  obtain ⟨h1, h2, h3⟩ := flat_getElem hall (i := i / d.cells.length) (j := i % d.cells.length) (d := d) (by simp [hlt]) (Nat.mod_lt _ hd)
  have e : i / d.cells.length * d.cells.length + i % d.cells.length = i := by rw [Nat.mul_comm]; exact Nat.div_add_mod _ _
  simp only [e] at h3
  exact h3
theorem y_make (hs : St c H θ w sl a) {k : Nat} (hk : ¬ H.ref k) {t : TypeId} {x y : Operand} (ho : o.op = .makeSlice t x y) (h : amake P k H t (aev sl x) (aev sl y) = some (r, H')) : Yields P c o a w sl H θ r H' := by
  have hx := aev_sound hs x
  have hy := aev_sound hs y
  unfold amake at h
  split at h
  · rename_i e k1 n k2 m ht hxn hym
    rw [hxn] at hx
    rw [hym] at hy
    have hx' := hx.data_inv.int_eq
    have hy' := hy.data_inv.int_eq
    split at h
    · rename_i sz b z hsz hby hz
      split at h
      · rename_i d hd
        split at h
        · rename_i hc
          obtain ⟨rfl, hn0, hbytes, hmax, hdl, hdo⟩ := hc
          simp only [Option.some.injEq, Prod.mk.injEq] at h
          obtain ⟨rfl, rfl⟩ := h
          obtain ⟨N, rfl⟩ := Int.eq_ofNat_of_zero_le hn0
          simp only [Int.toNat_natCast] at *
          simp only [tzero, Option.bind_eq_some_iff] at hz
          obtain ⟨i, hi, hzz⟩ := hz
          simp only [tsize, hi, Option.map_some, Option.some.injEq] at hsz
          simp only [tbytes, hi, Option.map_some, Option.some.injEq] at hby
          subst hby
          obtain ⟨w', hr, hown, hg⟩ := run_make_full (P := P) w w.heap.size t e i z (sz + 1) (telem_some ht) hi hzz hsz k1 k2 N hbytes hmax (Nat.le_refl _)
          replace hown := ownsM.of hown
          obtain ⟨hzc, hzd⟩ := plain_cells (cav_sound (H := H) (θ := θ) (w := w) (B := vis c H θ w) z) hd hdo
          have hall : ∀ y ∈ List.replicate N d, y.cells.length = sz + 1 := fun y hy => by rw [List.eq_of_mem_replicate hy]; exact hdl
          have hown' : ownsM w' w.heap.size e (sz + 1) (.slice (some ⟨w.heap.size, 0, none⟩) N N) (List.replicate N d).length (madeCells z.cells (N * (sz + 1))).toList := by simpa using hown
          obtain ⟨θ', g1, g2, g3⟩ := add_row (w' := w') hs hk (by omega) hall (fun y hy => by
              obtain ⟨j, hj, rfl⟩ := List.mem_iff_getElem.1 hy
              obtain ⟨h1, h2⟩ := replicate_flat j hj (by omega)
              rw [h2]
              exact List.all_eq_true.1 hdo _ (List.getElem_mem h1)) hown'
            (fun j hj u hu => by
              obtain ⟨h1, h2⟩ := replicate_flat j hj (by omega)
              rw [h2]
              have hlt : j < N * (sz + 1) := by rw [flat_length hall, List.length_replicate] at hj; exact hj
              simp only [madeCells, Array.toList_map, Array.toList_range, List.getElem?_map, List.getElem?_range hlt, Option.map_some, Option.some.injEq] at hu
              have h1' : j % z.cells.size < z.cells.size := by rw [hzc]; exact h1
              have e2 : z.cells[j % z.cells.size]? = some u := by
                rw [← hu]
                simp [h1']
              rw [hzc] at e2
              exact (hzd _ h1 u e2).1)
            (fun b hb => hg.block b hb (by simp)) hg.size
          simp only [List.length_replicate] at g1
          refine .value (v := .slice (some ⟨w.heap.size, 0, none⟩) N N) ?_ g1 g2 ⟨hg.os, hg.tape, hg.output, hg.size, fun b hb _ => hg.block b (Nat.lt_of_lt_of_le hb hs.sim.size) (by simp)⟩ g3
          simp only [execOp, ho, hx', hy', Sem.run_bind]
          have := hr
          simp only [this, Result.andThen_ok, Sem.run_pure]
        · cases h
      · cases h
    · cases h
  · cases h
theorem fill_partsA {B : Nat → Prop} {sz : Nat} : ∀ (parts : List (Nat × Operand)) (vals : Operand → Value) (avs : Operand → AV) (i : Nat) (vs : List Value) (cs : List AV),
    (∀ x, VR H θ w B (avs x) (vals x)) → vs.length = (i + parts.length) * sz → partsA i sz (parts.map fun (i, x) => (i, avs x)) = some cs →
    ∃ vs' : List Value, Instr.fill (fun i => some (i * sz, sz)) vs.toArray (parts.map fun (i, x) => (i, vals x)) = some vs'.toArray ∧ vs'.length = vs.length ∧ cs.length = parts.length * sz ∧
      (∀ j, j < i * sz → vs'[j]? = vs[j]?) ∧ ∀ j (hj : j < cs.length) u, vs'[i * sz + j]? = some u → VR H θ w B (cs[j]) u ∧ u.oneCell' = true
  | [], vals, avs, i, vs, cs, hx, hl, h => by
    simp only [List.map_nil, partsA, Option.some.injEq] at h
    subst h
    exact ⟨vs, rfl, rfl, by simp, fun j _ => rfl, fun j hj => by simp at hj⟩
  | (i', x) :: parts, vals, avs, i, vs, cs, hx, hl, h => by
    simp only [List.map_cons, partsA] at h
    split at h
    · rename_i hi
      subst hi
      split at h
      · rename_i xs hxc
        split at h
        · rename_i hxl
          split at h
          · rename_i cs' hcs'
            simp only [Option.some.injEq] at h
            subst h
            obtain ⟨hz, hcs⟩ := cells_sound (hx x) hxc
            simp only [List.length_cons] at hl
            have hls : vs.length = (i + 1 + parts.length) * sz := by rw [hl]; congr 1; omega
            have hsplit : (i + 1 + parts.length) * sz = i * sz + sz + parts.length * sz := by rw [Nat.add_mul, Nat.add_mul, Nat.one_mul]
            have hfit : i * sz + (vals x).cells.toList.length ≤ vs.length := by simp only [Array.length_toList, hz, hxl]; omega
            obtain ⟨vs', h1, h2, h3, h6, h7⟩ := fill_partsA parts vals avs (i + 1) (over (i * sz) (vals x).cells.toList vs) cs' hx (by rw [over_length hfit, hls]) hcs'
            have hstep := fill_step (i * sz) (vals x).cells.toList vs hfit
            have hcond : ((vals x).cells.size ≠ sz || decide (i * sz + (vals x).cells.size > vs.toArray.size)) = false := by
              simp only [List.size_toArray, hz, hxl]
              simp
              omega
            rw [over_length hfit] at h2
            refine ⟨vs', ?_, h2, by rw [List.length_append, h3, hxl, List.length_cons, Nat.succ_mul]; omega, fun j hj => ?_, fun j hj u hu => ?_⟩
            · simp only [List.map_cons, Instr.fill]
              rw [if_neg (by rw [hcond]; simp), ← h1]
              congr 1
              rw [← hstep]
              rw [← Array.foldl_toList, Array.toList_zipIdx]
            · rw [h6 j (by rw [Nat.succ_mul]; omega), over_get hfit, if_pos hj]
            · have hsm : (i + 1) * sz = i * sz + sz := Nat.succ_mul _ _
              by_cases c1 : j < sz
              · have hj1 : j < xs.length := by omega
                rw [h6 _ (by omega), over_get hfit, if_neg (by omega), if_pos (by simp only [Array.length_toList, hz]; omega), show i * sz + j - i * sz = j from by omega] at hu
                have := hcs j hj1 u (by simpa using hu)
                rw [List.getElem_append_left hj1]
                exact this
              · have hj2 : j - sz < cs'.length := by rw [List.length_append, hxl] at hj; omega
                have e : (xs ++ cs')[j] = cs'[j - sz] := by
                  rw [List.getElem_append_right (by omega)]
                  congr 1
                  omega
                rw [e]
                refine h7 (j - sz) hj2 u ?_
                rw [hsm, show i * sz + sz + (j - sz) = i * sz + j from by omega]
                exact hu
          · cases h
        · cases h
      · cases h
    · cases h
theorem y_buildArr (hs : St c H θ w sl a) {k : Nat} (hk : ¬ H.ref k) {t : TypeId} {len : Nat} {parts : Array (Nat × Operand)} (ho : o.op = .buildSlice t len parts)
    (h : abuildArr P k H t len (parts.toList.map fun (i, x) => (i, aev sl x)) = some (r, H')) : Yields P c o a w sl H θ r H' := by
  unfold abuildArr at h
  split at h
  · rename_i e ht
    split at h
    · rename_i sz z hsz hz
      split at h
      · rename_i hlen
        split at h
        · rename_i ds hds
          simp only [Option.some.injEq, Prod.mk.injEq] at h
          obtain ⟨rfl, rfl⟩ := h
          obtain ⟨hl1, hl2⟩ := hlen
          simp only [List.length_map, Array.length_toList] at hl1
          have hz' := hz
          simp only [tzero, Option.bind_eq_some_iff] at hz'
          obtain ⟨i, hi, hzz⟩ := hz'
          have fillAll : ∀ (z : Array Value), z.size = len * (sz + 1) → ∃ vs' : List Value, Instr.fill (fun i => some (i * (sz + 1), sz + 1)) z (parts.toList.map fun (i, x) => (i, a.eval x)) = some vs'.toArray ∧ vs'.length = len * (sz + 1) ∧ ds.length = len * (sz + 1) ∧
              ∀ j (hj : j < ds.length) u, vs'[j]? = some u → VR H θ w (vis c H θ w) (ds[j]) u ∧ u.oneCell' = true := by
            intro z hz
            obtain ⟨vs', h1, h2, h3, _, h7⟩ := fill_partsA parts.toList a.eval (aev sl) 0 z.toList ds (fun x => aev_sound hs x) (by simp [hz, hl1]) hds
            refine ⟨vs', by simpa using h1, by simpa [hz] using h2, by simpa [hl1] using h3, fun j hj u hu => h7 j hj u (by simpa using hu)⟩
          have hmap : (Array.map (fun x => (x.1, a.eval x.2)) parts).toList = parts.toList.map fun x => (x.1, a.eval x.2) := by simp
          have hng : ¬ len * (sz + 1) > 2 ^ 24 := by simp; omega
          have run : ∃ vs' : List Value, (execOp a.eval o).run P w = .ok (.value (.slice (some ⟨w.heap.size, 0, none⟩) len len)) (w.alloc (.cells vs'.toArray e)) ∧ vs'.length = len * (sz + 1) ∧ ds.length = len * (sz + 1) ∧
              ∀ j (hj : j < ds.length) u, vs'[j]? = some u → VR H θ w (vis c H θ w) (ds[j]) u ∧ u.oneCell' = true := by
            by_cases h0 : len * (sz + 1) = 0
            · obtain ⟨vs', h1, h2⟩ := fillAll ((Array.range (len * (sz + 1))).map ((#[] : Array Value)[· % (#[] : Array Value).size]!)) (by simp)
              refine ⟨vs', ?_, h2⟩
              simp only [execOp, ho, Instr.buildSlice, Sem.run_bind, run_underlying (telem_some ht), Result.andThen_ok, run_sizeOf' hsz, hng, if_false, Nat.succ_eq_add_one, Sem.run_ite, if_pos h0, Sem.run_pure, hmap, h1, newRow, run_newObj, World.alloc_eq]
            · obtain ⟨vs', h1, h2⟩ := fillAll ((Array.range (len * (sz + 1))).map (z.cells[· % z.cells.size]!)) (by simp)
              refine ⟨vs', ?_, h2⟩
              simp only [execOp, ho, Instr.buildSlice, Sem.run_bind, run_underlying (telem_some ht), Result.andThen_ok, run_sizeOf' hsz, hng, if_false, Nat.succ_eq_add_one, Sem.run_ite, if_neg h0, Sem.run_pure, zeroValue, typeInfo, run_program, hi, hzz, hmap, h1, newRow, run_newObj, World.alloc_eq]
          obtain ⟨vs', hr, h2, h3, h6⟩ := run
          have hlm : len ≤ maxLen := by
            have : len ≤ len * (sz + 1) := Nat.le_mul_of_pos_right _ (by omega)
            simp only [maxLen]
            omega
          have hown := ownsM_lit (e := e) (sz := sz + 1) (base := w.heap.size) w vs'.toArray len (Nat.le_refl _) hlm (by simpa using h2)
          obtain ⟨θ', g1, g2, g3⟩ := add_arr (w' := w.alloc (.cells vs'.toArray e)) hs hk (by omega) h3 hown h6 (fun b hb => Below.heap_alloc w _ b hb) (by simp)
          exact .value hr g1 g2 ⟨rfl, rfl, rfl, by simp, fun b hb _ => Below.heap_alloc w _ b (Nat.lt_of_lt_of_le hb hs.sim.size)⟩ g3
        · cases h
      · cases h
    · cases h
  · cases h
theorem arrRep_spec {n : Nat} {zc : List AV} {sz : Nat} (hl : zc.length = sz) (h0 : 0 < sz) : (arrRep n zc).length = n * sz ∧ ∀ j (hj : j < (arrRep n zc).length), ∃ h : j % sz < zc.length, (arrRep n zc)[j] = zc[j % sz] := by
  have gen : ∀ n, ((List.replicate n zc).flatten).length = n * sz ∧ ∀ j (hj : j < ((List.replicate n zc).flatten).length), ∃ h : j % sz < zc.length, ((List.replicate n zc).flatten)[j] = zc[j % sz] := by
    intro n
    induction n with
    | zero => exact ⟨by simp, fun j hj => by simp at hj⟩
    | succ n ih =>
      obtain ⟨i1, i2⟩ := ih
      have e : (List.replicate (n + 1) zc).flatten = zc ++ (List.replicate n zc).flatten := by simp [List.replicate_succ]
      refine ⟨by rw [e, List.length_append, i1, hl, Nat.succ_mul]; omega, fun j hj => ?_⟩
      simp only [e] at hj ⊢
      by_cases c1 : j < zc.length
      · rw [List.getElem_append_left c1]
        have : j % sz = j := Nat.mod_eq_of_lt (by omega)
        refine ⟨by omega, ?_⟩
        congr 1
        exact this.symm
      · rw [List.getElem_append_right (by omega)]
        have hj' : j - zc.length < ((List.replicate n zc).flatten).length := by rw [List.length_append] at hj; omega
        obtain ⟨h1, h2⟩ := i2 _ hj'
        have h3 : (j - zc.length) % sz = j % sz := by
          rw [hl]
          conv => rhs; rw [show j = (j - sz) + sz from by omega]
          rw [Nat.add_mod_right]
        refine ⟨by omega, ?_⟩
        rw [h2]
        congr 1
  unfold arrRep
  split
  · rename_i x
    simp only [List.length_singleton] at hl
    subst hl
    refine ⟨by simp, fun j hj => ⟨by simp [Nat.mod_one], ?_⟩⟩
    simp
  · exact gen n
theorem y_makeArr (hs : St c H θ w sl a) {k : Nat} (hk : ¬ H.ref k) {t : TypeId} {x y : Operand} (ho : o.op = .makeSlice t x y) (h : amakeArr P k H t (aev sl x) (aev sl y) = some (r, H')) : Yields P c o a w sl H θ r H' := by
  have hx := aev_sound hs x
  have hy := aev_sound hs y
  unfold amakeArr at h
  split at h
  · rename_i e k1 n k2 m ht hxn hym
    rw [hxn] at hx
    rw [hym] at hy
    have hx' := hx.data_inv.int_eq
    have hy' := hy.data_inv.int_eq
    split at h
    · rename_i sz b z hsz hby hz
      split at h
      · rename_i zc hd
        split at h
        · rename_i hc
          obtain ⟨rfl, hn0, hbytes, hmax, hdl⟩ := hc
          simp only [Option.some.injEq, Prod.mk.injEq] at h
          obtain ⟨rfl, rfl⟩ := h
          obtain ⟨N, rfl⟩ := Int.eq_ofNat_of_zero_le hn0
          simp only [Int.toNat_natCast] at *
          simp only [tzero, Option.bind_eq_some_iff] at hz
          obtain ⟨i, hi, hzz⟩ := hz
          simp only [tsize, hi, Option.map_some, Option.some.injEq] at hsz
          simp only [tbytes, hi, Option.map_some, Option.some.injEq] at hby
          subst hby
          obtain ⟨w', hr, hown, hg⟩ := run_make_full (P := P) w w.heap.size t e i z (sz + 1) (telem_some ht) hi hzz hsz k1 k2 N hbytes hmax (Nat.le_refl _)
          replace hown := ownsM.of hown
          obtain ⟨hzc, hzd⟩ := cells_sound (cav_sound (H := H) (θ := θ) (w := w) (B := vis c H θ w) z) hd
          obtain ⟨q1, q2⟩ := arrRep_spec (n := N) hdl (by omega)
          obtain ⟨θ', g1, g2, g3⟩ := add_arr (w' := w') hs hk (by omega) q1 hown
            (fun j hj u hu => by
              obtain ⟨h1, h2⟩ := q2 j hj
              rw [h2]
              have hlt : j < N * (sz + 1) := by omega
              simp only [madeCells, Array.toList_map, Array.toList_range, List.getElem?_map, List.getElem?_range hlt, Option.map_some, Option.some.injEq] at hu
              have h1' : j % z.cells.size < z.cells.size := by rw [hzc, hdl]; rw [hdl] at h1; exact h1
              have e2 : z.cells[j % z.cells.size]? = some u := by
                rw [← hu]
                simp [h1']
              rw [hzc, hdl] at e2
              exact hzd _ h1 u e2)
            (fun b hb => hg.block b hb (by simp)) hg.size
          refine .value (v := .slice (some ⟨w.heap.size, 0, none⟩) N N) ?_ g1 g2 ⟨hg.os, hg.tape, hg.output, hg.size, fun b hb _ => hg.block b (Nat.lt_of_lt_of_le hb hs.sim.size) (by simp)⟩ g3
          simp only [execOp, ho, hx', hy', Sem.run_bind]
          have := hr
          simp only [this, Result.andThen_ok, Sem.run_pure]
        · cases h
      · cases h
    · cases h
  · cases h
end
end Go.Ab
