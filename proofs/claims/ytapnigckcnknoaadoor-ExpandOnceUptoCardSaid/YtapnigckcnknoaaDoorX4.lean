/-
  One text of the proof (own work): contracts of functions of the program, by the abstract machine.
-/
import Derived.Maps.AppendAt
import Derived.Test.YtapnigckcnknoaaDoorX3
set_option linter.unusedVariables false
set_option linter.unusedSimpArgs false
namespace Go.Ab
open Go Go.RowKit
section
variable {P : Program} {c : Ctx} {H H' : Heap} {θ θ' : Nat → Value} {w w' : World} {sl : List AV} {a : Act} {o : Oper} {r : AV}
theorem ownsRow_blk {w : World} {base : Nat} {e : TypeId} {sz n : Nat} {v : Value} {xs : List Value} (h : ownsM w base e sz v n xs) {b : Nat} (hb : blk v = some b) : base ≤ b := by
  rcases h.2 with ⟨rfl, _⟩ | ⟨g, cap, cur, rfl, h2, h3⟩
  · simp [blk] at hb
  · simp [blk] at hb; omega
theorem blk_ownBlock {w : World} {base : Nat} {e : TypeId} {sz n : Nat} {v : Value} {xs : List Value} (h : ownsM w base e sz v n xs) : blk v = v.ownBlock := by
  rcases h.2 with ⟨rfl, _⟩ | ⟨g, cap, cur, rfl, h2, h3⟩ <;> rfl
theorem add_row (hs : St c H θ w sl a) {k : Nat} (hk : ¬ H.ref k) {e : TypeId} {sz : Nat} {l : List D} {vs : List Value} {v : Value} (hsz : 0 < sz) (hcl : ∀ d ∈ l, d.cells.length = sz) (hone : ∀ d ∈ flat l, d.one = true)
    (hown : ownsM w' w.heap.size e sz v l.length vs) (hd : ∀ i (hi : i < (flat l).length) u, vs[i]? = some u → DR w (vis c H θ w) ((flat l)[i]) u)
    (hw : ∀ b, b < w.heap.size → w'.heap[b]? = w.heap[b]?) (hz : w.heap.size ≤ w'.heap.size) :
    ∃ θ', VR (H.set k (.row e sz l)) θ' w' (vis c (H.set k (.row e sz l)) θ' w') (.row k l.length) v ∧ St c (H.set k (.row e sz l)) θ' w' sl a ∧ HLe H θ (H.set k (.row e sz l)) θ' := by
  have h := hs.add (w' := w') (k := k) (x := .row e sz l) (val := v) hk hw hz (fun b hb => ownsRow_blk hown hb)
    (fun hvr => ⟨hsz, hcl, hone, vs, ownsRow_base hown (Nat.zero_le _), fun b hb => .inl (Nat.le_trans hs.sim.size (ownsRow_blk hown hb)), fun i hi u hu => (hvr (.data _) u (.data _ _ (hd i hi u hu))).data_inv⟩)
  refine ⟨_, .row k _ v (ownsRow_one hown) (.inr (by rw [Heap.get_set, if_pos rfl]; rfl)) (fun x' m' hx' hm' => ?_), h.1, h.2.2⟩
  rw [Heap.get_set, if_pos rfl] at hx'
  cases hx'
  cases hm'
  exact ⟨Nat.le_refl _, fun _ => by simp [updθ]⟩
theorem add_arr (hs : St c H θ w sl a) {k : Nat} (hk : ¬ H.ref k) {e : TypeId} {sz n : Nat} {cs : List AV} {vs : List Value} {v : Value} (hsz : 0 < sz) (hcl : cs.length = n * sz)
    (hown : ownsM w' w.heap.size e sz v n vs) (hd : ∀ i (hi : i < cs.length) u, vs[i]? = some u → VR H θ w (vis c H θ w) (cs[i]) u ∧ u.oneCell' = true)
    (hw : ∀ b, b < w.heap.size → w'.heap[b]? = w.heap[b]?) (hz : w.heap.size ≤ w'.heap.size) :
    ∃ θ', VR (H.set k (.arr e sz n cs)) θ' w' (vis c (H.set k (.arr e sz n cs)) θ' w') (.row k n) v ∧ St c (H.set k (.arr e sz n cs)) θ' w' sl a ∧ HLe H θ (H.set k (.arr e sz n cs)) θ' := by
  have h := hs.add (w' := w') (k := k) (x := .arr e sz n cs) (val := v) hk hw hz (fun b hb => ownsRow_blk hown hb)
    (fun hvr => ⟨hsz, hcl, vs, ownsRow_base hown (Nat.zero_le _), fun b hb => .inl (Nat.le_trans hs.sim.size (ownsRow_blk hown hb)), fun i hi u hu => ⟨hvr _ _ (hd i hi u hu).1, (hd i hi u hu).2⟩⟩)
  refine ⟨_, .row k _ v (ownsRow_one hown) (.inr (by rw [Heap.get_set, if_pos rfl]; rfl)) (fun x' m' hx' hm' => ?_), h.1, h.2.2⟩
  rw [Heap.get_set, if_pos rfl] at hx'
  cases hx'
  cases hm'
  exact ⟨Nat.le_refl _, fun _ => by simp [updθ]⟩
theorem plain_cells {B : Nat → Prop} {x : AV} {v : Value} {d : D} (hx : VR H θ w B x v) (h : x.plain = some d) (hone : d.cells.all D.one = true) :
    v.cells.size = d.cells.length ∧ ∀ i (hi : i < d.cells.length) u, v.cells[i]? = some u → DR w B (d.cells[i]) u ∧ u.oneCell' = true := by
  have hd := plain_sound hx h
  have hv : VR H θ w B (.data d) v := .data _ _ hd
  have hc : (AV.data d).cells = some (d.cells.map .data) := by
    cases d <;> simp_all [AV.cells, D.cells, D.one]
  obtain ⟨h1, h2⟩ := cells_sound hv hc
  simp only [List.length_map] at h1 h2
  refine ⟨h1, fun i hi u hu => ?_⟩
  have := h2 i hi u hu
  simp only [List.getElem_map] at this
  exact ⟨this.1.data_inv, this.2⟩
theorem fill_parts {B : Nat → Prop} {sz : Nat} : ∀ (parts : List (Nat × Operand)) (vals : Operand → Value) (avs : Operand → AV) (i : Nat) (vs : List Value) (ds : List D),
    (∀ x, VR H θ w B (avs x) (vals x)) → vs.length = (i + parts.length) * sz → partsD i sz (parts.map fun (i, x) => (i, avs x)) = some ds →
    ∃ vs' : List Value, Instr.fill (fun i => some (i * sz, sz)) vs.toArray (parts.map fun (i, x) => (i, vals x)) = some vs'.toArray ∧ vs'.length = vs.length ∧ ds.length = parts.length ∧ (∀ d ∈ ds, d.cells.length = sz) ∧ (∀ d ∈ flat ds, d.one = true) ∧
      (∀ j, j < i * sz → vs'[j]? = vs[j]?) ∧ ∀ j (hj : j < (flat ds).length) u, vs'[i * sz + j]? = some u → DR w B ((flat ds)[j]) u
  | [], vals, avs, i, vs, ds, hx, hl, h => by
    simp only [List.map_nil, partsD, Option.some.injEq] at h
    subst h
    exact ⟨vs, rfl, rfl, rfl, by simp, by simp [flat], fun j _ => rfl, fun j hj => by simp [flat] at hj⟩
  | (i', x) :: parts, vals, avs, i, vs, ds, hx, hl, h => by
    simp only [List.map_cons, partsD] at h
    split at h
    · rename_i hi
      subst hi
      split at h
      · rename_i d hd
        split at h
        · rename_i hds
          split at h
          · rename_i ds' hds'
            simp only [Option.some.injEq] at h
            subst h
            obtain ⟨hz, hcs⟩ := plain_cells (hx x) hd hds.2
            simp only [List.length_cons] at hl
            have hls : vs.length = (i + 1 + parts.length) * sz := by rw [hl]; congr 1; omega
            have hsplit : (i + 1 + parts.length) * sz = i * sz + sz + parts.length * sz := by rw [Nat.add_mul, Nat.add_mul, Nat.one_mul]
            have hfit : i * sz + (vals x).cells.toList.length ≤ vs.length := by simp only [Array.length_toList, hz, hds.1]; omega
            obtain ⟨vs', h1, h2, h3, h4, h5, h6, h7⟩ := fill_parts parts vals avs (i + 1) (over (i * sz) (vals x).cells.toList vs) ds' hx (by rw [over_length hfit, hls]) hds'
            have hstep := fill_step (i * sz) (vals x).cells.toList vs hfit
            have hcond : ((vals x).cells.size ≠ sz || decide (i * sz + (vals x).cells.size > vs.toArray.size)) = false := by
              simp only [List.size_toArray, hz, hds.1]
              simp
              omega
            rw [over_length hfit] at h2
            refine ⟨vs', ?_, h2, by simp [h3], fun y hy => ?_, fun y hy => ?_, fun j hj => ?_, fun j hj u hu => ?_⟩
            · simp only [List.map_cons, Instr.fill]
              rw [if_neg (by rw [hcond]; simp), ← h1]
              congr 1
              rw [← hstep]
              rw [← Array.foldl_toList, Array.toList_zipIdx]
            · rcases List.mem_cons.1 hy with rfl | hy
              · exact hds.1
              · exact h4 y hy
            · rw [flat_cons, List.mem_append] at hy
              rcases hy with hy | hy
              · exact List.all_eq_true.1 hds.2 y hy
              · exact h5 y hy
            · rw [h6 j (by rw [Nat.succ_mul]; omega), over_get hfit, if_pos hj]
            · have hsm : (i + 1) * sz = i * sz + sz := Nat.succ_mul _ _
              by_cases c1 : j < sz
              · have hj1 : j < d.cells.length := by omega
                rw [h6 _ (by omega), over_get hfit, if_neg (by omega), if_pos (by simp only [Array.length_toList, hz]; omega), show i * sz + j - i * sz = j from by omega] at hu
                have := (hcs j hj1 u (by simpa using hu)).1
                have e : (flat (d :: ds'))[j] = d.cells[j] := by
                  simp only [flat_cons]
                  rw [List.getElem_append_left hj1]
                rw [e]
                exact this
              · have hj2 : j - sz < (flat ds').length := by rw [flat_cons, List.length_append, hds.1] at hj; omega
                have e : (flat (d :: ds'))[j] = (flat ds')[j - sz] := by
                  simp only [flat_cons]
                  rw [List.getElem_append_right (by omega)]
                  congr 1
                  omega
                rw [e]
                refine h7 (j - sz) hj2 u ?_
                rw [hsm, show i * sz + sz + (j - sz) = i * sz + j from by omega]
                exact hu
          · cases h
        · cases h
      · cases h
    · cases h
theorem y_buildSlice (hs : St c H θ w sl a) {k : Nat} (hk : ¬ H.ref k) {t : TypeId} {len : Nat} {parts : Array (Nat × Operand)} (ho : o.op = .buildSlice t len parts)
    (h : abuildSlice P k H t len (parts.toList.map fun (i, x) => (i, aev sl x)) = some (r, H')) : Yields P c o a w sl H θ r H' := by
  unfold abuildSlice at h
  split at h
  · rename_i e ht
    split at h
    · rename_i sz z hsz hz
      split at h
      · rename_i hlen
        split at h
        · rename_i ds hds
          simp only [Option.some.injEq, Prod.mk.injEq] at h
          obtain ⟨rfl, rfl⟩ := h
          obtain ⟨hl1, hl2⟩ := hlen
          simp only [List.length_map, Array.length_toList] at hl1
          have hz' := hz
          simp only [tzero, Option.bind_eq_some_iff] at hz'
          obtain ⟨i, hi, hzz⟩ := hz'
          have fillAll : ∀ (z : Array Value), z.size = len * (sz + 1) → ∃ vs' : List Value, Instr.fill (fun i => some (i * (sz + 1), sz + 1)) z (parts.toList.map fun (i, x) => (i, a.eval x)) = some vs'.toArray ∧ vs'.length = len * (sz + 1) ∧ ds.length = len ∧ (∀ d ∈ ds, d.cells.length = sz + 1) ∧ (∀ d ∈ flat ds, d.one = true) ∧
              ∀ j (hj : j < (flat ds).length) u, vs'[j]? = some u → DR w (vis c H θ w) ((flat ds)[j]) u := by
            intro z hz
            obtain ⟨vs', h1, h2, h3, h4, h5, _, h7⟩ := fill_parts parts.toList a.eval (aev sl) 0 z.toList ds (fun x => aev_sound hs x) (by simp [hz, hl1]) hds
            refine ⟨vs', by simpa using h1, by simpa [hz] using h2, by simpa [hl1] using h3, h4, h5, fun j hj u hu => h7 j hj u (by simpa using hu)⟩
          have hmap : (Array.map (fun x => (x.1, a.eval x.2)) parts).toList = parts.toList.map fun x => (x.1, a.eval x.2) := by simp
          have hng : ¬ len * (sz + 1) > 2 ^ 24 := by simp; omega
          have run : ∃ vs' : List Value, (execOp a.eval o).run P w = .ok (.value (.slice (some ⟨w.heap.size, 0, none⟩) len len)) (w.alloc (.cells vs'.toArray e)) ∧ vs'.length = len * (sz + 1) ∧ ds.length = len ∧ (∀ d ∈ ds, d.cells.length = sz + 1) ∧ (∀ d ∈ flat ds, d.one = true) ∧
              ∀ j (hj : j < (flat ds).length) u, vs'[j]? = some u → DR w (vis c H θ w) ((flat ds)[j]) u := by
            by_cases h0 : len * (sz + 1) = 0
            · obtain ⟨vs', h1, h2⟩ := fillAll ((Array.range (len * (sz + 1))).map ((#[] : Array Value)[· % (#[] : Array Value).size]!)) (by simp)
              refine ⟨vs', ?_, h2⟩
              simp only [execOp, ho, Instr.buildSlice, Sem.run_bind, run_underlying (telem_some ht), Result.andThen_ok, run_sizeOf' hsz, hng, if_false, Nat.succ_eq_add_one, Sem.run_ite, if_pos h0, Sem.run_pure, hmap, h1, newRow, run_newObj, World.alloc_eq]
            · obtain ⟨vs', h1, h2⟩ := fillAll ((Array.range (len * (sz + 1))).map (z.cells[· % z.cells.size]!)) (by simp)
              refine ⟨vs', ?_, h2⟩
              simp only [execOp, ho, Instr.buildSlice, Sem.run_bind, run_underlying (telem_some ht), Result.andThen_ok, run_sizeOf' hsz, hng, if_false, Nat.succ_eq_add_one, Sem.run_ite, if_neg h0, Sem.run_pure, zeroValue, typeInfo, run_program, hi, hzz, hmap, h1, newRow, run_newObj, World.alloc_eq]
          obtain ⟨vs', hr, h2, h3, h4, h5, h6⟩ := run
          have hlm : len ≤ maxLen := by
            have : len ≤ len * (sz + 1) := Nat.le_mul_of_pos_right _ (by omega)
            simp only [maxLen]
            omega
          have hown := ownsM_lit (e := e) (sz := sz + 1) (base := w.heap.size) w vs'.toArray len (Nat.le_refl _) hlm (by simpa using h2)
          rw [← h3] at hown
          obtain ⟨θ', g1, g2, g3⟩ := add_row (w' := w.alloc (.cells vs'.toArray e)) hs hk (by omega) h4 h5 hown h6 (fun b hb => Below.heap_alloc w _ b hb) (by simp)
          rw [h3] at g1 hown
          exact .value hr g1 g2 ⟨rfl, rfl, rfl, by simp, fun b hb _ => Below.heap_alloc w _ b (Nat.lt_of_lt_of_le hb hs.sim.size)⟩ g3
        · cases h
      · cases h
    · cases h
  · cases h
theorem replicate_flat {d : D} {n : Nat} (i : Nat) (hi : i < (flat (List.replicate n d)).length) (hd : 0 < d.cells.length) : ∃ h : i % d.cells.length < d.cells.length, (flat (List.replicate n d))[i] = d.cells[i % d.cells.length] := by
  refine ⟨Nat.mod_lt _ hd, ?_⟩
  have hall : ∀ x ∈ List.replicate n d, x.cells.length = d.cells.length := fun x hx => by rw [List.eq_of_mem_replicate hx]
  have hl := flat_length hall
  have hlt : i / d.cells.length < n := by
    rw [hl, List.length_replicate] at hi
    exact Nat.div_lt_of_lt_mul (by rw [Nat.mul_comm]; exact hi)
  obtain ⟨h1, h2, h3⟩ := flat_getElem hall (i := i / d.cells.length) (j := i % d.cells.length) (d := d) (by simp [hlt]) (Nat.mod_lt _ hd)
  have e : i / d.cells.length * d.cells.length + i % d.cells.length = i := by rw [Nat.mul_comm]; exact Nat.div_add_mod _ _
  simp only [e] at h3
  exact h3
theorem y_make (hs : St c H θ w sl a) {k : Nat} (hk : ¬ H.ref k) {t : TypeId} {x y : Operand} (ho : o.op = .makeSlice t x y) (h : amake P k H t (aev sl x) (aev sl y) = some (r, H')) : Yields P c o a w sl H θ r H' := by
  have hx := aev_sound hs x
  have hy := aev_sound hs y
  unfold amake at h
  split at h
  · rename_i e k1 n k2 m ht hxn hym
    rw [hxn] at hx
    rw [hym] at hy
    have hx' := hx.data_inv.int_eq
    have hy' := hy.data_inv.int_eq
    split at h
    · rename_i sz b z hsz hby hz
      split at h
      · rename_i d hd
        split at h
        · rename_i hc
          obtain ⟨rfl, hn0, hbytes, hmax, hdl, hdo⟩ := hc
          simp only [Option.some.injEq, Prod.mk.injEq] at h
          obtain ⟨rfl, rfl⟩ := h
          obtain ⟨N, rfl⟩ := Int.eq_ofNat_of_zero_le hn0
          simp only [Int.toNat_natCast] at *
          simp only [tzero, Option.bind_eq_some_iff] at hz
          obtain ⟨i, hi, hzz⟩ := hz
          simp only [tsize, hi, Option.map_some, Option.some.injEq] at hsz
          simp only [tbytes, hi, Option.map_some, Option.some.injEq] at hby
          subst hby
          obtain ⟨w', hr, hown, hg⟩ := run_make_full (P := P) w w.heap.size t e i z (sz + 1) (telem_some ht) hi hzz hsz k1 k2 N hbytes hmax (Nat.le_refl _)
          replace hown := ownsM.of hown
          obtain ⟨hzc, hzd⟩ := plain_cells (cav_sound (H := H) (θ := θ) (w := w) (B := vis c H θ w) z) hd hdo
          have hall : ∀ y ∈ List.replicate N d, y.cells.length = sz + 1 := fun y hy => by rw [List.eq_of_mem_replicate hy]; exact hdl
          have hown' : ownsM w' w.heap.size e (sz + 1) (.slice (some ⟨w.heap.size, 0, none⟩) N N) (List.replicate N d).length (madeCells z.cells (N * (sz + 1))).toList := by simpa using hown
          obtain ⟨θ', g1, g2, g3⟩ := add_row (w' := w') hs hk (by omega) hall (fun y hy => by
              obtain ⟨j, hj, rfl⟩ := List.mem_iff_getElem.1 hy
              obtain ⟨h1, h2⟩ := replicate_flat j hj (by omega)
              rw [h2]
              exact List.all_eq_true.1 hdo _ (List.getElem_mem h1)) hown'
            (fun j hj u hu => by
              obtain ⟨h1, h2⟩ := replicate_flat j hj (by omega)
              rw [h2]
              have hlt : j < N * (sz + 1) := by rw [flat_length hall, List.length_replicate] at hj; exact hj
              simp only [madeCells, Array.toList_map, Array.toList_range, List.getElem?_map, List.getElem?_range hlt, Option.map_some, Option.some.injEq] at hu
              have h1' : j % z.cells.size < z.cells.size := by rw [hzc]; exact h1
              have e2 : z.cells[j % z.cells.size]? = some u := by
                rw [← hu]
                simp [h1']
              rw [hzc] at e2
              exact (hzd _ h1 u e2).1)
            (fun b hb => hg.block b hb (by simp)) hg.size
          simp only [List.length_replicate] at g1
          refine .value (v := .slice (some ⟨w.heap.size, 0, none⟩) N N) ?_ g1 g2 ⟨hg.os, hg.tape, hg.output, hg.size, fun b hb _ => hg.block b (Nat.lt_of_lt_of_le hb hs.sim.size) (by simp)⟩ g3
          simp only [execOp, ho, hx', hy', Sem.run_bind]
          have := hr
          simp only [this, Result.andThen_ok, Sem.run_pure]
        · cases h
      · cases h
    · cases h
  · cases h
theorem fill_partsA {B : Nat → Prop} {sz : Nat} : ∀ (parts : List (Nat × Operand)) (vals : Operand → Value) (avs : Operand → AV) (i : Nat) (vs : List Value) (cs : List AV),
    (∀ x, VR H θ w B (avs x) (vals x)) → vs.length = (i + parts.length) * sz → partsA i sz (parts.map fun (i, x) => (i, avs x)) = some cs →
    ∃ vs' : List Value, Instr.fill (fun i => some (i * sz, sz)) vs.toArray (parts.map fun (i, x) => (i, vals x)) = some vs'.toArray ∧ vs'.length = vs.length ∧ cs.length = parts.length * sz ∧
      (∀ j, j < i * sz → vs'[j]? = vs[j]?) ∧ ∀ j (hj : j < cs.length) u, vs'[i * sz + j]? = some u → VR H θ w B (cs[j]) u ∧ u.oneCell' = true
  | [], vals, avs, i, vs, cs, hx, hl, h => by
    simp only [List.map_nil, partsA, Option.some.injEq] at h
    subst h
    exact ⟨vs, rfl, rfl, by simp, fun j _ => rfl, fun j hj => by simp at hj⟩
  | (i', x) :: parts, vals, avs, i, vs, cs, hx, hl, h => by
    simp only [List.map_cons, partsA] at h
    split at h
    · rename_i hi
      subst hi
      split at h
      · rename_i xs hxc
        split at h
        · rename_i hxl
          split at h
          · rename_i cs' hcs'
            simp only [Option.some.injEq] at h
            subst h
            obtain ⟨hz, hcs⟩ := cells_sound (hx x) hxc
            simp only [List.length_cons] at hl
            have hls : vs.length = (i + 1 + parts.length) * sz := by rw [hl]; congr 1; omega
            have hsplit : (i + 1 + parts.length) * sz = i * sz + sz + parts.length * sz := by rw [Nat.add_mul, Nat.add_mul, Nat.one_mul]
            have hfit : i * sz + (vals x).cells.toList.length ≤ vs.length := by simp only [Array.length_toList, hz, hxl]; omega
            obtain ⟨vs', h1, h2, h3, h6, h7⟩ := fill_partsA parts vals avs (i + 1) (over (i * sz) (vals x).cells.toList vs) cs' hx (by rw [over_length hfit, hls]) hcs'
            have hstep := fill_step (i * sz) (vals x).cells.toList vs hfit
            have hcond : ((vals x).cells.size ≠ sz || decide (i * sz + (vals x).cells.size > vs.toArray.size)) = false := by
              simp only [List.size_toArray, hz, hxl]
              simp
              omega
            rw [over_length hfit] at h2
            refine ⟨vs', ?_, h2, by rw [List.length_append, h3, hxl, List.length_cons, Nat.succ_mul]; omega, fun j hj => ?_, fun j hj u hu => ?_⟩
            · simp only [List.map_cons, Instr.fill]
              rw [if_neg (by rw [hcond]; simp), ← h1]
              congr 1
              rw [← hstep]
              rw [← Array.foldl_toList, Array.toList_zipIdx]
            · rw [h6 j (by rw [Nat.succ_mul]; omega), over_get hfit, if_pos hj]
            · have hsm : (i + 1) * sz = i * sz + sz := Nat.succ_mul _ _
              by_cases c1 : j < sz
              · have hj1 : j < xs.length := by omega
                rw [h6 _ (by omega), over_get hfit, if_neg (by omega), if_pos (by simp only [Array.length_toList, hz]; omega), show i * sz + j - i * sz = j from by omega] at hu
                have := hcs j hj1 u (by simpa using hu)
                rw [List.getElem_append_left hj1]
                exact this
              · have hj2 : j - sz < cs'.length := by rw [List.length_append, hxl] at hj; omega
                have e : (xs ++ cs')[j] = cs'[j - sz] := by
                  rw [List.getElem_append_right (by omega)]
                  congr 1
                  omega
                rw [e]
                refine h7 (j - sz) hj2 u ?_
                rw [hsm, show i * sz + sz + (j - sz) = i * sz + j from by omega]
                exact hu
          · cases h
        · cases h
      · cases h
    · cases h
theorem y_buildArr (hs : St c H θ w sl a) {k : Nat} (hk : ¬ H.ref k) {t : TypeId} {len : Nat} {parts : Array (Nat × Operand)} (ho : o.op = .buildSlice t len parts)
    (h : abuildArr P k H t len (parts.toList.map fun (i, x) => (i, aev sl x)) = some (r, H')) : Yields P c o a w sl H θ r H' := by
  unfold abuildArr at h
  split at h
  · rename_i e ht
    split at h
    · rename_i sz z hsz hz
      split at h
      · rename_i hlen
        split at h
        · rename_i ds hds
          simp only [Option.some.injEq, Prod.mk.injEq] at h
          obtain ⟨rfl, rfl⟩ := h
          obtain ⟨hl1, hl2⟩ := hlen
          simp only [List.length_map, Array.length_toList] at hl1
          have hz' := hz
          simp only [tzero, Option.bind_eq_some_iff] at hz'
          obtain ⟨i, hi, hzz⟩ := hz'
          have fillAll : ∀ (z : Array Value), z.size = len * (sz + 1) → ∃ vs' : List Value, Instr.fill (fun i => some (i * (sz + 1), sz + 1)) z (parts.toList.map fun (i, x) => (i, a.eval x)) = some vs'.toArray ∧ vs'.length = len * (sz + 1) ∧ ds.length = len * (sz + 1) ∧
              ∀ j (hj : j < ds.length) u, vs'[j]? = some u → VR H θ w (vis c H θ w) (ds[j]) u ∧ u.oneCell' = true := by
            intro z hz
            obtain ⟨vs', h1, h2, h3, _, h7⟩ := fill_partsA parts.toList a.eval (aev sl) 0 z.toList ds (fun x => aev_sound hs x) (by simp [hz, hl1]) hds
            refine ⟨vs', by simpa using h1, by simpa [hz] using h2, by simpa [hl1] using h3, fun j hj u hu => h7 j hj u (by simpa using hu)⟩
          have hmap : (Array.map (fun x => (x.1, a.eval x.2)) parts).toList = parts.toList.map fun x => (x.1, a.eval x.2) := by simp
          have hng : ¬ len * (sz + 1) > 2 ^ 24 := by simp; omega
          have run : ∃ vs' : List Value, (execOp a.eval o).run P w = .ok (.value (.slice (some ⟨w.heap.size, 0, none⟩) len len)) (w.alloc (.cells vs'.toArray e)) ∧ vs'.length = len * (sz + 1) ∧ ds.length = len * (sz + 1) ∧
              ∀ j (hj : j < ds.length) u, vs'[j]? = some u → VR H θ w (vis c H θ w) (ds[j]) u ∧ u.oneCell' = true := by
            by_cases h0 : len * (sz + 1) = 0
            · obtain ⟨vs', h1, h2⟩ := fillAll ((Array.range (len * (sz + 1))).map ((#[] : Array Value)[· % (#[] : Array Value).size]!)) (by simp)
              refine ⟨vs', ?_, h2⟩
              simp only [execOp, ho, Instr.buildSlice, Sem.run_bind, run_underlying (telem_some ht), Result.andThen_ok, run_sizeOf' hsz, hng, if_false, Nat.succ_eq_add_one, Sem.run_ite, if_pos h0, Sem.run_pure, hmap, h1, newRow, run_newObj, World.alloc_eq]
            · obtain ⟨vs', h1, h2⟩ := fillAll ((Array.range (len * (sz + 1))).map (z.cells[· % z.cells.size]!)) (by simp)
              refine ⟨vs', ?_, h2⟩
              simp only [execOp, ho, Instr.buildSlice, Sem.run_bind, run_underlying (telem_some ht), Result.andThen_ok, run_sizeOf' hsz, hng, if_false, Nat.succ_eq_add_one, Sem.run_ite, if_neg h0, Sem.run_pure, zeroValue, typeInfo, run_program, hi, hzz, hmap, h1, newRow, run_newObj, World.alloc_eq]
          obtain ⟨vs', hr, h2, h3, h6⟩ := run
          have hlm : len ≤ maxLen := by
            have : len ≤ len * (sz + 1) := Nat.le_mul_of_pos_right _ (by omega)
            simp only [maxLen]
            omega
          have hown := ownsM_lit (e := e) (sz := sz + 1) (base := w.heap.size) w vs'.toArray len (Nat.le_refl _) hlm (by simpa using h2)
          obtain ⟨θ', g1, g2, g3⟩ := add_arr (w' := w.alloc (.cells vs'.toArray e)) hs hk (by omega) h3 hown h6 (fun b hb => Below.heap_alloc w _ b hb) (by simp)
          exact .value hr g1 g2 ⟨rfl, rfl, rfl, by simp, fun b hb _ => Below.heap_alloc w _ b (Nat.lt_of_lt_of_le hb hs.sim.size)⟩ g3
        · cases h
      · cases h
    · cases h
  · cases h
theorem arrRep_spec {n : Nat} {zc : List AV} {sz : Nat} (hl : zc.length = sz) (h0 : 0 < sz) : (arrRep n zc).length = n * sz ∧ ∀ j (hj : j < (arrRep n zc).length), ∃ h : j % sz < zc.length, (arrRep n zc)[j] = zc[j % sz] := by
  have gen : ∀ n, ((List.replicate n zc).flatten).length = n * sz ∧ ∀ j (hj : j < ((List.replicate n zc).flatten).length), ∃ h : j % sz < zc.length, ((List.replicate n zc).flatten)[j] = zc[j % sz] := by
    intro n
    induction n with
    | zero => exact ⟨by simp, fun j hj => by simp at hj⟩
    | succ n ih =>
      obtain ⟨i1, i2⟩ := ih
      have e : (List.replicate (n + 1) zc).flatten = zc ++ (List.replicate n zc).flatten := by simp [List.replicate_succ]
      refine ⟨by rw [e, List.length_append, i1, hl, Nat.succ_mul]; omega, fun j hj => ?_⟩
      simp only [e] at hj ⊢
      by_cases c1 : j < zc.length
      · rw [List.getElem_append_left c1]
        have : j % sz = j := Nat.mod_eq_of_lt (by omega)
        refine ⟨by omega, ?_⟩
        congr 1
        exact this.symm
      · rw [List.getElem_append_right (by omega)]
        have hj' : j - zc.length < ((List.replicate n zc).flatten).length := by rw [List.length_append] at hj; omega
        obtain ⟨h1, h2⟩ := i2 _ hj'
        have h3 : (j - zc.length) % sz = j % sz := by
          rw [hl]
          conv => rhs; rw [show j = (j - sz) + sz from by omega]
          rw [Nat.add_mod_right]
        refine ⟨by omega, ?_⟩
        rw [h2]
        congr 1
  unfold arrRep
  split
  · rename_i x
    simp only [List.length_singleton] at hl
    subst hl
    refine ⟨by simp, fun j hj => ⟨by simp [Nat.mod_one], ?_⟩⟩
    simp
  · exact gen n
theorem y_makeArr (hs : St c H θ w sl a) {k : Nat} (hk : ¬ H.ref k) {t : TypeId} {x y : Operand} (ho : o.op = .makeSlice t x y) (h : amakeArr P k H t (aev sl x) (aev sl y) = some (r, H')) : Yields P c o a w sl H θ r H' := by
  have hx := aev_sound hs x
  have hy := aev_sound hs y
  unfold amakeArr at h
  split at h
  · rename_i e k1 n k2 m ht hxn hym
    rw [hxn] at hx
    rw [hym] at hy
    have hx' := hx.data_inv.int_eq
    have hy' := hy.data_inv.int_eq
    split at h
    · rename_i sz b z hsz hby hz
      split at h
      · rename_i zc hd
        split at h
        · rename_i hc
          obtain ⟨rfl, hn0, hbytes, hmax, hdl⟩ := hc
          simp only [Option.some.injEq, Prod.mk.injEq] at h
          obtain ⟨rfl, rfl⟩ := h
          obtain ⟨N, rfl⟩ := Int.eq_ofNat_of_zero_le hn0
          simp only [Int.toNat_natCast] at *
          simp only [tzero, Option.bind_eq_some_iff] at hz
          obtain ⟨i, hi, hzz⟩ := hz
          simp only [tsize, hi, Option.map_some, Option.some.injEq] at hsz
          simp only [tbytes, hi, Option.map_some, Option.some.injEq] at hby
          subst hby
          obtain ⟨w', hr, hown, hg⟩ := run_make_full (P := P) w w.heap.size t e i z (sz + 1) (telem_some ht) hi hzz hsz k1 k2 N hbytes hmax (Nat.le_refl _)
          replace hown := ownsM.of hown
          obtain ⟨hzc, hzd⟩ := cells_sound (cav_sound (H := H) (θ := θ) (w := w) (B := vis c H θ w) z) hd
          obtain ⟨q1, q2⟩ := arrRep_spec (n := N) hdl (by omega)
          obtain ⟨θ', g1, g2, g3⟩ := add_arr (w' := w') hs hk (by omega) q1 hown
            (fun j hj u hu => by
              obtain ⟨h1, h2⟩ := q2 j hj
              rw [h2]
              have hlt : j < N * (sz + 1) := by omega
              simp only [madeCells, Array.toList_map, Array.toList_range, List.getElem?_map, List.getElem?_range hlt, Option.map_some, Option.some.injEq] at hu
              have h1' : j % z.cells.size < z.cells.size := by rw [hzc, hdl]; rw [hdl] at h1; exact h1
              have e2 : z.cells[j % z.cells.size]? = some u := by
                rw [← hu]
                simp [h1']
              rw [hzc, hdl] at e2
              exact hzd _ h1 u e2)
            (fun b hb => hg.block b hb (by simp)) hg.size
          refine .value (v := .slice (some ⟨w.heap.size, 0, none⟩) N N) ?_ g1 g2 ⟨hg.os, hg.tape, hg.output, hg.size, fun b hb _ => hg.block b (Nat.lt_of_lt_of_le hb hs.sim.size) (by simp)⟩ g3
          simp only [execOp, ho, hx', hy', Sem.run_bind]
          have := hr
          simp only [this, Result.andThen_ok, Sem.run_pure]
        · cases h
      · cases h
    · cases h
  · cases h
end
end Go.Ab
namespace Go.Ab
open Go Go.RowKit
theorem elemsOK_spec {sz : Nat} {l : List D} (h : elemsOK sz l = true) : (∀ d ∈ l, d.cells.length = sz) ∧ ∀ d ∈ flat l, d.one = true := by
  unfold elemsOK at h
  rw [List.all_eq_true] at h
  refine ⟨fun d hd => ?_, fun d hd => ?_⟩
  · have := h d hd
    simp only [Bool.and_eq_true, beq_iff_eq] at this
    exact this.1
  · unfold flat at hd
    obtain ⟨x, hx, hxd⟩ := List.mem_flatMap.1 hd
    have := h x hx
    simp only [Bool.and_eq_true] at this
    exact List.all_eq_true.1 this.2 d hxd
theorem elemsOK_map {α : Type} {f : α → D} {sz : Nat} (h : ∀ x, (f x).cells.length = sz ∧ (f x).cells.all D.one = true) (l : List α) : elemsOK sz (l.map f) = true := by
  unfold elemsOK
  rw [List.all_eq_true]
  intro d hd
  obtain ⟨x, _, rfl⟩ := List.mem_map.1 hd
  simp [(h x).1, (h x).2]
section
variable {P : Program} {c : Ctx} {H H' : Heap} {θ θ' : Nat → Value} {w w' : World} {sl : List AV} {a : Act} {o : Oper} {r : AV}
theorem row_reads (hs : HSim c H θ w) {ob : Nat} {e : TypeId} {sz : Nat} {l : List D} (hg : H.get ob = some (.row e sz l)) {B : Nat → Prop} (hB : ∀ b, vis c H θ w b → B b) (hBo : ∀ b, blk (θ ob) = some b → B b) :
    DR w B (.list l) (θ ob) := by
  obtain ⟨hsz, hcl, hone, vs, hown, hbl, hvs⟩ := row_cells hs hg
  have hlen := flat_length hcl
  rcases hown.2 with ⟨h1, h3⟩ | ⟨g, cap, cur, h1, _, hh, hnc, hrest⟩
  · have : l = [] := List.eq_nil_of_length_eq_zero h3
    subst this
    rw [h1]
    exact .empty none 0
  · rw [h1]
    have hcell := hown.cells (g := g) (by rw [h1]; rfl)
    refine .list l ⟨g, 0, none⟩ cap sz (fun i => vs.getD i undef) (hBo g (by rw [h1]; rfl)) hnc hcl hone (fun i hi => ?_) (fun i hi => ?_)
    · have : i < vs.length := by rw [hown.1, ← hlen]; exact hi
      exact hcell i _ (by simp [this])
    · have : i < vs.length := by rw [hown.1, ← hlen]; exact hi
      exact (hvs i hi _ (by simp [this])).mono fun b hb => ⟨hB b hb, rfl⟩
theorem src_elems (hs : HSim c H θ w) {y : AV} {v : Value} {ds : List D} (hy : VR H θ w (vis c H θ w) y v) (h : srcList H y = some ds) :
    ∃ (ao : Option Addr) (cap : Nat), v = .slice ao ds.length cap ∧ (ds = [] ∨ ∃ (p : Addr) (sz : Nat) (u : Nat → Value), ao = some p ∧ (∀ d ∈ ds, d.cells.length = sz) ∧ (∀ i, i < (flat ds).length → w.cell? (p.add i) = some (u i)) ∧
      ∀ i (hi : i < (flat ds).length), DR w (vis c H θ w) ((flat ds)[i]) (u i)) := by
  have hdat : ∀ {v : Value}, DR w (vis c H θ w) (.list ds) v → ∃ (ao : Option Addr) (cap : Nat), v = .slice ao ds.length cap ∧ (ds = [] ∨ ∃ (p : Addr) (sz : Nat) (u : Nat → Value), ao = some p ∧ (∀ d ∈ ds, d.cells.length = sz) ∧ (∀ i, i < (flat ds).length → w.cell? (p.add i) = some (u i)) ∧
      ∀ i (hi : i < (flat ds).length), DR w (vis c H θ w) ((flat ds)[i]) (u i)) := by
    intro v hv
    obtain ⟨ao, cap, h1, h2⟩ := hv.list_inv
    refine ⟨ao, cap, h1, ?_⟩
    rcases h2 with h2 | ⟨p, sz, u, h3, _, _, h4, _, h5, h6⟩
    · exact .inl h2
    · exact .inr ⟨p, sz, u, h3, h4, h5, h6⟩
  unfold srcList at h
  split at h
  · simp only [Option.some.injEq] at h
    subst h
    exact hdat hy.data_inv
  · simp only [Option.some.injEq] at h
    subst h
    cases hy
    exact ⟨none, 0, rfl, .inl rfl⟩
  · split at h
    · rename_i hg
      split at h
      · rename_i hn
        simp only [Option.some.injEq] at h
        subst h
        obtain ⟨he, _⟩ := row_val hs hy hg hn
        obtain ⟨hsz, hcl, hone, vs, hown, hbl, hvs⟩ := row_cells hs hg
        have hlen := flat_length hcl
        rw [← he] at hown
        rcases hown.2 with ⟨h1, h3⟩ | ⟨g, cap, cur, h1, _, hh, hnc, hrest⟩
        · exact ⟨none, 0, by rw [h1, h3], .inl (List.eq_nil_of_length_eq_zero h3)⟩
        · have hcell := hown.cells (g := g) (by rw [h1]; rfl)
          refine ⟨_, cap, h1, .inr ⟨⟨g, 0, none⟩, _, fun i => vs.getD i undef, rfl, hcl, fun i hi => ?_, fun i hi => ?_⟩⟩
          · have : i < vs.length := by rw [hown.1, ← hlen]; exact hi
            exact hcell i _ (by simp [this])
          · have : i < vs.length := by rw [hown.1, ← hlen]; exact hi
            exact hvs i hi _ (by simp [this])
      · cases h
    · rename_i hg
      split at h
      · rename_i hn
        simp only [Option.some.injEq] at h
        subst h
        exact hdat (frz_val hs hy hg hn)
      · cases h
    · cases h
  · cases h
theorem run_append_src {base : Nat} {t e : TypeId} {i : TypeInfo} {z : Value} {sz : Nat} (ty : TypeId) (ht : P.underlying t = some (.slice e)) (hi : P.info? e = some i) (hz : i.zero = some z) (hsize : i.size = sz) (hzs : z.cells.size = sz) (hsz : 0 < sz)
    {v : Value} {n : Nat} {xs : List Value} (hown : ownsM w base e sz v n xs) {ao : Option Addr} {m cap : Nat} {news : List Value} (hl : news.length = m * sz)
    (hnews : m = 0 ∨ ∃ p, ao = some p ∧ ∀ j u, news[j]? = some u → w.cell? (p.add j) = some u) (h1 : ∀ u ∈ news, u.oneCell' = true) (h63 : n + m ≤ maxLen) (hbytes : (n + m) * i.bytes ≤ 140737488355328) (hbase : base ≤ w.heap.size) :
    ∃ v' w', (Builtin.append_ #[t, t] ty #[v, .slice ao m cap]).run P w = .ok v' w' ∧ ownsM w' base e sz v' (n + m) (xs ++ news) ∧ w.grownBy w' v.ownBlock ∧ (v'.ownBlock = v.ownBlock ∨ v'.ownBlock = some w.heap.size) ∧ (m = 0 → v' = v) := by
  by_cases hm : m = 0
  · subst hm
    have hn : news = [] := List.eq_nil_of_length_eq_zero (by simpa using hl)
    subst hn
    refine ⟨v, w, ?_, by simpa using hown, World.grownBy.refl w _, .inl rfl, fun _ => rfl⟩
    rcases hown.2 with ⟨rfl, rfl⟩ | ⟨g, cp, cur, rfl, _, _, hnc, _⟩
    · cases ao <;> simp [Builtin.append_, run_underlying ht, sizeOf, typeInfo, hi, Builtin.lenOf, Builtin.firstCells, loadCells, loadCellsFrom]
    · cases ao <;> simp [Builtin.append_, run_underlying ht, sizeOf, typeInfo, hi, Builtin.lenOf, Builtin.firstCells, hnc, storeCells, loadCells, loadCellsFrom]
  · rcases hnews with h | ⟨p, rfl, hc⟩
    · exact absurd h hm
    · subst hsize
      obtain ⟨v', w', h2, h3, h4, h5⟩ := run_append_ownsM (P := P) t ty ht hi hz hzs hsz hown p m cap hl hc h1 h63 hbytes hbase
      exact ⟨v', w', h2, h3, h4, h5, fun h => absurd h hm⟩
theorem news_of {ds : List D} {sz : Nat} (hcl : ∀ d ∈ ds, d.cells.length = sz) {ao : Option Addr} {B : Nat → Prop} (ho : ∀ d ∈ flat ds, d.one = true)
    (h : ds = [] ∨ ∃ (p : Addr) (sz : Nat) (u : Nat → Value), ao = some p ∧ (∀ d ∈ ds, d.cells.length = sz) ∧ (∀ i, i < (flat ds).length → w.cell? (p.add i) = some (u i)) ∧ ∀ i (hi : i < (flat ds).length), DR w B ((flat ds)[i]) (u i)) :
    ∃ news : List Value, news.length = ds.length * sz ∧ (ds.length = 0 ∨ ∃ p, ao = some p ∧ ∀ j u, news[j]? = some u → w.cell? (p.add j) = some u) ∧ (∀ u ∈ news, u.oneCell' = true) ∧ ∀ i (hi : i < (flat ds).length) u, news[i]? = some u → DR w B ((flat ds)[i]) u := by
  rcases h with rfl | ⟨p, _, u, rfl, _, hm, hd⟩
  · exact ⟨[], by simp, .inl rfl, by simp, fun i hi => by simp [flat] at hi⟩
  · have hlen := flat_length hcl
    have hget : ∀ (j : Nat) x, ((List.range (flat ds).length).map u)[j]? = some x → j < (flat ds).length ∧ x = u j := by
      intro j x hx
      rw [List.getElem?_map, Option.map_eq_some_iff] at hx
      obtain ⟨k, hk, rfl⟩ := hx
      obtain ⟨h1, h2⟩ := List.getElem?_eq_some_iff.1 hk
      simp at h1 h2
      subst h2
      exact ⟨h1, rfl⟩
    refine ⟨(List.range (flat ds).length).map u, by simp [hlen], .inr ⟨p, rfl, fun j x hx => ?_⟩, fun x hx => ?_, fun i hi x hx => ?_⟩
    · obtain ⟨h1, rfl⟩ := hget j x hx
      exact hm j h1
    · obtain ⟨j, hj⟩ := List.mem_iff_getElem?.1 hx
      obtain ⟨h1, rfl⟩ := hget j x hj
      exact (hd j h1).oneCell (ho _ (List.getElem_mem h1))
    · obtain ⟨h1, rfl⟩ := hget i x hx
      exact hd i h1
theorem y_appendD (hs : St c H θ w sl a) {k : Nat} (hk : ¬ H.ref k) {t e : TypeId} {x y : Operand} (ho : o.op = .call { callee := .builtin .append, args := #[x, y], argTypes := #[t, t] }) (ht : telem P t = some e)
    (h : appendD P k H e (aev sl x) (aev sl y) = some (r, H')) : Yields P c o a w sl H θ r H' := by
  have hx := aev_sound hs x
  have hy := aev_sound hs y
  unfold appendD at h
  split at h
  · rename_i sz b z ds hsz hby hz hds
    split at h
    · rename_i hc
      obtain ⟨hzs, hok⟩ := hc
      obtain ⟨hcl, hone⟩ := elemsOK_spec hok
      simp only [tzero, Option.bind_eq_some_iff] at hz
      obtain ⟨i, hi, hzz⟩ := hz
      simp only [tsize, hi, Option.map_some, Option.some.injEq] at hsz
      simp only [tbytes, hi, Option.map_some, Option.some.injEq] at hby
      subst hby
      obtain ⟨ao, cap, hyv, hsrc⟩ := src_elems hs.sim hy hds
      obtain ⟨news, hn1, hn2, hn3, hn4⟩ := news_of hcl hone hsrc
      have hrun : ∀ v v' w', a.eval x = v → (Builtin.append_ #[t, t] o.type #[v, .slice ao ds.length cap]).run P w = .ok v' w' → (execOp a.eval o).run P w = .ok (.value v') w' := by
        intro v v' w' hv hr
        simp only [execOp, ho, resolve, invoke, builtin, Sem.run_bind, Sem.run_pure, Result.andThen_ok, List.map_toArray, List.map_cons, List.map_nil, hv, hyv, hr]
      split at h
      · rename_i hxn
        rw [hxn] at hx
        split at h
        · rename_i hb
          simp only [Option.some.injEq, Prod.mk.injEq] at h
          obtain ⟨rfl, rfl⟩ := h
          generalize hv : a.eval x = v at hx
          cases hx
          obtain ⟨v', w', hr, hown, hg, hblk, hm0⟩ := run_append_src (P := P) (cap := cap) o.type (telem_some ht) hi hzz hsz hzs (by omega) (ownsM.of (World.ownsRow_nil w w.heap.size e (sz + 1))) hn1 hn2 hn3 (by omega) (by simpa using hb.1) (Nat.le_refl _)
          simp only [Nat.zero_add, List.nil_append] at hown
          obtain ⟨θ', g1, g2, g3⟩ := add_row (w' := w') hs hk (by omega) hcl hone hown hn4 (fun b hb => hg.block b hb (by simp [Value.ownBlock])) hg.size
          exact .value (hrun _ _ _ hv hr) g1 g2 ⟨hg.os, hg.tape, hg.output, hg.size, fun b hb _ => hg.block b (Nat.lt_of_lt_of_le hb hs.sim.size) (by simp [Value.ownBlock])⟩ g3
        · cases h
      · rename_i ob n hxn
        rw [hxn] at hx
        split at h
        · rename_i e' sz' l hgo
          split at h
          · rename_i hb
            obtain ⟨hn, he', hsz', hb1, hb2⟩ := hb
            subst he'
            subst hsz'
            simp only [Option.some.injEq, Prod.mk.injEq] at h
            obtain ⟨rfl, rfl⟩ := h
            obtain ⟨hve, _⟩ := row_val hs.sim hx hgo hn
            obtain ⟨hpos, hlcl, hlone, vs, hown0, hbl, hvs⟩ := row_cells hs.sim hgo
            have hllen := flat_length hlcl
            obtain ⟨v', w', hr, hown, hg, hblk, hm0⟩ := run_append_src (P := P) (cap := cap) o.type (telem_some ht) hi hzz hsz hzs (by omega) hown0 hn1 hn2 hn3 hb2 hb1 (Nat.zero_le _)
            have hb0 : blk (θ ob) = (θ ob).ownBlock := blk_ownBlock hown0
            have hb' : blk v' = v'.ownBlock := blk_ownBlock hown
            have hT := hs.sim.turn (w' := w') (k := ob) (x0 := .row e' (sz + 1) l) (x := .row e' (sz + 1) (l ++ ds)) (val := v') hgo rfl rfl
              (fun b hb hne => hg.block b hb (fun he => hne (by rw [hb0]; exact he.symm))) hg.size
              (fun b hb => by
                rw [hb'] at hb
                rcases hblk with h5 | h5
                · exact .inl (by rw [hb0, ← h5]; exact hb)
                · rw [h5] at hb
                  simp only [Option.some.injEq] at hb
                  exact .inr (by omega))
              ⟨rfl, rfl, by simp⟩
              (fun hh => hm0 (by simp only [Obj.rlen, List.length_append, Option.some.injEq] at hh; omega))
              (fun hvr => by
                refine ⟨hpos, fun d hd => ?_, fun d hd => ?_, vs ++ news, by simpa using hown, fun b hb => ?_, fun j hj u hu => ?_⟩
                · rcases List.mem_append.1 hd with hd | hd
                  · exact hlcl d hd
                  · exact hcl d hd
                · rw [flat_append, List.mem_append] at hd
                  rcases hd with hd | hd
                  · exact hlone d hd
                  · exact hone d hd
                · rw [hb'] at hb
                  rcases hblk with h5 | h5
                  · exact hbl b (by rw [hb0, ← h5]; exact hb)
                  · rw [h5] at hb
                    simp only [Option.some.injEq] at hb
                    exact .inl (by have := hs.sim.size; omega)
                · have hvl : vs.length = (flat l).length := by rw [hown0.1, hllen]
                  by_cases c1 : j < (flat l).length
                  · rw [List.getElem?_append_left (by omega)] at hu
                    have e1 : (flat (l ++ ds))[j] = (flat l)[j] := by
                      simp only [flat_append]
                      rw [List.getElem_append_left c1]
                    rw [e1]
                    exact (hvr (.data _) u (.data _ _ (hvs j c1 u hu))).data_inv
                  · have c2 : j - (flat l).length < (flat ds).length := by rw [flat_append, List.length_append] at hj; omega
                    rw [List.getElem?_append_right (by omega), hvl] at hu
                    have e1 : (flat (l ++ ds))[j] = (flat ds)[j - (flat l).length] := by
                      simp only [flat_append]
                      rw [List.getElem_append_right (by omega)]
                    rw [e1]
                    exact (hvr (.data _) u (.data _ _ (hn4 _ c2 u hu))).data_inv)
            refine .value (hrun _ _ _ hve hr) (θ' := updθ θ ob v') ?_ ⟨hT.1, hs.defers, hs.size, fun i y u h1 h2 => hT.2.1 y u (hs.vals i y u h1 h2)⟩
              ⟨hg.os, hg.tape, hg.output, hg.size, fun b hb hbi => hg.block b (Nat.lt_of_lt_of_le hb hs.sim.size) (fun he => ?_)⟩ hT.2.2
            · refine .row ob _ v' (ownsRow_one hown) (.inr (by rw [Heap.get_set, if_pos rfl]; rfl)) (fun x2 m2 hx2 hm2 => ?_)
              rw [Heap.get_set, if_pos rfl] at hx2
              cases hx2
              cases hm2
              exact ⟨by simp, fun _ => by simp [updθ]⟩
            · rcases hbl b (by rw [hb0]; exact he.symm) with h5 | h5
              · omega
              · exact hbi h5
          · cases h
        · cases h
      · cases h
    · cases h
  · cases h
theorem src_cells (hs : HSim c H θ w) {y : AV} {v : Value} {m sz : Nat} {cs : List AV} (hy : VR H θ w (vis c H θ w) y v) (h : srcCells H y = some (m, cs)) (hl : cs.length = m * sz) (h0 : 0 < sz) :
    ∃ (ao : Option Addr) (cap : Nat) (news : List Value), v = .slice ao m cap ∧ news.length = m * sz ∧ (m = 0 ∨ ∃ p, ao = some p ∧ ∀ j u, news[j]? = some u → w.cell? (p.add j) = some u) ∧ (∀ u ∈ news, u.oneCell' = true) ∧
      ∀ i (hi : i < cs.length) u, news[i]? = some u → VR H θ w (vis c H θ w) (cs[i]) u ∧ u.oneCell' = true := by
  have fin : ∀ {ao : Option Addr} {cap : Nat} {p : Addr} (u : Nat → Value), v = .slice ao m cap → ao = some p → (∀ i, i < cs.length → w.cell? (p.add i) = some (u i)) → (∀ i (hi : i < cs.length), VR H θ w (vis c H θ w) (cs[i]) (u i) ∧ (u i).oneCell' = true) →
      ∃ (ao : Option Addr) (cap : Nat) (news : List Value), v = .slice ao m cap ∧ news.length = m * sz ∧ (m = 0 ∨ ∃ p, ao = some p ∧ ∀ j u, news[j]? = some u → w.cell? (p.add j) = some u) ∧ (∀ u ∈ news, u.oneCell' = true) ∧
      ∀ i (hi : i < cs.length) u, news[i]? = some u → VR H θ w (vis c H θ w) (cs[i]) u ∧ u.oneCell' = true := by
    intro ao cap p u hv hao hm hd
    have hget : ∀ (j : Nat) x, ((List.range cs.length).map u)[j]? = some x → j < cs.length ∧ x = u j := by
      intro j x hx
      rw [List.getElem?_map, Option.map_eq_some_iff] at hx
      obtain ⟨k, hk, rfl⟩ := hx
      obtain ⟨h1, h2⟩ := List.getElem?_eq_some_iff.1 hk
      simp at h1 h2
      subst h2
      exact ⟨h1, rfl⟩
    refine ⟨ao, cap, (List.range cs.length).map u, hv, by simp [hl], .inr ⟨p, hao, fun j x hx => ?_⟩, fun x hx => ?_, fun i hi x hx => ?_⟩
    · obtain ⟨h1, rfl⟩ := hget j x hx
      exact hm j h1
    · obtain ⟨j, hj⟩ := List.mem_iff_getElem?.1 hx
      obtain ⟨h1, rfl⟩ := hget j x hj
      exact (hd j h1).2
    · obtain ⟨h1, rfl⟩ := hget i x hx
      exact hd i h1
  have nil : ∀ {ao : Option Addr} {cap : Nat}, v = .slice ao m cap → m = 0 → ∃ (ao : Option Addr) (cap : Nat) (news : List Value), v = .slice ao m cap ∧ news.length = m * sz ∧ (m = 0 ∨ ∃ p, ao = some p ∧ ∀ j u, news[j]? = some u → w.cell? (p.add j) = some u) ∧ (∀ u ∈ news, u.oneCell' = true) ∧
      ∀ i (hi : i < cs.length) u, news[i]? = some u → VR H θ w (vis c H θ w) (cs[i]) u ∧ u.oneCell' = true := by
    intro ao cap hv hm
    subst hm
    exact ⟨ao, cap, [], hv, by simp, .inl rfl, by simp, fun i hi u hu => by simp at hu⟩
  have dat : ∀ {l : List D}, DR w (vis c H θ w) (.list l) v → l.length = m → cs = (flat l).map .data → ∃ (ao : Option Addr) (cap : Nat) (news : List Value), v = .slice ao m cap ∧ news.length = m * sz ∧ (m = 0 ∨ ∃ p, ao = some p ∧ ∀ j u, news[j]? = some u → w.cell? (p.add j) = some u) ∧ (∀ u ∈ news, u.oneCell' = true) ∧
      ∀ i (hi : i < cs.length) u, news[i]? = some u → VR H θ w (vis c H θ w) (cs[i]) u ∧ u.oneCell' = true := by
    intro l hd hm hcs
    subst hcs
    obtain ⟨ao, cap, hv, h2⟩ := hd.list_inv
    rw [hm] at hv
    rcases h2 with rfl | ⟨p, _, u, h3, _, _, _, ho, h5, h6⟩
    · exact nil hv hm.symm
    · refine fin u hv h3 (fun i hi => h5 i (by simpa using hi)) (fun i hi => ?_)
      simp only [List.length_map] at hi
      simp only [List.getElem_map]
      exact ⟨.data _ _ (h6 i hi), (h6 i hi).oneCell (ho _ (List.getElem_mem hi))⟩
  unfold srcCells at h
  split at h
  · simp only [Option.some.injEq, Prod.mk.injEq] at h
    exact dat hy.data_inv h.1 h.2.symm
  · simp only [Option.some.injEq, Prod.mk.injEq] at h
    obtain ⟨rfl, rfl⟩ := h
    cases hy
    exact nil rfl rfl
  · split at h
    · rename_i hg
      split at h
      · rename_i hn
        simp only [Option.some.injEq, Prod.mk.injEq] at h
        obtain ⟨rfl, rfl⟩ := h
        obtain ⟨he, _⟩ := row_val hs hy hg hn
        obtain ⟨hsz, hcl, hone, vs, hown, hbl, hvs⟩ := row_cells hs hg
        have hlen := flat_length hcl
        rw [← he] at hown
        rcases hown.2 with ⟨h1, h3⟩ | ⟨g, cap, cur, h1, _, hh, hnc, hrest⟩
        · refine nil (ao := none) (cap := 0) ?_ (by omega)
          rw [h1]
          congr 1
          omega
        · have hcell := hown.cells (g := g) (by rw [h1]; rfl)
          refine fin (p := ⟨g, 0, none⟩) (fun i => vs.getD i undef) (by rw [h1, hn]) rfl (fun i hi => ?_) (fun i hi => ?_)
          · simp only [List.length_map] at hi
            have : i < vs.length := by rw [hown.1, ← hlen]; exact hi
            exact hcell i _ (by simp [this])
          · simp only [List.length_map] at hi
            have : i < vs.length := by rw [hown.1, ← hlen]; exact hi
            simp only [List.getElem_map]
            have hd := hvs i hi (vs.getD i undef) (by simp [this])
            exact ⟨.data _ _ hd, hd.oneCell (hone _ (List.getElem_mem hi))⟩
      · cases h
    · rename_i hg
      split at h
      · rename_i hn
        simp only [Option.some.injEq, Prod.mk.injEq] at h
        obtain ⟨rfl, rfl⟩ := h
        exact dat (frz_val hs hy hg hn) hn rfl
      · cases h
    · rename_i e' sz' m' cs' hg
      split at h
      · rename_i hn
        simp only [Option.some.injEq, Prod.mk.injEq] at h
        obtain ⟨rfl, rfl⟩ := h
        obtain ⟨he, _⟩ := arr_val hs hy hg hn
        obtain ⟨hsz, hcl, vs, hown, hbl, hvs⟩ := arr_cells hs hg
        rw [← he] at hown
        rcases hown.2 with ⟨h1, h3⟩ | ⟨g, cap, cur, h1, _, hh, hnc, hrest⟩
        · exact nil (ao := none) (cap := 0) (by rw [h1, h3]) h3
        · have hcell := hown.cells (g := g) (by rw [h1]; rfl)
          have hvl : vs.length = cs'.length := by rw [hown.1, hcl]
          refine fin (p := ⟨g, 0, none⟩) (fun i => vs.getD i undef) h1 rfl (fun i hi => ?_) (fun i hi => ?_)
          · exact hcell i _ (by simp [show i < vs.length by omega])
          · exact hvs i hi (vs.getD i undef) (by simp [show i < vs.length by omega])
      · cases h
    · cases h
  · cases h
theorem y_appendA (hs : St c H θ w sl a) {k : Nat} (hk : ¬ H.ref k) {t e : TypeId} {x y : Operand} (ho : o.op = .call { callee := .builtin .append, args := #[x, y], argTypes := #[t, t] }) (ht : telem P t = some e)
    (h : appendA P k H e (aev sl x) (aev sl y) = some (r, H')) : Yields P c o a w sl H θ r H' := by
  have hx := aev_sound hs x
  have hy := aev_sound hs y
  unfold appendA at h
  split at h
  · rename_i sz b z m cs hsz hby hz hds
    split at h
    · rename_i hc
      obtain ⟨hzs, hcl⟩ := hc
      simp only [tzero, Option.bind_eq_some_iff] at hz
      obtain ⟨i, hi, hzz⟩ := hz
      simp only [tsize, hi, Option.map_some, Option.some.injEq] at hsz
      simp only [tbytes, hi, Option.map_some, Option.some.injEq] at hby
      subst hby
      obtain ⟨ao, cap, news, hyv, hn1, hn2, hn3, hn4⟩ := src_cells hs.sim hy hds hcl (by omega)
      have hrun : ∀ v v' w', a.eval x = v → (Builtin.append_ #[t, t] o.type #[v, .slice ao m cap]).run P w = .ok v' w' → (execOp a.eval o).run P w = .ok (.value v') w' := by
        intro v v' w' hv hr
        simp only [execOp, ho, resolve, invoke, builtin, Sem.run_bind, Sem.run_pure, Result.andThen_ok, List.map_toArray, List.map_cons, List.map_nil, hv, hyv, hr]
      split at h
      · rename_i hxn
        rw [hxn] at hx
        split at h
        · rename_i hb
          simp only [Option.some.injEq, Prod.mk.injEq] at h
          obtain ⟨rfl, rfl⟩ := h
          generalize hv : a.eval x = v at hx
          cases hx
          obtain ⟨v', w', hr, hown, hg, hblk, hm0⟩ := run_append_src (P := P) (cap := cap) o.type (telem_some ht) hi hzz hsz hzs (by omega) (ownsM.of (World.ownsRow_nil w w.heap.size e (sz + 1))) hn1 hn2 hn3 (by omega) (by simpa using hb.1) (Nat.le_refl _)
          simp only [Nat.zero_add, List.nil_append] at hown
          obtain ⟨θ', g1, g2, g3⟩ := add_arr (w' := w') hs hk (by omega) hcl hown hn4 (fun b hb => hg.block b hb (by simp [Value.ownBlock])) hg.size
          exact .value (hrun _ _ _ hv hr) g1 g2 ⟨hg.os, hg.tape, hg.output, hg.size, fun b hb _ => hg.block b (Nat.lt_of_lt_of_le hb hs.sim.size) (by simp [Value.ownBlock])⟩ g3
        · cases h
      · rename_i ob n hxn
        rw [hxn] at hx
        split at h
        · rename_i e' sz' n' l hgo
          split at h
          · rename_i hb
            obtain ⟨hn, he', hsz', hb1, hb2⟩ := hb
            subst he'
            subst hsz'
            subst hn
            simp only [Option.some.injEq, Prod.mk.injEq] at h
            obtain ⟨rfl, rfl⟩ := h
            obtain ⟨hve, _⟩ := arr_val hs.sim hx hgo rfl
            obtain ⟨hpos, hlcl, vs, hown0, hbl, hvs⟩ := arr_cells hs.sim hgo
            obtain ⟨v', w', hr, hown, hg, hblk, hm0⟩ := run_append_src (P := P) (cap := cap) o.type (telem_some ht) hi hzz hsz hzs (by omega) hown0 hn1 hn2 hn3 hb2 hb1 (Nat.zero_le _)
            have hb0 : blk (θ ob) = (θ ob).ownBlock := blk_ownBlock hown0
            have hb' : blk v' = v'.ownBlock := blk_ownBlock hown
            have hvl : vs.length = l.length := by rw [hown0.1, hlcl]
            have hT := hs.sim.turn (w' := w') (k := ob) (x0 := .arr e' (sz + 1) n' l) (x := .arr e' (sz + 1) (n' + m) (l ++ cs)) (val := v') hgo rfl rfl
              (fun b hb hne => hg.block b hb (fun he => hne (by rw [hb0]; exact he.symm))) hg.size
              (fun b hb => by
                rw [hb'] at hb
                rcases hblk with h5 | h5
                · exact .inl (by rw [hb0, ← h5]; exact hb)
                · rw [h5] at hb
                  simp only [Option.some.injEq] at hb
                  exact .inr (by omega))
              ⟨rfl, rfl, by omega⟩
              (fun hh => hm0 (by simp only [Obj.rlen, Option.some.injEq] at hh; omega))
              (fun hvr => by
                refine ⟨hpos, by rw [List.length_append, hlcl, hcl, Nat.add_mul], vs ++ news, hown, fun b hb => ?_, fun j hj u hu => ?_⟩
                · rw [hb'] at hb
                  rcases hblk with h5 | h5
                  · exact hbl b (by rw [hb0, ← h5]; exact hb)
                  · rw [h5] at hb
                    simp only [Option.some.injEq] at hb
                    exact .inl (by have := hs.sim.size; omega)
                · by_cases c1 : j < l.length
                  · rw [List.getElem?_append_left (by omega)] at hu
                    rw [List.getElem_append_left c1]
                    exact ⟨hvr _ _ (hvs j c1 u hu).1, (hvs j c1 u hu).2⟩
                  · have c2 : j - l.length < cs.length := by rw [List.length_append] at hj; omega
                    rw [List.getElem?_append_right (by omega), hvl] at hu
                    rw [List.getElem_append_right (by omega)]
                    exact ⟨hvr _ _ (hn4 _ c2 u hu).1, (hn4 _ c2 u hu).2⟩)
            refine .value (hrun _ _ _ hve hr) (θ' := updθ θ ob v') ?_ ⟨hT.1, hs.defers, hs.size, fun i y u h1 h2 => hT.2.1 y u (hs.vals i y u h1 h2)⟩
              ⟨hg.os, hg.tape, hg.output, hg.size, fun b hb hbi => hg.block b (Nat.lt_of_lt_of_le hb hs.sim.size) (fun he => ?_)⟩ hT.2.2
            · refine .row ob _ v' (ownsRow_one hown) (.inr (by rw [Heap.get_set, if_pos rfl]; rfl)) (fun x2 m2 hx2 hm2 => ?_)
              rw [Heap.get_set, if_pos rfl] at hx2
              cases hx2
              cases hm2
              exact ⟨by simp, fun _ => by simp [updθ]⟩
            · rcases hbl b (by rw [hb0]; exact he.symm) with h5 | h5
              · omega
              · exact hbi h5
          · cases h
        · cases h
      · cases h
    · cases h
  · cases h
theorem y_append (hs : St c H θ w sl a) {k : Nat} (hk : ¬ H.ref k) {ts : Array TypeId} {x y : Operand} (ho : o.op = .call { callee := .builtin .append, args := #[x, y], argTypes := ts })
    (h : aappend P k H ts (aev sl x) (aev sl y) = some (r, H')) : Yields P c o a w sl H θ r H' := by
  unfold aappend at h
  split at h
  · rename_i t t' hts
    split at h
    · rename_i htt
      subst htt
      have hts' : ts = #[t, t] := by
        apply Array.ext'
        simpa using hts
      subst hts'
      split at h
      · rename_i e ht
        split at h
        · exact y_appendA hs hk ho ht h
        · exact y_appendD hs hk ho ht h
      · cases h
    · cases h
  · cases h
end
end Go.Ab
