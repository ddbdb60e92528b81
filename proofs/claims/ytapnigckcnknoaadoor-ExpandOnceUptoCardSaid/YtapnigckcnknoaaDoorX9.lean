/-
  One text of the proof (own work): contracts of functions of the program, by the abstract machine.
-/
import Derived.Test.YtapnigckcnknoaaDoorX8
set_option linter.unusedVariables false
set_option linter.unusedSimpArgs false
namespace Go.Ab
open Go Go.RowKit
def calmB : Builtin → Bool
  | .len | .max | .min => true
  | _ => false
def CSpec.fits (s : CSpec) (H : Heap) (xs : List AV) : Bool := match s with
  | .pure true _ => true
  | .pure false _ => xs.all (·.closed H)
  | .own _ => false
  | .loc _ => false
def qloc (H : Heap) (g : List AV → List Obj → Option (AV × List Obj)) (xs : List AV) : Option AV := match xs.foldl (foot H 6) [] with
  | [] => match g (rens H (idxOf []) xs) [] with
    | some (.data d, []) => some (.data d)
    | _ => none
  | _ => none
def qstep (P : Program) (Γ : FuncId → Option CSpec) (sl : List AV) (H : Heap) : Op → Option AV
  | .move x | .assign x => some (aev sl x)
  | .pick c x y => match aev sl c with
    | .data (.bool b) => some (if b then aev sl x else aev sl y)
    | _ => none
  | .build t parts => abuild P t (parts.toList.map fun (i, x) => (i, aev sl x))
  | .buildSlice t len parts => match abuildSlice P 0 ⟨[], 0⟩ t len (parts.toList.map fun (i, x) => (i, aev sl x)) with
    | some (_, H') => match H'.get 0 with
      | some (.row _ _ l) => some (.data (.list l))
      | _ => none
    | none => none
  | .load t x => aload P H t (aev sl x)
  | .binOp op t x y _ => abin P op t (aev sl x) (aev sl y)
  | .unOp op _ x => aun op (aev sl x)
  | .nilCheck x => anil H (aev sl x)
  | .makeSlice t l c => match amake P 0 ⟨[], 0⟩ t (aev sl l) (aev sl c) with
    | some (_, H') => match H'.get 0 with
      | some (.row _ _ l) => some (.data (.list l))
      | _ => none
    | none => none
  | .fieldAddr s x f => afield P H s (aev sl x) f
  | .field s x f => afieldV P s (aev sl x) f
  | .indexAddr t x i => aindex P H t (aev sl x) (aev sl i)
  | .extract x i => aextract (aev sl x) i
  | .index t x i => asIndex P t (aev sl x) (aev sl i)
  | .convert s d x => match P.underlying s, P.underlying d with
    | some (.slice _), some .string => (aconvertS P 0 H s d (aev sl x)).map (·.1)
    | _, _ => aconvert P s d (aev sl x)
  | .lookup t x i ok => alookup P H t (aev sl x) (aev sl i) ok
  | .slice t x lo hi mx => if (aev sl x).closed H then (aslice P H t (aev sl x) (lo.map (aev sl)) (hi.map (aev sl)) (mx.map (aev sl))).map (·.1) else none
  | .call c => match c.callee with
    | .builtin b => if calmB b then (abuiltin P 0 H b c.argTypes (c.args.toList.map (aev sl))).map (·.1) else none
    | .value f => match callee (aev sl f) with
      | some (f, caps) => match Γ f with
        | some (.loc g) => qloc H g (c.args.toList.map (aev sl) ++ caps)
        | some s => if s.fits H (c.args.toList.map (aev sl) ++ caps) then (acall 0 H s (c.args.toList.map (aev sl) ++ caps)).map (·.1) else none
        | none => none
      | none => none
    | .invoke _ _ => none
  | _ => none
section
variable {P : Program} {Γ : FuncId → Option CSpec} {c : Ctx} {H H' : Heap} {θ θ' : Nat → Value} {w w' : World} {sl : List AV} {a : Act} {o : Oper} {r : AV}
theorem freeze_id : ∀ (xs : List AV) (H : Heap), xs.all (·.closed H) = true → freeze H xs = some H
  | [], H, _ => rfl
  | x :: r, H, h => by
    simp only [List.all_cons, Bool.and_eq_true] at h
    have ih := freeze_id r H h.2
    have h1 := h.1
    cases x with
    | row o n =>
      simp only [AV.closed] at h1
      simp only [freeze]
      split at h1
      · rename_i l hg; rw [hg]; exact ih
      · cases h1
    | data d => simp only [freeze, AV.closed, if_true]; exact ih
    | nils => simp only [freeze, AV.closed, if_true]; exact ih
    | _ => simp [AV.closed] at h1
theorem acall_fits {s : CSpec} {xs : List AV} {k : Nat} {q : AV × Heap} (hf : s.fits H xs = true) (h : acall k H s xs = some q) : q.2 = H ∧ ∀ k', acall k' H s xs = some q := by
  obtain ⟨r, H'⟩ := q
  cases s with
  | pure fl g =>
    cases fl with
    | true =>
      refine ⟨?_, fun k' => h⟩
      simp only [acall] at h
      split at h
      · split at h
        · simp only [Option.some.injEq, Prod.mk.injEq] at h; exact h.2.symm
        · cases h
      · cases h
    | false =>
      refine ⟨?_, fun k' => h⟩
      simp only [acall, freeze_id xs H hf] at h
      split at h
      · split at h
        · simp only [Option.some.injEq, Prod.mk.injEq] at h; exact h.2.symm
        · cases h
      · cases h
  | own g => cases hf
  | loc g => cases hf
theorem abuiltin_calm {b : Builtin} {ts : Array TypeId} {xs : List AV} {k : Nat} {q : AV × Heap} (hf : calmB b = true) (h : abuiltin P k H b ts xs = some q) : q.2 = H ∧ ∀ k', abuiltin P k' H b ts xs = some q := by
  obtain ⟨r, H'⟩ := q
  cases b <;> simp only [calmB] at hf <;> try cases hf
  · refine ⟨?_, fun k' => ?_⟩
    · unfold abuiltin at h
      split at h <;> try (rename_i hh; cases hh)
      · split at h
        · split at h
          · simp only [Option.some.injEq, Prod.mk.injEq] at h; exact h.2.symm
          · cases h
        · cases h
      · cases h
    · unfold abuiltin at h ⊢
      split at h <;> first | exact h | (rename_i hh; cases hh)
  · refine ⟨?_, fun k' => ?_⟩
    · unfold abuiltin at h
      split at h <;> try (rename_i hh; cases hh)
      · split at h
        · simp only [Option.some.injEq, Prod.mk.injEq] at h; exact h.2.symm
        · cases h
      · cases h
    · unfold abuiltin at h ⊢
      split at h <;> first | exact h | (rename_i hh; cases hh)
  · refine ⟨?_, fun k' => ?_⟩
    · unfold abuiltin at h
      split at h <;> try (rename_i hh; cases hh)
      · split at h
        · simp only [Option.some.injEq, Prod.mk.injEq] at h; exact h.2.symm
        · cases h
      · cases h
    · unfold abuiltin at h ⊢
      split at h <;> first | exact h | (rename_i hh; cases hh)
theorem asList_closed {x : AV} {q : List D × Heap} (hc : x.closed H = true) (h : asList H x = some q) : q.2 = H := by
  obtain ⟨l, H'⟩ := q
  cases x with
  | data d =>
    cases d <;> simp only [asList] at h <;> try cases h
    rfl
  | nils => simp only [asList, Option.some.injEq, Prod.mk.injEq] at h; exact h.2.symm
  | row o n =>
    simp only [AV.closed] at hc
    simp only [asList] at h
    split at hc
    · rename_i l hg
      simp only [hg] at h
      split at h
      · simp only [Option.some.injEq, Prod.mk.injEq] at h; exact h.2.symm
      · cases h
    · cases hc
  | _ => simp [asList] at h
theorem aslice_closed {t : TypeId} {x : AV} {lo hi mx : Option AV} {q : AV × Heap} (hc : x.closed H = true) (h : aslice P H t x lo hi mx = some q) : q.2 = H := by
  obtain ⟨r, H'⟩ := q
  unfold aslice at h
  split at h
  · split at h
    · split at h
      · rename_i hl
        split at h
        · split at h
          · simp only [Option.some.injEq, Prod.mk.injEq] at h
            have := asList_closed hc hl
            rw [← h.2]; exact this
          · cases h
        · cases h
      · cases h
    · cases h
  · split at h
    · split at h
      · split at h
        · simp only [Option.some.injEq, Prod.mk.injEq] at h; exact h.2.symm
        · cases h
      · cases h
    · split at h
      · rename_i hl
        split at h
        · split at h
          · simp only [Option.some.injEq, Prod.mk.injEq] at h
            have := asList_closed hc hl
            rw [← h.2]; exact this
          · cases h
        · cases h
      · cases h
    · cases h
theorem own_reads {B : Nat → Prop} {l : List D} {e : TypeId} {sz base : Nat} {v : Value} {vs : List Value} (hcl : ∀ d ∈ l, d.cells.length = sz) (hone : ∀ d ∈ flat l, d.one = true)
    (hown : ownsM w base e sz v l.length vs) (hB : ∀ b, blk v = some b → B b) (hvs : ∀ i (hi : i < (flat l).length) u, vs[i]? = some u → DR w B ((flat l)[i]) u) : DR w B (.list l) v := by
  have hlen := flat_length hcl
  rcases hown.2 with ⟨h1, h3⟩ | ⟨g, cap, cur, h1, _, ⟨_, hh, _⟩, hnc, hrest⟩
  · have : l = [] := List.eq_nil_of_length_eq_zero h3
    subst this
    rw [h1]
    exact .empty none 0
  · have hcell := hown.cells (g := g) (by rw [h1]; rfl)
    have hBg := hB g (by rw [h1]; rfl)
    rw [h1]
    refine .list l ⟨g, 0, none⟩ cap sz (fun i => vs.getD i undef) hBg hnc hcl hone (fun i hi => ?_) (fun i hi => ?_)
    · have : i < vs.length := by rw [hown.1, ← hlen]; exact hi
      exact hcell i _ (by simp [this])
    · have : i < vs.length := by rw [hown.1, ← hlen]; exact hi
      exact hvs i hi _ (by simp [this])
theorem q_buildSlice (hs : St c H θ w sl a) {t : TypeId} {len : Nat} {parts : Array (Nat × Operand)} (ho : o.op = .buildSlice t len parts)
    (h : qstep P Γ sl H (.buildSlice t len parts) = some r) : Yields P c o a w sl H θ r H := by
  simp only [qstep, abuildSlice] at h
  split at h
  · rename_i H' hb
    split at hb
    · rename_i e ht
      split at hb
      · rename_i sz z hsz hz
        split at hb
        · rename_i hlen
          split at hb
          · rename_i ds hds
            simp only [Option.some.injEq, Prod.mk.injEq] at hb
            obtain ⟨-, rfl⟩ := hb
            simp only [Heap.get_set, if_true, Option.some.injEq] at h
            subst h
            obtain ⟨hl1, hl2⟩ := hlen
            simp only [List.length_map, Array.length_toList] at hl1
            have hz' := hz
            simp only [tzero, Option.bind_eq_some_iff] at hz'
            obtain ⟨i, hi, hzz⟩ := hz'
            have fillAll : ∀ (z : Array Value), z.size = len * (sz + 1) → ∃ vs' : List Value, Instr.fill (fun i => some (i * (sz + 1), sz + 1)) z (parts.toList.map fun (i, x) => (i, a.eval x)) = some vs'.toArray ∧ vs'.length = len * (sz + 1) ∧ ds.length = len ∧ (∀ d ∈ ds, d.cells.length = sz + 1) ∧ (∀ d ∈ flat ds, d.one = true) ∧
                ∀ j (hj : j < (flat ds).length) u, vs'[j]? = some u → DR w (vis c H θ w) ((flat ds)[j]) u := by
              intro z hz
              obtain ⟨vs', h1, h2, h3, h4, h5, _, h7⟩ := fill_parts parts.toList a.eval (aev sl) 0 z.toList ds (fun x => aev_sound hs x) (by simp [hz, hl1]) hds
              refine ⟨vs', by simpa using h1, by simpa [hz] using h2, by simpa [hl1] using h3, h4, h5, fun j hj u hu => h7 j hj u (by simpa using hu)⟩
            have hmap : (Array.map (fun x => (x.1, a.eval x.2)) parts).toList = parts.toList.map fun x => (x.1, a.eval x.2) := by simp
            have hng : ¬ len * (sz + 1) > 2 ^ 24 := by simp; omega
            have run : ∃ vs' : List Value, (execOp a.eval o).run P w = .ok (.value (.slice (some ⟨w.heap.size, 0, none⟩) len len)) (w.alloc (.cells vs'.toArray e)) ∧ vs'.length = len * (sz + 1) ∧ ds.length = len ∧ (∀ d ∈ ds, d.cells.length = sz + 1) ∧ (∀ d ∈ flat ds, d.one = true) ∧
                ∀ j (hj : j < (flat ds).length) u, vs'[j]? = some u → DR w (vis c H θ w) ((flat ds)[j]) u := by
              by_cases h0 : len * (sz + 1) = 0
              · obtain ⟨vs', h1, h2⟩ := fillAll ((Array.range (len * (sz + 1))).map ((#[] : Array Value)[· % (#[] : Array Value).size]!)) (by simp)
                refine ⟨vs', ?_, h2⟩
                simp only [execOp, ho, Instr.buildSlice, Sem.run_bind, run_underlying (telem_some ht), Result.andThen_ok, run_sizeOf' hsz, hng, if_false, Nat.succ_eq_add_one, Sem.run_ite, if_pos h0, Sem.run_pure, hmap, h1, newRow, run_newObj, World.alloc_eq]
              · obtain ⟨vs', h1, h2⟩ := fillAll ((Array.range (len * (sz + 1))).map (z.cells[· % z.cells.size]!)) (by simp)
                refine ⟨vs', ?_, h2⟩
                simp only [execOp, ho, Instr.buildSlice, Sem.run_bind, run_underlying (telem_some ht), Result.andThen_ok, run_sizeOf' hsz, hng, if_false, Nat.succ_eq_add_one, Sem.run_ite, if_neg h0, Sem.run_pure, zeroValue, typeInfo, run_program, hi, hzz, hmap, h1, newRow, run_newObj, World.alloc_eq]
            obtain ⟨vs', hr, h2, h3, h4, h5, h6⟩ := run
            have hlm : len ≤ maxLen := by
              have : len ≤ len * (sz + 1) := Nat.le_mul_of_pos_right _ (by omega)
              simp only [maxLen]
              omega
            have hown := ownsM_lit (e := e) (sz := sz + 1) (base := w.heap.size) w vs'.toArray len (Nat.le_refl _) hlm (by simpa using h2)
            rw [← h3] at hown
            have hg := hs.sim.grow (w' := w.alloc (.cells vs'.toArray e)) (fun b hb => Below.heap_alloc w _ b hb) (by simp)
            refine .value (w' := w.alloc (.cells vs'.toArray e)) (θ' := θ) hr (.data _ _ (own_reads h4 h5 (by rw [← h3]; exact hown) (fun b hb => ?_) fun i hi u hu => ?_)) (hs.grow (fun b hb => Below.heap_alloc w _ b hb) (by simp)) ⟨rfl, rfl, rfl, by simp, fun b hb _ => Below.heap_alloc w _ b (Nat.lt_of_lt_of_le hb hs.sim.size)⟩ (HLe.refl _ _)
            · simp only [blk, Option.some.injEq] at hb
              have hbw : b = w.heap.size := by rw [← hb]
              refine ⟨by rw [hbw]; simp, fun ⟨ob, x, hg1, hg2, hg3⟩ => ?_, fun hlt => ?_⟩
              · have := (hs.sim.objs ob x hg1).lt hg2 hg3
                omega
              · have := hs.sim.size
                omega
            · exact (h6 i hi u (by simpa using hu)).mono fun b hb => hg.2 b hb
          · cases hb
        · cases hb
      · cases hb
    · cases hb
  · cases h
theorem q_makeSlice (hs : St c H θ w sl a) {t : TypeId} {x y : Operand} (ho : o.op = .makeSlice t x y)
    (h : qstep P Γ sl H (.makeSlice t x y) = some r) : Yields P c o a w sl H θ r H := by
  have hx := aev_sound hs x
  have hy := aev_sound hs y
  simp only [qstep, amake] at h
  split at h
  · rename_i H' hb
    split at hb
    · rename_i e k1 n k2 m ht hxn hym
      rw [hxn] at hx
      rw [hym] at hy
      have hx' := hx.data_inv.int_eq
      have hy' := hy.data_inv.int_eq
      split at hb
      · rename_i sz b z hsz hby hz
        split at hb
        · rename_i d hd
          split at hb
          · rename_i hc
            obtain ⟨rfl, hn0, hbytes, hmax, hdl, hdo⟩ := hc
            simp only [Option.some.injEq, Prod.mk.injEq] at hb
            obtain ⟨-, rfl⟩ := hb
            simp only [Heap.get_set, if_true, Option.some.injEq] at h
            subst h
            obtain ⟨N, rfl⟩ := Int.eq_ofNat_of_zero_le hn0
            simp only [Int.toNat_natCast] at *
            simp only [tzero, Option.bind_eq_some_iff] at hz
            obtain ⟨i, hi, hzz⟩ := hz
            simp only [tsize, hi, Option.map_some, Option.some.injEq] at hsz
            simp only [tbytes, hi, Option.map_some, Option.some.injEq] at hby
            subst hby
            obtain ⟨w', hr, hown, hg⟩ := run_make_full (P := P) w w.heap.size t e i z (sz + 1) (telem_some ht) hi hzz hsz k1 k2 N hbytes hmax (Nat.le_refl _)
            replace hown := ownsM.of hown
            obtain ⟨hzc, hzd⟩ := plain_cells (cav_sound (H := H) (θ := θ) (w := w) (B := vis c H θ w) z) hd hdo
            have hall : ∀ y ∈ List.replicate N d, y.cells.length = sz + 1 := fun y hy => by rw [List.eq_of_mem_replicate hy]; exact hdl
            have hown' : ownsM w' w.heap.size e (sz + 1) (.slice (some ⟨w.heap.size, 0, none⟩) N N) (List.replicate N d).length (madeCells z.cells (N * (sz + 1))).toList := by simpa using hown
            have hone : ∀ y ∈ flat (List.replicate N d), y.one = true := fun y hy => by
              obtain ⟨j, hj, rfl⟩ := List.mem_iff_getElem.1 hy
              obtain ⟨h1, h2⟩ := replicate_flat j hj (by omega)
              rw [h2]
              exact List.all_eq_true.1 hdo _ (List.getElem_mem h1)
            have hval : ∀ j (hj : j < (flat (List.replicate N d)).length) u, (madeCells z.cells (N * (sz + 1))).toList[j]? = some u → DR w (vis c H θ w) ((flat (List.replicate N d))[j]) u := fun j hj u hu => by
              obtain ⟨h1, h2⟩ := replicate_flat j hj (by omega)
              rw [h2]
              have hlt : j < N * (sz + 1) := by rw [flat_length hall, List.length_replicate] at hj; exact hj
              simp only [madeCells, Array.toList_map, Array.toList_range, List.getElem?_map, List.getElem?_range hlt, Option.map_some, Option.some.injEq] at hu
              have h1' : j % z.cells.size < z.cells.size := by rw [hzc]; exact h1
              have e2 : z.cells[j % z.cells.size]? = some u := by
                rw [← hu]
                simp [h1']
              rw [hzc] at e2
              exact (hzd _ h1 u e2).1
            have hblk : ∀ b, b < w.heap.size → w'.heap[b]? = w.heap[b]? := fun b hb => hg.block b hb (by simp)
            have hgr := hs.sim.grow (w' := w') hblk hg.size
            have hlt : w.heap.size < w'.heap.size := by
              rcases hown'.2 with ⟨h1, _⟩ | ⟨g, cap, cur, h1, _, ⟨_, hh, _⟩, _⟩
              · cases h1
              · simp only [Value.slice.injEq, Option.some.injEq, Addr.mk.injEq] at h1
                have := heap_lt hh
                omega
            refine .value (v := .slice (some ⟨w.heap.size, 0, none⟩) N N) (w' := w') (θ' := θ) ?_ (.data _ _ (own_reads hall hone hown' (fun b hb => ?_) fun i hi u hu => (hval i hi u hu).mono fun b hb => hgr.2 b hb)) (hs.grow hblk hg.size) ⟨hg.os, hg.tape, hg.output, hg.size, fun b hb _ => hblk b (Nat.lt_of_lt_of_le hb hs.sim.size)⟩ (HLe.refl _ _)
            · simp only [execOp, ho, hx', hy', Sem.run_bind]
              have := hr
              simp only [this, Result.andThen_ok, Sem.run_pure]
            · simp only [blk, Option.some.injEq] at hb
              have hbw : b = w.heap.size := by rw [← hb]
              refine ⟨by omega, fun ⟨ob, x, hg1, hg2, hg3⟩ => ?_, fun hlt => ?_⟩
              · have := (hs.sim.objs ob x hg1).lt hg2 hg3
                omega
              · have := hs.sim.size
                omega
          · cases hb
        · cases hb
      · cases hb
    · cases hb
  · cases h
theorem qstep_sound' {m : Nat} (hΓ : ∀ f s, Γ f = some s → SpecOK P f s) (hs : St c H θ w sl a) (hm : H.next ≤ m) (hk : H.bnd m) (hno : m = H.next ∨ ∀ cl, o.op ≠ .call cl) (h : qstep P Γ sl H o.op = some r) : Yields P c o a w sl H θ r H := by
  have via : ∀ q : AV × Heap, astep P Γ false m sl H o.op = some q → q.1 = r → q.2 = H → Yields P c o a w sl H θ r H := by
    rintro ⟨r', H'⟩ h1 h2 h3
    dsimp only at h2 h3
    subst h2
    subst h3
    exact (astep_sound hΓ hs hk hm h1).1
  cases hop : o.op with
  | move x => rw [hop] at h via; simp only [qstep, Option.some.injEq] at h; exact via (aev sl x, H) rfl h rfl
  | assign x => rw [hop] at h via; simp only [qstep, Option.some.injEq] at h; exact via (aev sl x, H) rfl h rfl
  | pick x y z =>
    rw [hop] at h via
    simp only [qstep] at h
    split at h
    · rename_i b hb
      simp only [Option.some.injEq] at h
      exact via (if b then aev sl y else aev sl z, H) (by simp only [astep, hb]) h rfl
    · cases h
  | build t parts => rw [hop] at h via; simp only [qstep] at h; exact via (r, H) (by simp only [astep, h, Option.map_some]) rfl rfl
  | buildSlice t n parts => rw [hop] at h; exact q_buildSlice hs hop h
  | load t x => rw [hop] at h via; simp only [qstep] at h; exact via (r, H) (by simp only [astep, h, Option.map_some]) rfl rfl
  | binOp op t x y t' => rw [hop] at h via; simp only [qstep] at h; exact via (r, H) (by simp only [astep, h, Option.map_some]) rfl rfl
  | nilCheck x => rw [hop] at h via; simp only [qstep] at h; exact via (r, H) (by simp only [astep, h, Option.map_some]) rfl rfl
  | makeSlice t x y => rw [hop] at h; exact q_makeSlice hs hop h
  | unOp op t x => rw [hop] at h via; simp only [qstep] at h; exact via (r, H) (by simp only [astep, h, Option.map_some]) rfl rfl
  | fieldAddr s x f => rw [hop] at h via; simp only [qstep] at h; exact via (r, H) (by simp only [astep, h, Option.map_some]) rfl rfl
  | field s x f => rw [hop] at h via; simp only [qstep] at h; exact via (r, H) (by simp only [astep, h, Option.map_some]) rfl rfl
  | indexAddr t x i => rw [hop] at h via; simp only [qstep] at h; exact via (r, H) (by simp only [astep, h, Option.map_some]) rfl rfl
  | extract x i => rw [hop] at h via; simp only [qstep] at h; exact via (r, H) (by simp only [astep, h, Option.map_some]) rfl rfl
  | index t x i => rw [hop] at h via; simp only [qstep] at h; exact via (r, H) (by simp only [astep, h, Option.map_some]) rfl rfl
  | convert s d x =>
    rw [hop] at h via
    simp only [qstep] at h
    split at h
    · rename_i e he hd
      unfold aconvertS at h
      rw [he, hd] at h
      refine via (r, H) ?_ rfl rfl
      simp only [astep]
      unfold aconvertS
      rw [he, hd]
      dsimp only at h ⊢
      split at h
      · rename_i l h1 h2
        try rw [h1, h2]
        try dsimp only
        split at h
        · rename_i s' hs'
          try rw [hs']
          simp only [Option.map_some, Option.some.injEq] at h
          rw [← h]
        · cases h
      · cases h
    · exact via (r, H) (by simp only [astep]; exact aconvertS_num h) rfl rfl
  | lookup t x i ok => rw [hop] at h via; simp only [qstep] at h; exact via (r, H) (by simp only [astep, h, Option.map_some]) rfl rfl
  | slice t x lo hi mx =>
    rw [hop] at h via
    simp only [qstep] at h
    split at h
    · rename_i hc
      simp only [Option.map_eq_some_iff] at h
      obtain ⟨q, h1, h2⟩ := h
      exact via q (by simp only [astep]; exact h1) h2 (aslice_closed hc h1)
    · cases h
  | call cl =>
    rw [hop] at h via
    simp only [qstep] at h
    split at h
    · rename_i b hb
      split at h
      · rename_i hc
        simp only [Option.map_eq_some_iff] at h
        obtain ⟨q, h1, h2⟩ := h
        obtain ⟨h3, h4⟩ := abuiltin_calm hc h1
        exact via q (by simp only [astep, hb]; exact h4 _) h2 h3
      · cases h
    · rename_i f hf
      split at h
      · rename_i f' caps hcal
        split at h
        · rename_i g hS
          unfold qloc at h
          split at h
          · rename_i hfp
            split at h
            · rename_i d hg
              simp only [Option.some.injEq] at h
              obtain rfl : m = H.next := hno.resolve_right fun hno => hno _ hop
              refine via (.data d, H) ?_ h rfl
              simp only [astep, hf, callee_N hcal, hS, acall, callLoc, hfp, getAll, nodupB, if_true, List.map_nil, hg, List.length_nil, Nat.le_refl, putAll, ren, Nat.sub_self, Nat.add_zero]
            · cases h
          · cases h
        · rename_i s hS hno
          split at h
          · rename_i hc
            simp only [Option.map_eq_some_iff] at h
            obtain ⟨q, h1, h2⟩ := h
            obtain ⟨h3, h4⟩ := acall_fits hc h1
            exact via q (by simp only [astep, hf, callee_N hcal, hno]; exact h4 _) h2 h3
          · cases h
        · cases h
      · cases h
    · cases h
  | _ => rw [hop] at h; simp [qstep] at h
theorem qstep_sound (hΓ : ∀ f s, Γ f = some s → SpecOK P f s) (hs : St c H θ w sl a) (hk : H.bnd H.next) (h : qstep P Γ sl H o.op = some r) : Yields P c o a w sl H θ r H := qstep_sound' hΓ hs (Nat.le_refl _) hk (.inl rfl) h
theorem qstep_congr {sl sl' : List AV} {op : Op} (h : ∀ x ∈ op.operands, aev sl x = aev sl' x) : qstep P Γ sl H op = qstep P Γ sl' H op := by
  have pairs : ∀ ps : Array (Nat × Operand), (∀ x ∈ ps.map (·.2), aev sl x = aev sl' x) →
      (ps.toList.map fun (i, x) => (i, aev sl x)) = (ps.toList.map fun (i, x) => (i, aev sl' x)) := fun ps hp =>
    List.map_congr_left fun p hm => by
      obtain ⟨i, x⟩ := p
      simp only [hp x (Array.mem_map.2 ⟨(i, x), by simpa using hm, rfl⟩)]
  cases op <;> simp only [Op.operands] at h <;> simp only [qstep]
  case build t ps => rw [pairs ps fun x hx => h x (by simpa using hx)]
  case buildSlice t n ps => rw [pairs ps fun x hx => h x (by simpa using hx)]
  case call c =>
    have hargs : c.args.toList.map (aev sl) = c.args.toList.map (aev sl') := by
      refine List.map_congr_left fun x hx => h x ?_
      have h2 : x ∈ c.args := by simpa using hx
      simp [Call.operands, h2]
    simp only [hargs]
    cases hc : c.callee with
    | value f => have hf : aev sl f = aev sl' f := h f (by simp [Call.operands, hc]); simp only [hf]
    | invoke r m => rfl
    | builtin b => rfl
  case slice t x lo hi mx => cases lo <;> cases hi <;> cases mx <;> simp_all
  all_goals (first | rfl | (simp_all; done))
def qval (P : Program) (Γ : FuncId → Option CSpec) (ops : Array Oper) (H : Heap) (sl : List AV) (o : Oper) : Option AV := match wantedA ops sl o with
  | some true => qstep P Γ sl H o.op
  | some false => some (.tup [])
  | none => none
def qruns (P : Program) (Γ : FuncId → Option CSpec) (ops : Array Oper) (H : Heap) : List Oper → List AV → Option (List AV)
  | [], sl => some sl
  | o :: l, sl => match qval P Γ ops H sl o with
    | some x => qruns P Γ ops H l (putA sl o.dst x)
    | none => none
theorem qval_congr {ops : Array Oper} {sl sl' : List AV} (h : ∀ t ∈ o.looksAt ops, sl.getD t .junk = sl'.getD t .junk) : qval P Γ ops H sl o = qval P Γ ops H sl' o := by
  have hw : wantedA ops sl o = wantedA ops sl' o := by
    unfold wantedA
    cases hg : o.guard with
    | none => rfl
    | some gw =>
      obtain ⟨g, want⟩ := gw
      dsimp only
      cases ht : (ops[g]?).bind (·.dst) with
      | none => rfl
      | some t =>
        have := h t (by simp [Oper.looksAt, hg, ht])
        simp only [this]
  have hq : qstep P Γ sl H o.op = qstep P Γ sl' H o.op := qstep_congr fun x hx => by
    cases x with
    | tmp t => exact h t (List.mem_append_left _ (List.mem_filterMap.2 ⟨.tmp t, by simpa using hx, rfl⟩))
    | _ => rfl
  unfold qval
  rw [hw, hq]
theorem putA_length (sl : List AV) (d : Option Nat) (x : AV) : (putA sl d x).length = sl.length := by cases d <;> simp [putA]
theorem putA_get (sl : List AV) (d : Option Nat) (x : AV) (t : Nat) : (putA sl d x).getD t .junk = if d = some t ∧ t < sl.length then x else sl.getD t .junk := by
  cases d with
  | none => simp [putA]
  | some d =>
    simp only [putA, List.getD_eq_getElem?_getD, List.getElem?_set, Option.some.injEq]
    by_cases hd : d = t
    · subst hd
      simp only [if_true, true_and]
      split
      · simp
      · rename_i hh; rw [List.getElem?_eq_none (by omega)]
    · simp [hd]
def edgeTo (o : Oper) (i : Nat) : Bool := o.after.toList.any fun e => Region.binds .any e && e.on == i
def backs (o : Oper) (j : Nat) : Bool := o.after.all fun e => !Region.binds .any e || decide (e.on < j)
def drawOK (ops : Array Oper) (n1 : Nat) : Bool :=
  decide (n1 ≤ ops.size) && (List.range ops.size).all fun j => match ops[j]? with
    | some oj => backs oj j && (List.range j).all fun i => edgeTo oj i || (decide (j < n1) && match ops[i]? with
        | some oi => oi.apart ops oj
        | none => false)
    | none => false
theorem drawOK_spec {ops : Array Oper} {n1 : Nat} (h : drawOK ops n1 = true) : n1 ≤ ops.size ∧ ∀ j oj, ops[j]? = some oj → (∀ e ∈ oj.after, Region.binds .any e = true → e.on < j) ∧
    ∀ i oi, ops[i]? = some oi → i < j → (∃ e ∈ oj.after, Region.binds .any e = true ∧ e.on = i) ∨ (j < n1 ∧ oi.apart ops oj = true) := by
  simp only [drawOK, Bool.and_eq_true, decide_eq_true_eq, List.all_eq_true, List.mem_range] at h
  refine ⟨h.1, fun j oj hj => ?_⟩
  have hlt : j < ops.size := (Array.getElem?_eq_some_iff.1 hj).1
  have h2 := h.2 j hlt
  simp only [hj, Bool.and_eq_true, List.all_eq_true, List.mem_range] at h2
  refine ⟨fun e he hb => ?_, fun i oi hi hij => ?_⟩
  · have := h2.1
    simp only [backs, Array.all_eq_true_iff_forall_mem, Bool.or_eq_true, Bool.not_eq_true', decide_eq_true_eq] at this
    rcases this e he with h3 | h3
    · rw [hb] at h3; cases h3
    · exact h3
  · have := h2.2 i hij
    simp only [hi, Bool.or_eq_true, Bool.and_eq_true, decide_eq_true_eq] at this
    rcases this with h3 | h3
    · simp only [edgeTo, List.any_eq_true, Bool.and_eq_true, beq_iff_eq] at h3
      obtain ⟨e, he, hb, ho⟩ := h3
      exact .inl ⟨e, by simpa using he, hb, ho⟩
    · exact .inr h3
theorem qruns_append {ops : Array Oper} : ∀ (l r : List Oper) (sl : List AV), qruns P Γ ops H (l ++ r) sl = (qruns P Γ ops H l sl).bind (qruns P Γ ops H r)
  | [], r, sl => rfl
  | o :: l, r, sl => by
    simp only [List.cons_append, qruns]
    split
    · exact qruns_append l r _
    · rfl
theorem lex_states {ops : Array Oper} {n1 : Nat} (hn : n1 ≤ ops.size) {sl1 : List AV} (h : qruns P Γ ops H (ops.toList.take n1) sl = some sl1) :
    ∃ L : Nat → List AV, L 0 = sl ∧ L n1 = sl1 ∧ ∀ i o, i < n1 → ops[i]? = some o → ∃ x, qval P Γ ops H (L i) o = some x ∧ L (i + 1) = putA (L i) o.dst x := by
  refine ⟨fun i => (qruns P Γ ops H (ops.toList.take i) sl).getD [], by simp [qruns], by simp [h], fun i o hi ho => ?_⟩
  have hsome : ∀ i, i ≤ n1 → ∃ l, qruns P Γ ops H (ops.toList.take i) sl = some l := by
    intro i hi
    have h1 := (List.take_append_drop i (ops.toList.take n1)).symm
    rw [List.take_take, Nat.min_eq_left hi] at h1
    rw [h1, qruns_append] at h
    cases hq : qruns P Γ ops H (ops.toList.take i) sl with
    | none => rw [hq] at h; cases h
    | some l => exact ⟨l, rfl⟩
  obtain ⟨l, hl⟩ := hsome i (by omega)
  obtain ⟨l', hl'⟩ := hsome (i + 1) (by omega)
  have hstep : ops.toList.take (i + 1) = ops.toList.take i ++ [o] := by
    rw [List.take_add_one]
    congr 1
    have : ops.toList[i]? = some o := by simpa using ho
    rw [this]
    rfl
  have h2 := hl'
  rw [hstep, qruns_append, hl] at h2
  simp only [Option.bind_some, qruns] at h2
  dsimp only
  rw [hl, hl']
  simp only [Option.getD_some]
  split at h2
  · rename_i x hx
    simp only [Option.some.injEq] at h2
    exact ⟨x, hx, h2.symm⟩
  · cases h2
theorem listed_set {listed : Array Bool} {j i : Nat} (hj : j < listed.size) : (listed.setIfInBounds j true).getD i false = (decide (i = j) || listed.getD i false) := by
  by_cases h : j = i
  · subst h; simp [hj]
  · rw [getD_set_ne false h]
    simp [Ne.symm h]
theorem getD_sz {listed : Array Bool} {i : Nat} (h : i < listed.size) (b b' : Bool) : listed.getD i b = listed.getD i b' := by simp [h]
structure Mid (ops : Array Oper) (n1 : Nat) (L : Nat → List AV) (listed : Array Bool) (cur : List AV) : Prop where
  size : listed.size = ops.size
  closed : ∀ i o, ops[i]? = some o → listed.getD i false = true → ∀ e ∈ o.after, Region.binds .any e = true → listed.getD e.on false = true
  below : ∀ i, listed.getD i false = true → i < n1
  len : ∀ i, i ≤ n1 → (L i).length = cur.length
  slot : ∀ t, ∃ m, m ≤ n1 ∧ (∀ i o, i < n1 → ops[i]? = some o → o.dst = some t → (listed.getD i false = true ↔ i < m)) ∧ cur.getD t .junk = (L m).getD t .junk
variable {ops : Array Oper} {n1 : Nat} {L : Nat → List AV} {listed : Array Bool} {cur : List AV}
def Lex (ops : Array Oper) (n1 : Nat) (L : Nat → List AV) : Prop := ∀ i o, i < n1 → ops[i]? = some o → ∃ x, L (i + 1) = putA (L i) o.dst x
theorem same_between (hL : Lex ops n1 L) (hn : n1 ≤ ops.size) {t m m' : Nat} (hm : m ≤ m') (hm' : m' ≤ n1)
    (hno : ∀ i o, m ≤ i → i < m' → ops[i]? = some o → o.dst ≠ some t) : (L m').getD t .junk = (L m).getD t .junk := by
  induction m' with
  | zero => obtain rfl : m = 0 := by omega
            rfl
  | succ k ih =>
    by_cases hk : m = k + 1
    · subst hk; rfl
    · obtain ⟨o, ho⟩ : ∃ o, ops[k]? = some o := ⟨_, Array.getElem?_eq_getElem (by omega)⟩
      obtain ⟨x, hx⟩ := hL k o (by omega) ho
      rw [hx, putA_get, if_neg (fun h => hno k o (by omega) (by omega) ho h.1)]
      exact ih (by omega) (by omega) fun i o h1 h2 => hno i o h1 (by omega)
theorem Mid.look (hd : drawOK ops n1 = true) (hL : Lex ops n1 L) (hm : Mid ops n1 L listed cur)
    {j : Nat} {oj : Oper} (hj : ops[j]? = some oj) (hj1 : j < n1) (hun : listed.getD j false = false) (hr : ∀ e ∈ oj.after, Region.binds .any e = true → listed.getD e.on false = true)
    {t : Nat} (ht : t ∈ oj.looksAt ops) : cur.getD t .junk = (L j).getD t .junk := by
  obtain ⟨hn, hspec⟩ := drawOK_spec hd
  obtain ⟨m, hm1, hw, he⟩ := hm.slot t
  rw [he]
  have hwr : ∀ i o, i < n1 → ops[i]? = some o → o.dst = some t → (listed.getD i false = true ↔ i < j) := by
    intro i o hi ho hdst
    constructor
    · intro hl
      rcases Nat.lt_trichotomy i j with h1 | h1 | h1
      · exact h1
      · subst h1; rw [hl] at hun; cases hun
      · rcases (hspec i o ho).2 j oj hj h1 with ⟨e, he, hb, hon⟩ | ⟨_, hap⟩
        · have := hm.closed i o ho hl e he hb
          rw [hon] at this
          rw [this] at hun; cases hun
        · exact absurd ht ((Oper.apart_spec hap).2.2 t hdst)
    · intro hij
      rcases (hspec j oj hj).2 i o ho hij with ⟨e, he, hb, hon⟩ | ⟨_, hap⟩
      · rw [← hon]; exact hr e he hb
      · exact absurd ht ((Oper.apart_spec hap).1 t hdst)
  rcases Nat.le_total m j with h1 | h1
  · exact (same_between hL hn h1 (by omega) fun i o h2 h3 ho hdst => by
      have h4 := hw i o (by omega) ho hdst
      have h5 := hwr i o (by omega) ho hdst
      have := h4.1 (h5.2 h3)
      omega).symm
  · exact same_between hL hn h1 hm1 fun i o h2 h3 ho hdst => by
      have h4 := hw i o (by omega) ho hdst
      have h5 := hwr i o (by omega) ho hdst
      have := h5.1 (h4.2 h3)
      omega
theorem Mid.next (hd : drawOK ops n1 = true) (hL : Lex ops n1 L) (hm : Mid ops n1 L listed cur)
    {j : Nat} {oj : Oper} (hj : ops[j]? = some oj) (hj1 : j < n1) (hun : listed.getD j false = false) (hr : ∀ e ∈ oj.after, Region.binds .any e = true → listed.getD e.on false = true)
    {x : AV} (hx : L (j + 1) = putA (L j) oj.dst x) : Mid ops n1 L (listed.setIfInBounds j true) (putA cur oj.dst x) := by
  obtain ⟨hn, hspec⟩ := drawOK_spec hd
  have hsz : j < listed.size := by rw [hm.size]; omega
  refine ⟨by simp [hm.size], fun i o ho hl e he hb => ?_, fun i hl => ?_, fun i hi => by rw [putA_length]; exact hm.len i hi, fun t => ?_⟩
  · rw [listed_set hsz] at hl ⊢
    simp only [Bool.or_eq_true, decide_eq_true_eq] at hl ⊢
    rcases hl with rfl | hl
    · rw [hj] at ho
      cases ho
      exact .inr (hr e he hb)
    · exact .inr (hm.closed i o ho hl e he hb)
  · rw [listed_set hsz] at hl
    simp only [Bool.or_eq_true, decide_eq_true_eq] at hl
    rcases hl with rfl | hl
    · exact hj1
    · exact hm.below i hl
  · by_cases ht : oj.dst = some t
    · refine ⟨j + 1, by omega, fun i o hi ho hdst => ?_, ?_⟩
      · rw [listed_set hsz]
        simp only [Bool.or_eq_true, decide_eq_true_eq]
        constructor
        · rintro (rfl | hl)
          · omega
          · rcases Nat.lt_trichotomy i j with h1 | h1 | h1
            · omega
            · omega
            · rcases (hspec i o ho).2 j oj hj h1 with ⟨e, he, hb, hon⟩ | ⟨_, hap⟩
              · have := hm.closed i o ho hl e he hb
                rw [hon] at this
                rw [this] at hun; cases hun
              · exact absurd hdst ((Oper.apart_spec hap).2.1 t ht)
        · intro hij
          rcases Nat.lt_or_ge i j with h1 | h1
          · rcases (hspec j oj hj).2 i o ho h1 with ⟨e, he, hb, hon⟩ | ⟨_, hap⟩
            · rw [← hon]; exact .inr (hr e he hb)
            · exact absurd ht ((Oper.apart_spec hap).2.1 t hdst)
          · exact .inl (by omega)
      · rw [hx, putA_get, putA_get]
        have hlen := hm.len j (by omega)
        rw [hlen]
        by_cases hh : t < cur.length
        · rw [if_pos ⟨ht, hh⟩, if_pos ⟨ht, hh⟩]
        · rw [if_neg (fun h => hh h.2), if_neg (fun h => hh h.2), List.getD_eq_getElem?_getD, List.getElem?_eq_none (show cur.length ≤ t from Nat.le_of_not_lt hh), List.getD_eq_getElem?_getD, List.getElem?_eq_none (show (L j).length ≤ t from Nat.le_of_not_lt (hlen ▸ hh))]
    · obtain ⟨m, hm1, hw, he⟩ := hm.slot t
      refine ⟨m, hm1, fun i o hi ho hdst => ?_, by rw [putA_get, if_neg (fun h => ht h.1)]; exact he⟩
      rw [listed_set hsz, ← hw i o hi ho hdst]
      have : i ≠ j := by
        rintro rfl
        rw [hj] at ho
        cases ho
        exact ht hdst
      simp [this]
theorem Mid.done (hd : drawOK ops n1 = true) (hL : Lex ops n1 L) (hm : Mid ops n1 L listed cur)
    (hall : ∀ i, i < n1 → listed.getD i false = true) : cur = L n1 := by
  obtain ⟨hn, hspec⟩ := drawOK_spec hd
  refine List.ext_getElem (hm.len n1 (Nat.le_refl _)).symm fun t h1 h2 => ?_
  obtain ⟨m, hm1, hw, he⟩ := hm.slot t
  have h3 := same_between hL hn hm1 (Nat.le_refl _) (t := t) fun i o h4 h5 ho hdst => by
    have := (hw i o h5 ho hdst).1 (hall i h5)
    omega
  rw [List.getD_eq_getElem?_getD, List.getD_eq_getElem?_getD, List.getElem?_eq_getElem h1] at he
  rw [List.getD_eq_getElem?_getD, List.getD_eq_getElem?_getD, List.getElem?_eq_getElem h2] at h3
  simp only [Option.getD_some] at he h3
  rw [h3, he]
theorem St.drawn (hs : St c H θ w sl a) (n : Nat) : St c H θ { w with drawn := n } sl a := hs.grow (fun _ _ => rfl) (Nat.le_refl _)
theorem op_any (hΓ : ∀ f s, Γ f = some s → SpecOK P f s) {Q : Exit → Act → World → Prop} {i k : Nat} {nst : Bool} (hi : ops[i]? = some o) {sl1 : List AV} {H1 : Heap} (h1 : runOp P Γ nst k ops o sl H = some (sl1, H1))
    (hs : St c H θ w sl a) (hb : H.bnd k) (hn : H.next ≤ k) {K : Act → World → Prop} (hK : ∀ a' w' θ', St c H1 θ' w' sl1 a' → KeyOK H H1 k → Kept c w w' → HLe H θ H1 θ' → K a' w') : wpOp P ops Q i K a w := by
  unfold wpOp
  simp only [hi]
  unfold runOp at h1
  split at h1
  · rename_i hw
    have hwant := wanted_sound hs hw
    split at h1
    · rename_i r H2 hstep
      simp only [Option.some.injEq, Prod.mk.injEq] at h1
      obtain ⟨rfl, rfl⟩ := h1
      obtain ⟨hy, hkey⟩ := astep_sound hΓ hs hb hn hstep
      rw [if_pos hwant]
      exact .inl (hy K Q fun v w' θ' hv hs' hk' hl' => hK _ _ _ (hs'.putA hv _) hkey hk' hl')
    · cases h1
  · rename_i hw
    have hwant := wanted_sound hs hw
    simp only [Option.some.injEq, Prod.mk.injEq] at h1
    obtain ⟨rfl, rfl⟩ := h1
    rw [if_neg (by rw [hwant]; simp)]
    exact hK _ _ _ (hs.putA vr_undef _) ((KeyLe.refl _ _).ok hb) (.refl c w) (HLe.refl _ _)
  · cases h1
theorem op_quiet (hΓ : ∀ f s, Γ f = some s → SpecOK P f s) {Q : Exit → Act → World → Prop} {i : Nat} (hi : ops[i]? = some o) {x : AV} (h1 : qval P Γ ops H sl o = some x)
    (hs : St c H θ w sl a) (hk : H.bnd H.next) {K : Act → World → Prop} (hK : ∀ a' w' θ', St c H θ' w' (putA sl o.dst x) a' → Kept c w w' → HLe H θ H θ' → K a' w') : wpOp P ops Q i K a w := by
  unfold wpOp
  simp only [hi]
  unfold qval at h1
  split at h1
  · rename_i hw
    have hwant := wanted_sound hs hw
    rw [if_pos hwant]
    exact .inl (qstep_sound hΓ hs hk h1 K Q fun v w' θ' hv hs' hk' hl' => hK _ _ _ (hs'.putA hv _) hk' hl')
  · rename_i hw
    have hwant := wanted_sound hs hw
    simp only [Option.some.injEq] at h1
    subst h1
    rw [if_neg (by rw [hwant]; simp)]
    exact hK _ _ _ (hs.putA vr_undef _) (.refl c w) (HLe.refl _ _)
  · cases h1
theorem draw_tail {nst : Bool} (hΓ : ∀ f s, Γ f = some s → SpecOK P f s) (hd : drawOK ops n1 = true) {Q : Exit → Act → World → Prop} : ∀ (l : List Oper) (m k : Nat) (listed : Array Bool) (sl : List AV) (H : Heap) (θ : Nat → Value) (w : World) (a : Act) (sl' : List AV) (H' : Heap),
    n1 ≤ m → l = ops.toList.drop m → (∀ i, i < ops.size → listed.getD i true = decide (i < m)) → listed.size = ops.size → m ≤ ops.size →
    runOps P Γ nst ops k l sl H = some (sl', H') → St c H θ w sl a → H.bnd k → H.next ≤ k →
    (∀ a' w' θ', St c H' θ' w' sl' a' → H'.bnd H'.next → k ≤ H'.next → Kept c w w' → HLe H θ H' θ' → Q .normal a' w') → wpAny P .any ops Q (ops.size - m) listed a w
  | [], m, k, listed, sl, H, θ, w, a, sl', H', hnm, hl, hli, hsz, hm, h, hs, hb, hn, hQ => by
    simp only [runOps, Option.some.injEq, Prod.mk.injEq] at h
    obtain ⟨rfl, rfl⟩ := h
    have hme : m = ops.size := by
      have := congrArg List.length hl
      simp at this
      omega
    subst hme
    rw [Nat.sub_self]
    refine ⟨?_, hQ a w θ (hs.bump hn) (fun o ho => hb o ho) (Nat.le_refl _) (Kept.refl c w) (HLe.bump hn)⟩
    refine List.eq_nil_iff_forall_not_mem.2 fun j hj => ?_
    rw [mem_ready] at hj
    obtain ⟨h0, o, ho, _⟩ := hj
    have hlt : j < ops.size := (Array.getElem?_eq_some_iff.1 ho).1
    rw [hli j hlt] at h0
    simp at h0
    omega
  | o :: l, m, k, listed, sl, H, θ, w, a, sl', H', hnm, hl, hli, hsz, hm, h, hs, hb, hn, hQ => by
    obtain ⟨hn1, hspec⟩ := drawOK_spec hd
    have hmlt : m < ops.size := by
      have := congrArg List.length hl
      simp at this
      omega
    have hom : ops[m]? = some o := by
      have h1 : (ops.toList.drop m)[0]? = some o := by rw [← hl]; rfl
      simpa using h1
    have hrest : l = ops.toList.drop (m + 1) := by
      have := congrArg List.tail hl
      simpa [List.tail_drop] using this
    simp only [runOps] at h
    split at h
    · rename_i sl1 H1 h1
      have hfuel : ops.size - m = (ops.size - (m + 1)) + 1 := by omega
      rw [hfuel]
      have hready : m ∈ Region.ready .any ops listed := by
        rw [mem_ready]
        refine ⟨by rw [hli m hmlt]; simp, o, hom, fun e he hb => ?_⟩
        have h3 := (hspec m o hom).1 e he hb
        rw [getD_sz (by omega) false true, hli e.on (by omega)]
        simpa using h3
      refine ⟨fun hr => by rw [hr] at hready; simp at hready, fun j hj => ?_⟩
      have hjm : j = m := by
        rw [mem_ready] at hj
        obtain ⟨h0, oj, hoj, hall⟩ := hj
        have hlt : j < ops.size := (Array.getElem?_eq_some_iff.1 hoj).1
        rw [hli j hlt] at h0
        simp at h0
        rcases Nat.lt_or_ge m j with h3 | h3
        · rcases (hspec j oj hoj).2 m o hom h3 with ⟨e, he, hb, hon⟩ | ⟨h4, _⟩
          · have := hall e he hb
            rw [hon, getD_sz (by omega) false true, hli m hmlt] at this
            simp at this
          · omega
        · omega
      subst hjm
      refine op_any hΓ hom h1 hs hb hn fun a' w' θ' hs' hkey hk' hl' => ?_
      refine draw_tail hΓ hd l (j + 1) (nextK k H1) _ sl1 H1 θ' w' a' sl' H' (by omega) hrest (fun i hi => ?_) (by simp [hsz]) hmlt h hs' hkey.2 (nextK_ge _ _)
        fun a2 w2 θ2 hs2 hb2 hn2 hk2 hl2 => hQ a2 w2 θ2 hs2 hb2 (by have := nextK_gt k H1; omega) (hk'.trans hk2) (hl'.trans hl2)
      by_cases hij : i = j
      · subst hij
        simp [hmlt, hsz]
      · rw [getD_set_ne true (Ne.symm hij), hli i hi]
        have : (i < j) ↔ (i < j + 1) := by omega
        simp [this]
    · cases h
theorem draw_free (hΓ : ∀ f s, Γ f = some s → SpecOK P f s) (hd : drawOK ops n1 = true) (hL : ∀ i o, i < n1 → ops[i]? = some o → ∃ x, qval P Γ ops H (L i) o = some x ∧ L (i + 1) = putA (L i) o.dst x)
    (hk : H.bnd H.next) {Q : Exit → Act → World → Prop} : ∀ (n : Nat) (todo : List Nat) (listed : Array Bool) (cur : List AV) (θ : Nat → Value) (w : World) (a : Act), todo.length = n → todo.Nodup → (∀ i, i ∈ todo ↔ i < n1 ∧ listed.getD i false = false) →
    Mid ops n1 L listed cur → St c H θ w cur a →
    (∀ listed' θ' w' a', (∀ i, i < ops.size → listed'.getD i true = decide (i < n1)) → listed'.size = ops.size → St c H θ' w' (L n1) a' → Kept c w w' → HLe H θ H θ' → wpAny P .any ops Q (ops.size - n1) listed' a' w') →
    wpAny P .any ops Q (todo.length + (ops.size - n1)) listed a w := by
  obtain ⟨hn1, hspec⟩ := drawOK_spec hd
  have hLx : Lex ops n1 L := fun i o h1 h2 => (hL i o h1 h2).imp fun _ h => h.2
  intro n
  induction n with
  | zero =>
    intro todo listed cur θ w a hlen hnd htodo hm hs hK
    have hnil : todo = [] := List.eq_nil_of_length_eq_zero hlen
    subst hnil
    have hall : ∀ i, i < n1 → listed.getD i false = true := fun i hi => by
      cases hb : listed.getD i false
      · exact absurd ((htodo i).2 ⟨hi, hb⟩) (by simp)
      · rfl
    rw [List.length_nil, Nat.zero_add]
    refine hK listed θ w a (fun i hi => ?_) hm.size ?_ (Kept.refl c w) (HLe.refl _ _)
    · rw [getD_sz (by rw [hm.size]; exact hi) true false]
      by_cases h1 : i < n1
      · rw [hall i h1]; simp [h1]
      · cases hb : listed.getD i false
        · simp [h1]
        · exact absurd (hm.below i hb) h1
    · rw [← hm.done hd hLx hall]; exact hs
  | succ n ih =>
    intro todo listed cur θ w a hlen hnd htodo hm hs hK
    rw [hlen, show n + 1 + (ops.size - n1) = n + (ops.size - n1) + 1 from by omega]
    have hex : ∀ j, j ∈ todo → Region.ready .any ops listed ≠ [] := by
      intro j
      induction j using Nat.strongRecOn with
      | _ j ihj =>
        intro hj
        obtain ⟨hj1, hun⟩ := (htodo j).1 hj
        obtain ⟨oj, hoj⟩ : ∃ o, ops[j]? = some o := ⟨_, Array.getElem?_eq_getElem (by omega)⟩
        by_cases hall : ∀ e ∈ oj.after, Region.binds .any e = true → listed.getD e.on false = true
        · intro hnil
          have : j ∈ Region.ready .any ops listed := by
            rw [mem_ready]
            exact ⟨by rw [getD_sz (by rw [hm.size]; omega) true false]; exact hun, oj, hoj, hall⟩
          rw [hnil] at this
          simp at this
        · simp only [Classical.not_forall] at hall
          obtain ⟨e, he, hb, hne⟩ := hall
          have h3 := (hspec j oj hoj).1 e he hb
          exact ihj e.on h3 ((htodo e.on).2 ⟨by omega, by simpa using hne⟩)
    refine ⟨fun hr => ?_, fun j hj => ?_⟩
    · cases todo with
      | nil => simp at hlen
      | cons j r => exact absurd hr (hex j (by simp))
    rw [mem_ready] at hj
    obtain ⟨h0, oj, hoj, hr⟩ := hj
    have hlt : j < ops.size := (Array.getElem?_eq_some_iff.1 hoj).1
    have hun : listed.getD j false = false := by rw [getD_sz (by rw [hm.size]; exact hlt) false true]; exact h0
    have hj1 : j < n1 := by
      rcases Nat.lt_or_ge j n1 with h1 | h1
      · exact h1
      · exfalso
        cases todo with
        | nil => simp at hlen
        | cons i r =>
          obtain ⟨hi1, hiu⟩ := (htodo i).1 (by simp)
          obtain ⟨oi, hoi⟩ : ∃ o, ops[i]? = some o := ⟨_, Array.getElem?_eq_getElem (by omega)⟩
          rcases (hspec j oj hoj).2 i oi hoi (by omega) with ⟨e, he, hb, hon⟩ | ⟨h4, _⟩
          · have := hr e he hb
            rw [hon] at this
            rw [this] at hiu; cases hiu
          · omega
    obtain ⟨x, hx, hLj⟩ := hL j oj hj1 hoj
    have hq : qval P Γ ops H cur oj = some x := by rw [← hx]; exact qval_congr fun t ht => hm.look hd hLx hoj hj1 hun hr ht
    refine op_quiet hΓ hoj hq hs hk fun a' w' θ' hs' hk' hl' => ?_
    have hmem : j ∈ todo := (htodo j).2 ⟨hj1, hun⟩
    have hlen' : (todo.erase j).length = n := by rw [List.length_erase_of_mem hmem, hlen]; rfl
    have := ih (todo.erase j) (listed.setIfInBounds j true) (putA cur oj.dst x) θ' w' a' hlen' (hnd.erase j) (fun i => ?_) (hm.next hd hLx hoj hj1 hun hr hLj) hs' fun l2 θ2 w2 a2 h1 h2 h3 h4 h5 => hK l2 θ2 w2 a2 h1 h2 h3 (hk'.trans h4) (hl'.trans h5)
    · rw [hlen'] at this
      exact this
    · rw [hnd.mem_erase_iff, htodo i, listed_set (by rw [hm.size]; exact hlt)]
      by_cases hij : i = j
      · subst hij; simp
      · simp [hij]
theorem awp_draw {id : Nat} {nst : Bool} {Q : Exit → List AV → Heap → Prop} (n1 : Nat) (hmix : P.follows .mixedOrders = true) (hΓ : ∀ f s, Γ f = some s → SpecOK P f s) (hd : drawOK ops n1 = true) {sl1 sl' : List AV} {H' : Heap}
    (h1 : qruns P Γ ops H (ops.toList.take n1) sl = some sl1) (h2 : runOps P Γ nst ops (H.next + n1) (ops.toList.drop n1) sl1 H = some (sl', H')) (hQ : Q .normal sl' H') : awp P c (.region id ops true) Q sl H := by
  intro θ w a hs
  obtain ⟨hn1, hspec⟩ := drawOK_spec hd
  obtain ⟨L, hL0, hL1, hL⟩ := lex_states hn1 h1
  have hlenL : ∀ i, i ≤ n1 → (L i).length = sl.length := by
    intro i
    induction i with
    | zero => intro _; rw [hL0]
    | succ i ih =>
      intro hi
      obtain ⟨o, ho⟩ : ∃ o, ops[i]? = some o := ⟨_, Array.getElem?_eq_getElem (by omega)⟩
      obtain ⟨x, _, hx⟩ := hL i o (by omega) ho
      rw [hx, putA_length]
      exact ih (by omega)
  have hno : ∀ i, (Array.replicate ops.size false).getD i false = false := fun i => by
    simp only [Array.getD_eq_getD_getElem?, Array.getElem?_replicate]
    split <;> rfl
  refine wp_region_any hmix ?_
  have key := draw_free (c := c) hΓ hd hL hs.wf (Q := fun e a' w' => ∃ sl' H' θ', Q e sl' H' ∧ StW c H' θ' w' sl' a' ∧ Kept c w w' ∧ Evo c.base H θ H' θ') n1 (List.range n1) (Array.replicate ops.size false) sl θ { w with drawn := w.drawn + 1 } a (by simp) List.nodup_range
    (fun i => by rw [hno]; simp) ⟨by simp, fun i o _ h => (by rw [hno] at h; cases h), fun i h => (by rw [hno] at h; cases h), hlenL, fun t => ⟨0, Nat.zero_le _, fun i o _ _ _ => (by rw [hno]; simp), by rw [hL0]⟩⟩
    (hs.st.drawn _) fun listed' θ' w' a' hli hsz hs' hk' hl' => ?_
  · rw [List.length_range, Nat.add_sub_cancel' hn1] at key
    exact key
  · refine draw_tail hΓ hd (ops.toList.drop n1) n1 (H.next + n1) listed' (L n1) H θ' w' a' sl' H' (Nat.le_refl _) rfl hli hsz hn1 (by rw [hL1]; exact h2) hs' (fun p hp => ?_) (by omega) fun a2 w2 θ2 hs2 hb2 hn2 hk2 hl2 => ?_
    · have := hs.wf p hp; omega
    · have hkk : Kept c w w2 := by
        have h3 := hk'.trans hk2
        exact ⟨h3.os, h3.tape, h3.output, h3.size, h3.block⟩
      exact ⟨sl', _, θ2, hQ, ⟨hs2, hb2, by have := hs.base; omega⟩, hkk, (hl'.trans hl2).evo hs.base⟩
end
end Go.Ab
