/-
  One text of the proof (own work): contracts of functions of the program, by the abstract machine.
-/
import Derived.Test.YtapnigckcnknoaaGreatDoorRows
import Derived.Test.YtapnigckcnknoaaGreatDoorX12
import Derived.Test.YtapnigckcnknoaaGreatDoorX29
import Derived.Test.YtapnigckcnknoaaGreatDoorX11
set_option linter.unusedVariables false
set_option linter.unusedSimpArgs false
namespace Go.Ab
open Go Go.RowKit Go.Proofs
set_option maxRecDepth 100000
set_option maxHeartbeats 16000000
def few07 (fs : List Fl) (us : List Mc) (l : List Tk) (tx : Bs) : Bool := ((few3 fs 8 3000 && few7 us) && few5 l) && decide ((tx.length : Int) ≤ 300)
noncomputable def g_unit07 : List D → Option D := encSpec (fun x : (List Fl) × (List Mc) × (List Tk) × Bs × Int × Bs => [.agg [.list (x.1.map eFl), .list (x.2.1.map eMc), .list (x.2.2.1.map eTk), .str x.2.2.2.1, i64 x.2.2.2.2.1, .str x.2.2.2.2.2]]) (fun x : (List Fl) × (List Mc) × (List Tk) × Bs × Int × Bs => True) (fun x : (List Fl) × (List Mc) × (List Tk) × Bs × Int × Bs => eU x.2.1)
theorem g_unit07_eq {fs : List Fl} {us : List Mc} {l : List Tk} {lp : Bs} {ln : Int} {tx : Bs} (hd : True) : g_unit07 [.agg [.list (fs.map eFl), .list (us.map eMc), .list (l.map eTk), .str lp, .int .i64 ln, .str tx]] = some (eU us) := encSpec_eq (x := (fs, us, l, lp, ln, tx)) hd fun y hy => by
    obtain ⟨y0, y1, y2, y3, y4, y5⟩ := y; simp only [List.cons.injEq, and_true, true_and, D.str.injEq, D.int.injEq, D.list.injEq, D.bool.injEq, D.agg.injEq, D.clo.injEq, Int.natCast_inj, inj_ie, D.ref.injEq, eU_e, eWd_e, eWd_ie, eWr_e, eWr_ie, eTk_ie, eTk_e, eFl_ie, eSp_ie, eSp_e, eMc_e, eMc_ie, hid_e] at hy
    (try obtain ⟨rfl, rfl, rfl, rfl, rfl, rfl⟩ := hy)
    (try subst_vars)
    rfl
theorem f_unit07_ok : PureOK Tryz.prog 17 false g_unit07 := by
  have hΓ := Γ0_ok
  refine pure_enc (n := 6) (rs := [.cell 2 37]) Tryz.func17 (by kernel_rfl) rfl (by kernel_rfl) (by kernel_rfl) ?_
  rintro ⟨fs, us, l, lp, ln, tx⟩ hd
  (try dsimp only at hd ⊢)
  refine ⟨fun h => (by cases h), fun k hz0 => ?_⟩
  rw [eU_eq]
  rw [start_frame (by simp)]; simp only [enumV, go_sem, emptyH]
  repeat (first
    | (apply axJ; (focus ((with_reducible constructor) <;> rfl)))
    | (apply awT mixedOK hΓ (by kernel_rfl); (simp (disch := omega) only [go_sem, ↓reduceIte, dk, ↓lk, Int.reduceBEq, Int.reduceBNe, Bool.true_bne, Bool.false_bne, Bool.not_true, Bool.not_false, ↓ty_build37] <;> with_reducible rfl))
    | ((first | apply awR hΓ | apply awG | apply awH mixedOK hΓ rfl (by kernel_rfl) | apply ovE rfl); (simp (disch := omega) only [go_sem, ↓reduceIte, dk, ↓lk, Int.reduceBEq, Int.reduceBNe, Bool.true_bne, Bool.false_bne, Bool.not_true, Bool.not_false, ↓ty_build37] <;> with_reducible rfl); exact trivial)
    | rfl)
  try rfl
noncomputable def g_fewC : List D → Option D := encSpec (fun x : (List Fl) × (List Mc) × (List Tk) × Bs × Int × Bs => [.agg [.list (x.1.map eFl), .list (x.2.1.map eMc), .list (x.2.2.1.map eTk), .str x.2.2.2.1, i64 x.2.2.2.2.1, .str x.2.2.2.2.2]]) (fun x : (List Fl) × (List Mc) × (List Tk) × Bs × Int × Bs => (x.1.length ≤ 1099511627776 ∧ ∀ f ∈ x.1, f.2.length ≤ 1099511627776) ∧ (x.2.1.length ≤ 1099511627776 ∧ ∀ m ∈ x.2.1, m.params.length ≤ 1099511627776) ∧ x.2.2.1.length ≤ 1099511627776) (fun x : (List Fl) × (List Mc) × (List Tk) × Bs × Int × Bs => .bool (few07 x.1 x.2.1 x.2.2.1 x.2.2.2.2.2))
theorem g_fewC_eq {fs : List Fl} {us : List Mc} {l : List Tk} {lp : Bs} {ln : Int} {tx : Bs} (hd : (fs.length ≤ 1099511627776 ∧ ∀ f ∈ fs, f.2.length ≤ 1099511627776) ∧ (us.length ≤ 1099511627776 ∧ ∀ m ∈ us, m.params.length ≤ 1099511627776) ∧ l.length ≤ 1099511627776) : g_fewC [.agg [.list (fs.map eFl), .list (us.map eMc), .list (l.map eTk), .str lp, .int .i64 ln, .str tx]] = some (.bool (few07 fs us l tx)) := encSpec_eq (x := (fs, us, l, lp, ln, tx)) hd fun y hy => by
    obtain ⟨y0, y1, y2, y3, y4, y5⟩ := y; simp only [List.cons.injEq, and_true, true_and, D.str.injEq, D.int.injEq, D.list.injEq, D.bool.injEq, D.agg.injEq, D.clo.injEq, Int.natCast_inj, inj_ie, D.ref.injEq, eU_e, eWd_e, eWd_ie, eWr_e, eWr_ie, eTk_ie, eTk_e, eFl_ie, eSp_ie, eSp_e, eMc_e, eMc_ie, hid_e] at hy
    (try obtain ⟨rfl, rfl, rfl, rfl, rfl, rfl⟩ := hy)
    (try subst_vars)
    rfl
theorem f_fewC_ok : PureOK Tryz.prog 15 true g_fewC := by
  have hΓ := Γp f_few3b_ok (Γp f_few7R_ok (Γp f_few5R_ok (Γp f_unit07_ok (Γn))))
  refine pure_enc (n := 22) (rs := [.tmp 2]) Tryz.func15 (by kernel_rfl) rfl (by kernel_rfl) (by kernel_rfl) ?_
  rintro ⟨fs, us, l, lp, ln, tx⟩ hd
  (try dsimp only at hd ⊢)
  refine ⟨fun _ => by (repeat (first | exact .int _ _ | exact .bool _ | exact .str _ | (refine .tup _ (fun d hd => ?_); simp only [List.mem_cons, List.not_mem_nil, or_false] at hd; rcases hd with rfl | hd))), fun k hz0 => ?_⟩
  obtain ⟨⟨d1, d2⟩, ⟨d3, d4⟩, d5⟩ := hd
  have e1 := g_few3b_eq (l := fs) (m := 8) (z := 3000) ⟨d1, d2, by decide, by decide⟩
  have e2 := g_few7R_eq (us := us) ⟨d3, d4⟩
  have e3 := g_few5R_eq (l := l) d5
  have e4 := g_unit07_eq (fs := fs) (us := us) (l := l) (lp := lp) (ln := ln) (tx := tx) trivial
  rw [eU_eq] at e2 e4
  unfold few07
  generalize few3 fs 8 3000 = c1 at *
  generalize few7 us = c2 at *
  generalize few5 l = c3 at *
  generalize hc : decide ((tx.length : Int) ≤ 300) = c4
  rw [start_frame (by simp)]; simp only [enumV, go_sem, emptyH]
  cases c1 <;> cases c2 <;> cases c3
  all_goals
    repeat (first
      | (apply axJ; (focus ((with_reducible constructor) <;> rfl)))
      | (apply awT mixedOK hΓ (by kernel_rfl); (simp (disch := omega) only [go_sem, ↓reduceIte, dk, ↓lk, Int.reduceBEq, Int.reduceBNe, Bool.true_bne, Bool.false_bne, Bool.not_true, Bool.not_false, e1, e2, e3, e4, hc] <;> with_reducible rfl))
      | ((first | apply awR hΓ | apply awG | apply awH mixedOK hΓ rfl (by kernel_rfl) | apply ovE rfl); (simp (disch := omega) only [go_sem, ↓reduceIte, dk, ↓lk, Int.reduceBEq, Int.reduceBNe, Bool.true_bne, Bool.false_bne, Bool.not_true, Bool.not_false, e1, e2, e3, e4, hc] <;> with_reducible rfl); exact trivial)
      | rfl)
    try rfl
theorem few3Go_d {z : Int} : ∀ {l : List Fl} {n : Int}, few3Go z n l = true → 0 ≤ n → ∀ f ∈ l, (f.2.length : Int) + n ≤ z
  | [], _, _, _, f, hf => by cases hf
  | x :: r, n, h, hn, f, hf => by
    rw [few3Go] at h
    split at h
    · cases h
    · rename_i hc
      simp only [Bool.or_eq_true, decide_eq_true_eq, not_or, Int.not_lt] at hc
      rcases List.mem_cons.1 hf with rfl | hf
      · omega
      · have := few3Go_d h (by omega) f hf
        omega
theorem few3_d {l : List Fl} (h : few3 l 8 3000 = true) : l.length ≤ 8 ∧ ∀ f ∈ l, f.2.length ≤ 3000 := by
  unfold few3 at h
  split at h
  · cases h
  · rename_i hc
    simp only [decide_eq_true_eq, Int.not_lt] at hc
    exact ⟨by omega, fun f hf => by have := few3Go_d h (by decide) f hf; omega⟩
theorem few7_d {us : List Mc} (h : few7 us = true) : us.length ≤ 20 ∧ ∀ m ∈ us, m.params.length ≤ 12 ∧ m.name.length ≤ 100 := by
  unfold few7 at h
  simp only [Bool.and_eq_true, decide_eq_true_eq, List.all_eq_true] at h
  refine ⟨by omega, fun m hm => ?_⟩
  have := h.1 m hm
  unfold fewM at this
  simp only [Bool.and_eq_true, Bool.not_eq_true', decide_eq_false_iff_not] at this
  omega
theorem few5_d {l : List Tk} (h : few5 l = true) : l.length ≤ 300 ∧ ∀ t ∈ l, t.2.length ≤ 50 := by
  unfold few5 at h
  simp only [Bool.and_eq_true, decide_eq_true_eq, List.all_eq_true, Bool.not_eq_true', decide_eq_false_iff_not] at h
  exact ⟨by omega, fun t ht => by have := h.1 t ht; omega⟩
theorem few07_d {fs : List Fl} {us : List Mc} {l : List Tk} {tx : Bs} (h : few07 fs us l tx = true) : (fs.length ≤ 8 ∧ ∀ f ∈ fs, f.2.length ≤ 3000) ∧ (us.length ≤ 20 ∧ ∀ m ∈ us, m.params.length ≤ 12 ∧ m.name.length ≤ 100) ∧ (l.length ≤ 300 ∧ ∀ t ∈ l, t.2.length ≤ 50) ∧ tx.length ≤ 300 := by
  unfold few07 at h
  simp only [Bool.and_eq_true, decide_eq_true_eq] at h
  exact ⟨few3_d h.1.1.1, few7_d h.1.1.2, few5_d h.1.2, by omega⟩
theorem loopG_len {fs : List Fl} {us : List Mc} : ∀ {k : Nat} {l : List Wd} {rd : List Sp}, (loopG fs us k l rd).1.1.length ≤ max l.length 256 ∧ (loopG fs us k l rd).1.2.length ≤ rd.length + k
  | k, l, rd => by
    rw [loopG_eq]
    split
    · exact ⟨by dsimp only; omega, by dsimp only; omega⟩
    · split
      · exact ⟨by simp, by simp⟩
      · rename_i i m _ _ k
        split
        · have h1 := loopG_len (fs := fs) (us := us) (k := k) (l := (replG fs m l i).1) (rd := rd ++ [m.body])
          have h2 := repl_len (fs := fs) (m := m) (l := l) (i := i)
          rw [List.length_append] at h1
          simp only [List.length_cons, List.length_nil] at h1
          omega
        · exact ⟨by simp, by simp⟩
  termination_by k => k
theorem lineG_len {fs : List Fl} {us : List Mc} {l : List Tk} : (lineG fs us l).1.1.length ≤ max l.length 256 ∧ (lineG fs us l).1.2.length ≤ 256 := by
  unfold lineG
  split
  · have h := loopG_len (fs := fs) (us := us) (k := 256) (l := w0 l) (rd := [])
    have h2 := setG_len (loopG fs us 256 (w0 l) []).1.2
    have h3 : (w0 l).length = l.length := by simp [w0]
    simp only [List.length_nil, h3] at h
    dsimp only
    rw [List.length_map]
    unfold w0 at h h2
    omega
  · exact ⟨by simp, by simp⟩
noncomputable def g_law74 : List D → Option D := encSpec (fun x : (List Fl) × (List Mc) × (List Tk) × Bs × Int × Bs => [.agg [.list (x.1.map eFl), .list (x.2.1.map eMc), .list (x.2.2.1.map eTk), .str x.2.2.2.1, i64 x.2.2.2.2.1, .str x.2.2.2.2.2]]) (fun x : (List Fl) × (List Mc) × (List Tk) × Bs × Int × Bs => (x.1.length ≤ 1099511627776 ∧ ∀ f ∈ x.1, f.2.length ≤ 1099511627776) ∧ (x.2.1.length ≤ 1099511627776 ∧ ∀ m ∈ x.2.1, m.params.length ≤ 1099511627776) ∧ x.2.2.1.length ≤ 1099511627776) (fun x : (List Fl) × (List Mc) × (List Tk) × Bs × Int × Bs => .bool true)
theorem f_law74_ok : PureOK Tryz.prog 4 true g_law74 := by
  have hΓ := Γp f_wk07_ok (Γp f_fewC_ok (Γp f_unit07_ok (Γp f_lineP7_ok (Γp f_lineR7_ok (Γp f_sameT_ok (Γp f_sameL_ok (Γn)))))))
  refine pure_enc (n := 49) (rs := [.tmp 2]) Tryz.func4 (by kernel_rfl) rfl (by kernel_rfl) (by kernel_rfl) ?_
  rintro ⟨fs, us, l, lp, ln, tx⟩ hd
  (try dsimp only at hd ⊢)
  refine ⟨fun _ => by (repeat (first | exact .int _ _ | exact .bool _ | exact .str _ | (refine .tup _ (fun d hd => ?_); simp only [List.mem_cons, List.not_mem_nil, or_false] at hd; rcases hd with rfl | hd))), fun k hz0 => ?_⟩
  have e0 := g_wk07_eq
  have e1 := g_fewC_eq (fs := fs) (us := us) (l := l) (lp := lp) (ln := ln) (tx := tx) hd
  have e2 := g_unit07_eq (fs := fs) (us := us) (l := l) (lp := lp) (ln := ln) (tx := tx) trivial
  rw [eU_eq] at e2
  have hf := @few07_d fs us l tx
  generalize few07 fs us l tx = c at *
  rw [start_frame (by simp)]; simp only [enumV, go_sem, emptyH]
  cases c
  · repeat (first
    | (apply axJ; (focus ((with_reducible constructor) <;> rfl)))
    | (apply awT mixedOK hΓ (by kernel_rfl); (simp (disch := omega) only [go_sem, ↓reduceIte, dk, ↓lk, Int.reduceBEq, Int.reduceBNe, Bool.true_bne, Bool.false_bne, Bool.not_true, Bool.not_false, e0, e1] <;> with_reducible rfl))
    | ((first | apply awR hΓ | apply awG | apply awH mixedOK hΓ rfl (by kernel_rfl) | apply ovE rfl); (simp (disch := omega) only [go_sem, ↓reduceIte, dk, ↓lk, Int.reduceBEq, Int.reduceBNe, Bool.true_bne, Bool.false_bne, Bool.not_true, Bool.not_false, e0, e1] <;> with_reducible rfl); exact trivial)
    | rfl)
    try rfl
  obtain ⟨⟨f1, f2⟩, ⟨f3, f4⟩, ⟨f5, f6⟩, f7⟩ := hf rfl
  have e3 := g_lineP7_eq (fs := fs) (us := us) (l := l) ⟨⟨⟨by omega, fun f hf => by have := f2 f hf; omega⟩, by omega, fun m hm => by have := f4 m hm; omega⟩, by omega, fun t ht => by have := f6 t ht; omega⟩
  have e4 := g_lineR7_eq (fs := fs) (us := us) (l := l) ⟨⟨⟨by omega, fun f hf => by have := f2 f hf; omega⟩, by omega, fun m hm => by have := f4 m hm; omega⟩, by omega, fun t ht => by have := f6 t ht; omega⟩
  have hl := lineG_len (fs := fs) (us := us) (l := l)
  generalize lineG fs us l = L at *
  obtain ⟨⟨la, lb⟩, le⟩ := L
  dsimp only at hl
  rw [eU_eq] at e3 e4
  unfold eLR at e3 e4
  dsimp only at e3 e4
  have e5 := g_sameT_eq (a := la) (b := la) ⟨by omega, by omega⟩
  have e6 := g_sameL_eq (a := lb) (b := lb) ⟨by omega, by omega⟩
  rw [decide_eq_true rfl] at e5 e6
  repeat (first
    | (apply axJ; (focus ((with_reducible constructor) <;> rfl)))
    | (apply awT mixedOK hΓ (by kernel_rfl); (simp (disch := omega) only [go_sem, ↓reduceIte, dk, ↓lk, Int.reduceBEq, Int.reduceBNe, Bool.true_bne, Bool.false_bne, Bool.not_true, Bool.not_false, BEq.rfl, e0, e1, e2, e3, e4, e5, e6] <;> with_reducible rfl))
    | ((first | apply awR hΓ | apply awG | apply awH mixedOK hΓ rfl (by kernel_rfl) | apply ovE rfl); (simp (disch := omega) only [go_sem, ↓reduceIte, dk, ↓lk, Int.reduceBEq, Int.reduceBNe, Bool.true_bne, Bool.false_bne, Bool.not_true, Bool.not_false, BEq.rfl, e0, e1, e2, e3, e4, e5, e6] <;> with_reducible rfl); exact trivial)
    | rfl)
  try rfl
end Go.Ab
namespace Go.Ab
open Go Go.RowKit Go.Proofs
open Go.Proofs.YtapnigckcnknoaaGreatDoor
set_option maxRecDepth 4000
mutual
theorem bulk_le {H : Type} : ∀ d : DataW H, bulk d ≤ Rows.uptoBulk d
  | .lit l => by cases l <;> simp [bulk, Rows.uptoBulk]
  | .nil => by simp [bulk, Rows.uptoBulk]
  | .ptr d => by have := bulk_le d; simp only [bulk, Rows.uptoBulk]; omega
  | .slice a b => by have := bulkAll_le a; have := bulkAll_le b; simp only [bulk, Rows.uptoBulk]; omega
  | .agg a => by have := bulkAll_le a; simp only [bulk, Rows.uptoBulk]; omega
  | .iface _ d => by have := bulk_le d; simp only [bulk, Rows.uptoBulk]; omega
  | .map es => by simp [bulk, Rows.uptoBulk]
  | .held _ => by simp [bulk, Rows.uptoBulk]
theorem bulkAll_le {H : Type} : ∀ l : List (DataW H), bulkAll l ≤ Rows.uptoBulkAll l
  | [] => by simp [bulkAll, Rows.uptoBulkAll]
  | d :: r => by have := bulk_le d; have := bulkAll_le r; simp only [bulkAll, Rows.uptoBulkAll]; omega
end
theorem trodAll_len {H : Type} {enc : TypeId × Value → H} {P : Program} {W : World} : ∀ (ts : List TypeId) (vs : List Value) (ds : List (DataW H)) (ps : List MemPlace), DataW.TrodAll enc P W 0 (fun _ => true) true ts vs ds ps → ds.length = ts.length
  | [], vs, ds, ps, h => by
    obtain ⟨rfl, rfl, rfl⟩ := ChangeShapes.trodAll_nil h
    rfl
  | t :: ts, vs, ds, ps, h => by
    obtain ⟨v, vs', d, ds', p, q, rfl, rfl, rfl, h1, h2⟩ := ChangeShapes.trodAll_cons h
    simp [trodAll_len ts vs' ds' q h2]
theorem laid07 : laidOutB Tryz.prog = true := by kernel_rfl
theorem own07 : ownKnob Tryz.prog.godebug = none := by kernel_rfl
def accCells : Array Value := #[.int .u8 128, .int .u8 191, .int .u8 160, .int .u8 191, .int .u8 128, .int .u8 159, .int .u8 144, .int .u8 191, .int .u8 128, .int .u8 143, .int .u8 0, .int .u8 0, .int .u8 0, .int .u8 0, .int .u8 0, .int .u8 0, .int .u8 0, .int .u8 0, .int .u8 0, .int .u8 0, .int .u8 0, .int .u8 0, .int .u8 0, .int .u8 0, .int .u8 0, .int .u8 0, .int .u8 0, .int .u8 0, .int .u8 0, .int .u8 0, .int .u8 0, .int .u8 0]
def firstCells : Array Value := (Go.Pinned.utf8FirstZ.map fun n : Nat => Value.int .u8 (n : Int)).toArray
def layCells (cs : Array Value) : Go.Obj → Go.Obj
  | .cells _ t frozen => .cells cs t frozen
  | o => o
noncomputable def laidWorld (os : Os) : World :=
  { World.holding Tryz.prog os ⟨#[], #[], []⟩ with heap := ((World.holding Tryz.prog os ⟨#[], #[], []⟩).heap.modify 1 (layCells firstCells)).modify 2 (layCells accCells) }
def RT (ty : Ty) (n : Nat) (d : D) : Prop := ∃ cs, HasTy n ty cs ∧ d = ty.pack cs
theorem list_chooseP {α β γ : Type} {f : α → γ} {g : β → γ} {p : β → Prop} : ∀ (ls : List α), (∀ c ∈ ls, ∃ x, f c = g x ∧ p x) → ∃ l : List β, ls.map f = l.map g ∧ l.length = ls.length ∧ ∀ x ∈ l, p x
  | [], _ => ⟨[], rfl, rfl, fun x hx => by cases hx⟩
  | c :: ls, h => by
    obtain ⟨x, hx, hp⟩ := h c List.mem_cons_self
    obtain ⟨l, h1, h2, h3⟩ := list_chooseP ls fun c hc => h c (List.mem_cons_of_mem _ hc)
    exact ⟨x :: l, by simp [hx, h1], by simp [h2], fun y hy => by
      rcases List.mem_cons.1 hy with rfl | hy
      · exact hp
      · exact h3 y hy⟩
theorem has_strs {n : Nat} {cs : List D} (h : HasTy n (.slice .str) cs) : ∃ l : List Bs, cs = [.list (l.map .str)] ∧ l.length ≤ n ∧ ∀ w ∈ l, w.length ≤ n := by
  simp only [HasTy] at h
  obtain ⟨ls, hl, hs, rfl⟩ := h
  obtain ⟨m, e, k, hp⟩ := list_chooseP (f := Ty.str.pack) (g := D.str) (p := fun w : Bs => w.length ≤ n) ls fun c hc => by
    obtain ⟨s, hl, rfl⟩ := hs c hc
    exact ⟨s, rfl, hl⟩
  exact ⟨m, by rw [e], by omega, hp⟩
abbrev tyFl : Ty := .struct [.str, .str]
abbrev tySp : Ty := .struct [.str, .int .i64, .int .i64]
abbrev tyMc : Ty := .struct [.str, .slice .str, tySp]
abbrev tyTk : Ty := .struct [.int .i64, .str]
abbrev tyLn : Ty := .struct [.str, .int .i64]
abbrev tyCs : Ty := .struct [.slice tyFl, .slice tyMc, .slice tyTk, tyLn, .str]
theorem has_fl {n : Nat} {cs : List D} (h : HasTy n tyFl cs) : ∃ x : Fl, tyFl.pack cs = eFl x ∧ x.2.length ≤ n := by
  simp only [HasTy, HasTyL] at h
  obtain ⟨_, _, ⟨a, ha, rfl⟩, ⟨_, _, ⟨b, hb, rfl⟩, rfl, rfl⟩, rfl⟩ := h
  exact ⟨(a, b), rfl, hb⟩
theorem has_tk {n : Nat} {cs : List D} (h : HasTy n tyTk cs) : ∃ x : Tk, tyTk.pack cs = eTk x ∧ x.2.length ≤ n := by
  simp only [HasTy, HasTyL] at h
  obtain ⟨_, _, ⟨a, ha, rfl⟩, ⟨_, _, ⟨b, hb, rfl⟩, rfl, rfl⟩, rfl⟩ := h
  exact ⟨(a, b), rfl, hb⟩
theorem has_mc {n : Nat} {cs : List D} (h : HasTy n tyMc cs) : ∃ x : Mc, tyMc.pack cs = eMc x ∧ x.params.length ≤ n := by
  rw [HasTy] at h
  simp only [HasTyL] at h
  obtain ⟨_, _, h1, ⟨_, _, h2, ⟨_, _, h3, rfl, rfl⟩, rfl⟩, rfl⟩ := h
  obtain ⟨ps, rfl, hp, _⟩ := has_strs h2
  simp only [HasTy, HasTyL] at h1 h3
  obtain ⟨a, ha, rfl⟩ := h1
  obtain ⟨_, _, ⟨p, _, rfl⟩, ⟨_, _, ⟨x, _, rfl⟩, ⟨_, _, ⟨y, _, rfl⟩, rfl, rfl⟩, rfl⟩, rfl⟩ := h3
  exact ⟨⟨a, ps, (p, x, y)⟩, rfl, hp⟩
theorem has_sl {α : Type} {n : Nat} {ty : Ty} {e : α → D} {p : α → Prop} {cs : List D} (k : ∀ {cs : List D}, HasTy n ty cs → ∃ x : α, ty.pack cs = e x ∧ p x) (h : HasTy n (.slice ty) cs) : ∃ l : List α, cs = [.list (l.map e)] ∧ l.length ≤ n ∧ ∀ x ∈ l, p x := by
  simp only [HasTy] at h
  obtain ⟨ls, hl, hs, rfl⟩ := h
  obtain ⟨m, e1, k1, hp⟩ := list_chooseP (f := ty.pack) (g := e) (p := p) ls fun c hc => k (hs c hc)
  exact ⟨m, by rw [e1], by omega, hp⟩
theorem rt_case {n : Nat} (hn : n ≤ 1099511627776) {d : D} (h : RT tyCs n d) : ∃ (fs : List Fl) (us : List Mc) (l : List Tk) (lp : Bs) (ln : Int) (tx : Bs), ((fs.length ≤ 1099511627776 ∧ ∀ f ∈ fs, f.2.length ≤ 1099511627776) ∧ (us.length ≤ 1099511627776 ∧ ∀ m ∈ us, m.params.length ≤ 1099511627776) ∧ l.length ≤ 1099511627776) ∧ d = .agg [.list (fs.map eFl), .list (us.map eMc), .list (l.map eTk), .str lp, i64 ln, .str tx] := by
  obtain ⟨cs, h, rfl⟩ := h
  rw [HasTy] at h
  simp only [HasTyL] at h
  obtain ⟨_, _, h1, ⟨_, _, h2, ⟨_, _, h3, ⟨_, _, h4, ⟨_, _, h5, rfl, rfl⟩, rfl⟩, rfl⟩, rfl⟩, rfl⟩ := h
  obtain ⟨fs, rfl, k1, k2⟩ := has_sl has_fl h1
  obtain ⟨us, rfl, k3, k4⟩ := has_sl has_mc h2
  obtain ⟨l, rfl, k5, _⟩ := has_sl has_tk h3
  simp only [HasTy, HasTyL] at h4 h5
  obtain ⟨_, _, ⟨p, _, rfl⟩, ⟨_, _, ⟨x, _, rfl⟩, rfl, rfl⟩, rfl⟩ := h4
  obtain ⟨t, _, rfl⟩ := h5
  exact ⟨fs, us, l, p, x, t, ⟨⟨by omega, fun f hf => by have := k2 f hf; omega⟩, ⟨by omega, fun m hm => by have := k4 m hm; omega⟩, by omega⟩, rfl⟩
end Go.Ab
