/-
  One text of the proof (own work): contracts of functions of the program, by the abstract machine.
-/
import Derived.Test.YtdodjhiofpiaaaaGreatDoorX19
import Derived.Test.YtdodjhiofpiaaaaGreatDoorX23
set_option linter.unusedVariables false
set_option linter.unusedSimpArgs false
namespace Go.Ab
open Go Go.RowKit Go.Proofs
set_option maxRecDepth 10000
set_option maxHeartbeats 8000000
def sepWords : List Bs := [[116, 111], [119, 105, 116, 104], [117, 115, 105, 110, 103], [111, 110], [97, 115]]
def isSep (s : Bs) : Bool := hasB sepWords s
noncomputable def g_sepR : List D → Option D := encSpec (fun x : Bs => [.str x]) (fun x : Bs => x.length ≤ 1099511627776) (fun x : Bs => .bool (isSep x))
theorem g_sepR_eq {s : Bs} (hd : s.length ≤ 1099511627776) : g_sepR [.str s] = some (.bool (isSep s)) := encSpec_eq (x := s) hd fun y hy => by
    simp only [List.cons.injEq, and_true, true_and, D.str.injEq, D.int.injEq, D.list.injEq, D.bool.injEq, D.agg.injEq, D.clo.injEq, Int.natCast_inj, inj_ie, UInt8.toNat_inj] at hy
    rw [hy]
theorem f_sepR_ok : PureOK Tryz.prog 92 true g_sepR := by
  have hΓ := Γp f_has_ok (Γn)
  refine pure_enc (n := 6) (rs := [.tmp 2]) Tryz.func92 (by kernel_rfl) rfl (by kernel_rfl) (by kernel_rfl) ?_
  rintro s hd
  (try dsimp only at hd ⊢)
  refine ⟨fun _ => by (repeat (first | exact .int _ _ | exact .bool _ | exact .str _ | (refine .tup _ (fun d hd => ?_); simp only [List.mem_cons, List.not_mem_nil, or_false] at hd; rcases hd with rfl | hd))), fun k hz0 => ?_⟩
  have e : g_has [.list (sepWords.map .str), .str s] = some (.bool (hasB sepWords s)) := g_has_eq (by decide)
  unfold isSep
  generalize hasB sepWords s = c at *
  simp only [sepWords, List.map_cons, List.map_nil] at e
  rw [start_frame (by simp)]; simp only [enumV, go_sem, emptyH]
  repeat (first
    | (apply axJ; (focus ((with_reducible constructor) <;> rfl)))
    | (apply awT mixedOK hΓ (by kernel_rfl); (simp (disch := omega) only [go_sem, ↓reduceIte, dk, ↓lk, e] <;> with_reducible rfl))
    | ((first | apply awR hΓ | apply awG | apply awH mixedOK hΓ rfl (by kernel_rfl) | apply ovE rfl); (simp (disch := omega) only [go_sem, ↓reduceIte, dk, ↓lk, e] <;> with_reducible rfl); exact trivial)
    | rfl)
  try rfl
structure Gp where
  name : Bs
  words : List Bs
def eGp (g : Gp) : D := .agg [.str g.name, .list (g.words.map .str)]
theorem eGp_inj (a b : Gp) (h : eGp a = eGp b) : a = b := by
  cases a; cases b
  simp only [eGp, D.agg.injEq, List.cons.injEq, D.str.injEq, D.list.injEq, and_true, inj_ie] at h
  obtain ⟨rfl, rfl⟩ := h
  rfl
theorem eGps_ie (a b : List Gp) : (a.map eGp = b.map eGp) = (a = b) := map_ie eGp_inj a b
def gstep (p : List Gp × Gp) (w : Bs) : List Gp × Gp := if isSep w then (p.1 ++ [p.2], ⟨w, []⟩) else (p.1, ⟨p.2.name, p.2.words ++ [w]⟩)
def gAll (nm : Bs) (l : List Bs) : List Gp × Gp := l.foldl gstep ([], ⟨nm, []⟩)
def gList (nm : Bs) (l : List Bs) : List Gp := (gAll nm l).1 ++ [(gAll nm l).2]
theorem gAll_step {nm : Bs} {l : List Bs} {i : Nat} (hi : i < l.length) : gAll nm (l.take (i + 1)) = gstep (gAll nm (l.take i)) l[i] := by
  unfold gAll
  rw [List.take_add_one, List.getElem?_eq_getElem hi, List.foldl_append]
  rfl
theorem gAll_bd (nm : Bs) (l : List Bs) : (gAll nm l).1.length ≤ l.length ∧ (gAll nm l).2.words.length ≤ l.length := by
  have key : ∀ (l : List Bs) (p : List Gp × Gp), (l.foldl gstep p).1.length ≤ p.1.length + l.length ∧ (l.foldl gstep p).2.words.length ≤ p.2.words.length + l.length := by
    intro l
    induction l with
    | nil => intro p; exact ⟨Nat.le_refl _, Nat.le_refl _⟩
    | cons w l ih =>
      intro p
      obtain ⟨h1, h2⟩ := ih (gstep p w)
      simp only [List.foldl_cons, List.length_cons]
      unfold gstep at h1 h2
      split at h1
      · rename_i hc
        rw [if_pos hc] at h2
        simp only [List.length_append, List.length_cons, List.length_nil] at h1 h2
        unfold gstep
        rw [if_pos hc]
        exact ⟨by omega, by omega⟩
      · rename_i hc
        rw [if_neg hc] at h2
        simp only [List.length_append, List.length_cons, List.length_nil] at h1 h2
        unfold gstep
        rw [if_neg hc]
        exact ⟨by omega, by omega⟩
  have := key l ([], ⟨nm, []⟩)
  simpa [gAll] using this
def cG (l : List Gp) : List AV := (Ab.flat (l.map eGp)).map .data
theorem cG_snoc (l : List Gp) (g : Gp) : cG (l ++ [g]) = cG l ++ [.data (.str g.name), .data (.list (g.words.map .str))] := by
  unfold cG Ab.flat
  rw [List.map_append, List.flatMap_append, List.map_append]
  rfl
theorem cG_len (l : List Gp) : (cG l).length = 2 * l.length := by
  induction l with
  | nil => rfl
  | cons g l ih =>
    have : cG (g :: l) = [.data (.str g.name), .data (.list (g.words.map .str))] ++ cG l := rfl
    rw [this, List.length_append, ih]
    simp only [List.length_cons, List.length_nil]
    omega
theorem cG_drop (gs : List Gp) (a b : AV) : List.drop (gs.length * 2 + 1) (cG gs ++ [a, b]) = [b] := by
  have h := cG_len gs
  rw [List.drop_append, List.drop_eq_nil_of_le (by omega), h, show gs.length * 2 + 1 - 2 * gs.length = 1 by omega]
  rfl
theorem lay_pre (xs : List AV) (k : Nat) (r : List AV) : ∀ (pre : List AV), lay (pre.length + k) xs (pre ++ r) = (lay k xs r).map (pre ++ ·)
  | [] => by simp
  | y :: pre => by
    have ih := lay_pre xs k r pre
    rw [List.length_cons, show pre.length + 1 + k = (pre.length + k) + 1 by omega, List.cons_append, lay, ih]
    cases lay k xs r <;> rfl
theorem cG_lay (gs : List Gp) (a b c : AV) : lay (gs.length * 2 + 1) [c] (cG gs ++ [a, b]) = some (cG gs ++ [a, c]) := by
  have h := lay_pre [c] 1 [a, b] (cG gs)
  rw [cG_len, show 2 * gs.length + 1 = gs.length * 2 + 1 by omega] at h
  rw [h]
  rfl
theorem refs_data (n : Nat) (r : List AV) : ∀ l : List D, refsOKs n (l.map .data ++ r) = refsOKs n r
  | [] => rfl
  | d :: l => by
    have := refs_data n r l
    show (AV.refsOK n (.data d) && refsOKs n (l.map .data ++ r)) = _
    rw [this]
    rfl
theorem cG_refs (n : Nat) (gs : List Gp) (r : List AV) : refsOKs n (cG gs ++ r) = refsOKs n r := refs_data n r _
theorem conv_same (H : Heap) (d : D) : Conv H (.data d) (.data d) := by
  cases d <;> first | exact rfl | exact .inl rfl
theorem convL_data (H : Heap) {r r' : List AV} (h : ConvL H r r') : ∀ l : List D, ConvL H (l.map .data ++ r) (l.map .data ++ r')
  | [] => h
  | d :: l => ⟨conv_same H d, convL_data H h l⟩
theorem cG_get (gs : List Gp) (a b : AV) : (cG gs ++ [a, b])[gs.length * 2 + 1]? = some b := by
  rw [List.getElem?_append_right (by rw [cG_len]; omega), cG_len, show gs.length * 2 + 1 - 2 * gs.length = 1 by omega]
  rfl
theorem cG_set (gs : List Gp) (a b c : AV) : (cG gs ++ [a, b]).set (gs.length * 2 + 1) c = cG gs ++ [a, c] := by
  rw [List.set_append_right _ _ (by rw [cG_len]; omega), cG_len, show gs.length * 2 + 1 - 2 * gs.length = 1 by omega]
  rfl
theorem cG_ren (H : Heap) (ρ : Nat → Option Nat) (gs : List Gp) (r : List AV) : rens H ρ (cG gs ++ r) = cG gs ++ rens H ρ r := by
  unfold cG
  generalize Ab.flat (gs.map eGp) = l
  induction l with
  | nil => rfl
  | cons d l ih =>
    rw [List.map_cons, List.cons_append, rens, ih]
    rfl
theorem eGps_cells (l : List Gp) : (∀ d ∈ l.map eGp, d.cells.length = 2) ∧ ∀ d ∈ Ab.flat (l.map eGp), d.one = true := by
  refine ⟨fun d hd => ?_, fun d hd => ?_⟩
  · obtain ⟨g, _, rfl⟩ := List.mem_map.1 hd
    rfl
  · unfold Ab.flat at hd
    obtain ⟨x, hx, hd⟩ := List.mem_flatMap.1 hd
    obtain ⟨g, _, rfl⟩ := List.mem_map.1 hx
    simp only [eGp, D.cells, List.mem_cons, List.not_mem_nil, or_false] at hd
    rcases hd with rfl | rfl <;> rfl
noncomputable def g_partsR : List D → Option D := encSpec (fun x : (List Bs) => [.list (x.map .str)]) (fun x : (List Bs) => x ≠ [] ∧ x.length ≤ 1099511627776 ∧ ∀ w ∈ x, w.length ≤ 1099511627776) (fun x : (List Bs) => .list ((gList (x.headD []) x.tail).map eGp))
theorem g_partsR_eq {l : List Bs} (hd : l ≠ [] ∧ l.length ≤ 1099511627776 ∧ ∀ w ∈ l, w.length ≤ 1099511627776) : g_partsR [.list (l.map .str)] = some (.list ((gList (l.headD []) l.tail).map eGp)) := encSpec_eq (x := l) hd fun y hy => by
    simp only [List.cons.injEq, and_true, true_and, D.str.injEq, D.int.injEq, D.list.injEq, D.bool.injEq, D.agg.injEq, D.clo.injEq, Int.natCast_inj, inj_ie, UInt8.toNat_inj] at hy
    rw [hy]
theorem f_partsR_ok : PureOK Tryz.prog 53 false g_partsR := by
  have hΓ := Γp f_sepR_ok (Γn)
  refine pure_enc (n := 43) (rs := [.tmp 2]) Tryz.func53 (by kernel_rfl) rfl (by kernel_rfl) (by kernel_rfl) ?_
  rintro l hd
  (try dsimp only at hd ⊢)
  refine ⟨fun h => (by cases h), fun k hz0 => ?_⟩
  obtain ⟨hne, hl, hw⟩ := hd
  obtain ⟨nm, ws, rfl⟩ : ∃ nm ws, l = nm :: ws := by cases l with
    | nil => exact absurd rfl hne
    | cons x r => exact ⟨x, r, rfl⟩
  simp only [List.headD_cons, List.tail_cons, List.map_cons]
  have hlen : ws.length + 1 ≤ 1099511627776 := hl
  have hdr : List.take (ws.length + 1 - 1) (List.map D.str ws) = List.map D.str ws := List.take_of_length_le (by simp)
  rw [start_frame (by simp)]; simp only [enumV, go_sem, emptyH]
  repeat (first
    | (apply axJ; (focus ((with_reducible constructor) <;> rfl)))
    | (apply awT mixedOK hΓ (by kernel_rfl); (simp (disch := omega) only [go_sem, ↓reduceIte, ↓lk, dk, Int.reduceToNat, List.getElem?_cons_zero, List.getElem?_cons_succ, ↓ty_build116, List.length_cons, List.length_map, hdr, zeroLoose, partsLoose, arrRep] <;> with_reducible rfl))
    | ((first | apply awN hΓ | apply awG | apply awH mixedOK hΓ rfl (by kernel_rfl) | apply ovE rfl); (simp (disch := omega) only [go_sem, ↓reduceIte, ↓lk, dk, Int.reduceToNat, List.getElem?_cons_zero, List.getElem?_cons_succ, ↓ty_build116, List.length_cons, List.length_map, hdr, zeroLoose, partsLoose, arrRep] <;> with_reducible rfl); exact trivial)
    | rfl)
  refine awp_loop_at (X := Nat) (fun i => (frame 43 [(3, .row 0 ((gAll nm (ws.take i)).1.length + 1)), (13, .data (.list (ws.map .str))), (14, .data (i64 ws.length)), (15, .data (i64 i))]))
    (fun i => [(0, .arr 116 2 ((gAll nm (ws.take i)).1.length + 1) (cG (gAll nm (ws.take i)).1 ++ [.data (.str (gAll nm (ws.take i)).2.name), .row 1 (gAll nm (ws.take i)).2.words.length])), (1, .row 9 1 ((gAll nm (ws.take i)).2.words.map .str))]) 2
    (fun i => i ≤ ws.length) (fun i => ws.length - i) 0 (Nat.zero_le _)
    ((Weak.arrnil (o := 5) (i := 1) 9 (sz := 1) (by omega) rfl rfl).trans (Weak.trans (s2 := (frame 43 [(3, .row 5 1), (13, .data (.list (ws.map .str))), (14, .data (i64 ws.length)), (15, .data (i64 0))])) (H2 := ⟨[(5, .arr 116 2 1 [.data (.str nm), .row 11 0]), (11, .row 9 1 [])], 12⟩) (Weak.ofF (by omega) (by (simp [ConvF, lookV, Conv, ints, upd, List.set]; done)) (by (simp (disch := omega) only [TabSub, look, if_pos, if_neg, Obj.refsOK, refsOKs, AV.refsOK, decide_eq_true_eq, Bool.and_true, Bool.and_self, upd, List.set] ) <;> ((repeat' apply And.intro) <;> first | exact True.intro | omega | (simp; done) | rfl)) (by simp (disch := omega) only [refsF, refsOKs, AV.refsOK, Bool.and_true, Bool.and_self, decide_eq_true_eq, Bool.true_and, Bool.and_eq_true]; (repeat' apply And.intro) <;> omega)) (Weak.packd (os := [.arr 116 2 1 [.data (.str nm), .row 1 0], .row 9 1 ([] : List D)]) (fp := [5, 11]) rfl rfl (by intro i hi; omega) rfl rfl))) ?_
  intro i hi
  (try dsimp only at hi ⊢)
  obtain ⟨z1, z2⟩ := gAll_bd nm (ws.take i)
  have z3 : (ws.take i).length ≤ 1099511627776 := by rw [List.length_take]; omega
  by_cases hi2 : i < ws.length
  · have hst := gAll_step (nm := nm) hi2
    have e1 := g_sepR_eq (s := ws[i]) (hw _ (by simp))
    generalize hy : ws[i] = w at *
    generalize gAll nm (ws.take i) = p at *
    obtain ⟨gs, ⟨n0, w0⟩⟩ := p
    dsimp only at z1 z2 hst ⊢
    unfold gstep at hst
    have hcl := cG_len gs
    generalize isSep w = c at *
    have hix : ((gs.length + 1 : Nat) : Int) - 1 = (gs.length : Int) := by omega
    cases c
    · simp only [Bool.false_eq_true, if_false] at hst
      repeat (first
        | (apply axJ; (focus ((with_reducible constructor) <;> rfl)))
        | (apply awT mixedOK hΓ (by kernel_rfl); (simp (disch := omega) only [go_sem, ↓reduceIte, ↓lk, dk, Int.reduceToNat, List.getElem?_cons_zero, List.getElem?_cons_succ, ↓ty_build116, hy, e1, hix, cG_drop, cG_lay, zeroLoose, partsLoose, arrRep] <;> with_reducible rfl))
        | ((first | apply awN hΓ | apply awG | apply awH mixedOK hΓ rfl (by kernel_rfl) | apply ovE rfl); (simp (disch := omega) only [go_sem, ↓reduceIte, ↓lk, dk, Int.reduceToNat, List.getElem?_cons_zero, List.getElem?_cons_succ, ↓ty_build116, hy, e1, hix, cG_drop, cG_lay, zeroLoose, partsLoose, arrRep] <;> with_reducible rfl); exact trivial)
        | rfl)
      refine ⟨i + 1, by omega, by omega, ?_⟩
      rw [hst]
      dsimp only
      have hm : (w0 ++ [w]).map D.str = w0.map D.str ++ [.str w] := by rw [List.map_append]; rfl
      rw [hm, List.length_append, Int.natCast_add, Int.natCast_one]
      exact Weak.ofF (by omega) (by (simp [ConvF, lookV, Conv, ints, cG_refs]; done)) (by (simp (disch := omega) only [TabSub, look, if_pos, if_neg, Obj.refsOK, refsOKs, AV.refsOK, decide_eq_true_eq, Bool.and_true, Bool.and_self, cG_refs] ) <;> ((repeat' apply And.intro) <;> first | exact True.intro | omega | (simp; done) | rfl)) (by simp (disch := omega) only [refsF, refsOKs, AV.refsOK, Bool.and_true, Bool.and_self, decide_eq_true_eq, Bool.true_and, Bool.and_eq_true]; (repeat' apply And.intro) <;> omega)
    · simp only [if_true] at hst
      repeat (first
        | (apply axJ; (focus ((with_reducible constructor) <;> rfl)))
        | (apply awT mixedOK hΓ (by kernel_rfl); (simp (disch := omega) only [go_sem, ↓reduceIte, ↓lk, dk, Int.reduceToNat, List.getElem?_cons_zero, List.getElem?_cons_succ, ↓ty_build116, hy, e1, hix, zeroLoose, partsLoose, arrRep] <;> with_reducible rfl))
        | ((first | apply awN hΓ | apply awG | apply awH mixedOK hΓ rfl (by kernel_rfl) | apply ovE rfl); (simp (disch := omega) only [go_sem, ↓reduceIte, ↓lk, dk, Int.reduceToNat, List.getElem?_cons_zero, List.getElem?_cons_succ, ↓ty_build116, hy, e1, hix, zeroLoose, partsLoose, arrRep] <;> with_reducible rfl); exact trivial)
        | rfl)
      refine ⟨i + 1, by omega, by omega, ?_⟩
      rw [hst]
      dsimp only
      have hgs := cG_snoc gs ⟨n0, w0⟩
      have hln : (gs ++ [(⟨n0, w0⟩ : Gp)]).length = gs.length + 1 := by simp
      have hcv : ∀ H : Heap, H.get 1 = some (.frz (w0.map .str)) → ConvL H (cG gs ++ [.data (.str n0), .row 1 w0.length] ++ [.data (.str w), .nils]) (cG (gs ++ [⟨n0, w0⟩]) ++ [.data (.str w), .nils]) := fun H h => by
        rw [hgs, List.append_assoc, List.append_assoc]
        have hc : ConvL H [.data (.str n0), .row 1 w0.length, .data (.str w), .nils] [.data (.str n0), .data (.list (w0.map .str)), .data (.str w), .nils] := ⟨rfl, .inr (.inr ⟨1, _, rfl, h, by simp⟩), rfl, rfl, trivial⟩
        exact convL_data H hc _
      have hnl := cG_get (gs ++ [⟨n0, w0⟩]) (.data (.str w)) .nils
      have hse := fun k => cG_set (gs ++ [⟨n0, w0⟩]) (.data (.str w)) .nils (.row k 0)
      generalize gs ++ [(⟨n0, w0⟩ : Gp)] = gs2 at *
      rw [hln, Int.natCast_add, Int.natCast_one]
      rw [hln] at hnl hse
      refine (Weak.freeze (o := 1) rfl).trans ((Weak.arrConv (o := 0) rfl (hcv _ rfl)).trans ((Weak.arrnil (o := 0) (i := (gs.length + 1) * 2 + 1) 9 (sz := 1) (by omega) rfl hnl).trans ?_))
      rw [hse]
      exact Weak.trans (s2 := (frame 43 [(3, .row 0 (gs.length + 1 + 1)), (13, .data (.list (ws.map .str))), (14, .data (i64 ws.length)), (15, .data (i64 ((i : Int) + 1)))])) (H2 := ⟨[(0, .arr 116 2 (gs.length + 1 + 1) (cG gs2 ++ [.data (.str w), .row 16 0])), (16, .row 9 1 [])], 17⟩) (Weak.ofF (by omega) (by (simp [ConvF, lookV, Conv, ints, upd, Heap.set, cG_refs]; done)) (by (simp (disch := omega) only [TabSub, look, if_pos, if_neg, Obj.refsOK, refsOKs, AV.refsOK, decide_eq_true_eq, Bool.and_true, Bool.and_self, upd, Heap.set, cG_refs] ) <;> ((repeat' apply And.intro) <;> first | exact True.intro | omega | (simp; done) | rfl)) (by simp (disch := omega) only [refsF, refsOKs, AV.refsOK, Bool.and_true, Bool.and_self, decide_eq_true_eq, Bool.true_and, Bool.and_eq_true]; (repeat' apply And.intro) <;> omega)) (Weak.packd (os := [.arr 116 2 (gs.length + 1 + 1) (cG gs2 ++ [.data (.str w), .row 1 0]), .row 9 1 ([] : List D)]) (fp := [0, 16]) rfl rfl (by intro i hi; omega) rfl (by simp only [List.map_cons, List.map_nil, renO, cG_ren]; rfl))
  · have hi3 : i = ws.length := by omega
    subst hi3
    rw [List.take_length] at z1 z2 ⊢
    unfold gList
    generalize gAll nm ws = p at *
    obtain ⟨gs, ⟨n0, w0⟩⟩ := p
    dsimp only at z1 z2 ⊢
    have hgs := cG_snoc gs ⟨n0, w0⟩
    have hln : (gs ++ [(⟨n0, w0⟩ : Gp)]).length = gs.length + 1 := by simp
    have hcv : ∀ H : Heap, H.get 1 = some (.frz (w0.map .str)) → ConvL H (cG gs ++ [.data (.str n0), .row 1 w0.length]) (cG (gs ++ [⟨n0, w0⟩])) := fun H h => by
      rw [hgs]
      have hc : ConvL H [.data (.str n0), .row 1 w0.length] [.data (.str n0), .data (.list (w0.map .str))] := ⟨rfl, .inr (.inr ⟨1, _, rfl, h, by simp⟩), trivial⟩
      exact convL_data H hc _
    have hce := eGps_cells (gs ++ [⟨n0, w0⟩])
    generalize gs ++ [(⟨n0, w0⟩ : Gp)] = gs2 at *
    rw [← hln]
    refine awp_weak ((Weak.freeze (o := 1) rfl).trans ((Weak.arrRow (o := 0) (l := gs2.map eGp) rfl (hcv _ rfl) (by simp) hce.1 hce.2).trans (show Weak _ _ _ ((frame 43 [(3, .row 0 gs2.length), (14, .data (i64 ws.length)), (15, .data (i64 ws.length))])) ⟨[(0, .row 116 2 (gs2.map eGp))], 2⟩ from Weak.v (by (simp [ConvF, lookV, Conv, ints, upd, Heap.set]; done)) (by (simp (disch := omega) only [TabSub, look, if_pos, if_neg, Obj.refsOK, refsOKs, AV.refsOK, decide_eq_true_eq, Bool.and_true, Bool.and_self, upd, Heap.set] ) <;> ((repeat' apply And.intro) <;> first | exact True.intro | omega | (simp; done) | rfl))))) ?_
    repeat (first
      | (apply axJ; (focus ((with_reducible constructor) <;> rfl)))
      | (apply awT mixedOK hΓ (by kernel_rfl); (simp (disch := omega) only [go_sem, ↓reduceIte, ↓lk, dk] <;> with_reducible rfl))
      | ((first | apply awR hΓ | apply awG | apply awH mixedOK hΓ rfl (by kernel_rfl) | apply ovE rfl); (simp (disch := omega) only [go_sem, ↓reduceIte, ↓lk, dk] <;> with_reducible rfl); exact trivial)
      | rfl)
    try rfl
end Go.Ab
namespace Go.Ab
open Go Go.RowKit Go.Proofs
set_option maxRecDepth 10000
set_option maxHeartbeats 8000000
@[go_sem] theorem elemsOK_gp (l : List Gp) : elemsOK 2 (l.map eGp) = true := elemsOK_map (f := eGp) (fun _ => ⟨by rfl, by rfl⟩) l
@[go_sem] theorem eGp_eq (g : Gp) : eGp g = .agg [.str g.name, .list (g.words.map .str)] := rfl
def signB (g : Gp) : UInt8 := if g.words.length < 2 then UInt8.ofNat (48 + g.words.length) else 43
def formS : List Gp → Bs
  | [] => []
  | g :: r => g.name ++ [signB g, 32] ++ formS r
theorem formS_append (a b : List Gp) : formS (a ++ b) = formS a ++ formS b := by
  induction a with
  | nil => rfl
  | cons g a ih => rw [List.cons_append, formS, ih, formS]; simp
theorem formS_step {l : List Gp} {i : Nat} (hi : i < l.length) : formS (l.take (i + 1)) = formS (l.take i) ++ l[i].name ++ [signB l[i]] ++ [32] := by
  rw [List.take_add_one, List.getElem?_eq_getElem hi, formS_append]
  simp [formS]
theorem formS_le (l : List Gp) (i : Nat) : (formS (l.take i)).length ≤ (formS l).length := by
  conv => rhs; rw [← List.take_append_drop i l, formS_append]
  rw [List.length_append]
  omega
noncomputable def g_form14 : List D → Option D := encSpec (fun x : (List Gp) => [.list (x.map eGp)]) (fun x : (List Gp) => x.length ≤ 1099511627776 ∧ (formS x).length ≤ 1099511627776 ∧ ∀ g ∈ x, g.words.length ≤ 1099511627776) (fun x : (List Gp) => .str (formS x))
theorem g_form14_eq {l : List Gp} (hd : l.length ≤ 1099511627776 ∧ (formS l).length ≤ 1099511627776 ∧ ∀ g ∈ l, g.words.length ≤ 1099511627776) : g_form14 [.list (l.map eGp)] = some (.str (formS l)) := encSpec_eq (x := l) hd fun y hy => by
    simp only [List.cons.injEq, and_true, true_and, D.str.injEq, D.int.injEq, D.list.injEq, D.bool.injEq, D.agg.injEq, D.clo.injEq, Int.natCast_inj, inj_ie, eGps_ie] at hy
    rw [hy]
theorem f_form14_ok : PureOK Tryz.prog 90 true g_form14 := by
  have hΓ := Γp f_decimal_ok (Γn)
  refine pure_enc (n := 30) (rs := [.tmp 2]) Tryz.func90 (by kernel_rfl) rfl (by kernel_rfl) (by kernel_rfl) ?_
  rintro l hd
  (try dsimp only at hd ⊢)
  refine ⟨fun _ => by (repeat (first | exact .int _ _ | exact .bool _ | exact .str _ | (refine .tup _ (fun d hd => ?_); simp only [List.mem_cons, List.not_mem_nil, or_false] at hd; rcases hd with rfl | hd))), fun k hz0 => ?_⟩
  obtain ⟨hl, hf, hw⟩ := hd
  rw [start_frame (by simp)]; simp only [enumV, go_sem, emptyH]
  repeat (first
    | (apply axJ; (focus ((with_reducible constructor) <;> rfl)))
    | (apply awT mixedOK hΓ (by kernel_rfl); (simp (disch := omega) only [go_sem, ↓reduceIte, dk, ↓lk] <;> with_reducible rfl))
    | ((first | apply awR hΓ | apply awG | apply awH mixedOK hΓ rfl (by kernel_rfl) | apply ovE rfl); (simp (disch := omega) only [go_sem, ↓reduceIte, dk, ↓lk] <;> with_reducible rfl); exact trivial)
    | rfl)
  refine awp_loop_at (X := Nat) (fun i => (frame 30 [(3, .data (.str (formS (l.take i)))), (7, .data (.list (l.map eGp))), (8, .data (i64 l.length)), (9, .data (i64 i))])) (fun _ => []) 5
    (fun i => i ≤ l.length) (fun i => l.length - i) 0 (Nat.zero_le _) (Weak.v (by (simp [ConvF, lookV, Conv, ints, formS]; done)) (by (simp (disch := omega) only [TabSub, look, if_pos, if_neg, Obj.refsOK, refsOKs, AV.refsOK, decide_eq_true_eq, Bool.and_true, Bool.and_self, formS] ) <;> ((repeat' apply And.intro) <;> first | exact True.intro | omega | (simp; done) | rfl))) ?_
  intro i hi
  (try dsimp only at hi ⊢)
  by_cases hi2 : i < l.length
  · have hst := formS_step hi2
    have hle := formS_le l (i + 1)
    have hwi := hw l[i] (List.getElem_mem hi2)
    rw [hst] at hle
    simp only [List.length_append, List.length_cons, List.length_nil] at hle
    generalize hy : l[i] = g at *
    by_cases h2 : g.words.length < 2
    · have e1 := g_decimal_eq (n := g.words.length) (by omega)
      have hsg : [signB g] = [UInt8.ofNat (48 + g.words.length)] := by unfold signB; rw [if_pos h2]
      rw [← hsg] at e1
      have hd1 : decide ((g.words.length : Int) < 2) = true := decide_eq_true (by omega)
      repeat (first
        | (apply axJ; (focus ((with_reducible constructor) <;> rfl)))
        | (apply awT mixedOK hΓ (by kernel_rfl); (simp (disch := (first | omega | (simp only [maxLen, List.length_append, List.length_cons, List.length_nil]; omega))) only [go_sem, ↓reduceIte, decide_eq_true, decide_eq_false, if_pos, if_neg, wrap_in, ↓lk, ↓if_pos, ↓if_neg, hy, hd1, e1] <;> with_reducible rfl))
        | ((first | apply awR hΓ | apply awG | apply awH mixedOK hΓ rfl (by kernel_rfl) | apply ovE rfl); (simp (disch := (first | omega | (simp only [maxLen, List.length_append, List.length_cons, List.length_nil]; omega))) only [go_sem, ↓reduceIte, decide_eq_true, decide_eq_false, if_pos, if_neg, wrap_in, ↓lk, ↓if_pos, ↓if_neg, hy, hd1, e1] <;> with_reducible rfl); exact trivial)
        | rfl)
      exact ⟨i + 1, by omega, by omega, by rw [hst]; exact Weak.w⟩
    · have hsg : [signB g] = [43] := by unfold signB; rw [if_neg h2]
      have hd1 : decide ((g.words.length : Int) < 2) = false := decide_eq_false (by omega)
      rw [hsg] at hst
      repeat (first
        | (apply axJ; (focus ((with_reducible constructor) <;> rfl)))
        | (apply awT mixedOK hΓ (by kernel_rfl); (simp (disch := (first | omega | (simp only [maxLen, List.length_append, List.length_cons, List.length_nil]; omega))) only [go_sem, ↓reduceIte, decide_eq_true, decide_eq_false, if_pos, if_neg, wrap_in, ↓lk, ↓if_pos, ↓if_neg, hy, hd1] <;> with_reducible rfl))
        | ((first | apply awR hΓ | apply awG | apply awH mixedOK hΓ rfl (by kernel_rfl) | apply ovE rfl); (simp (disch := (first | omega | (simp only [maxLen, List.length_append, List.length_cons, List.length_nil]; omega))) only [go_sem, ↓reduceIte, decide_eq_true, decide_eq_false, if_pos, if_neg, wrap_in, ↓lk, ↓if_pos, ↓if_neg, hy, hd1] <;> with_reducible rfl); exact trivial)
        | rfl)
      exact ⟨i + 1, by omega, by omega, by rw [hst]; exact Weak.w⟩
  · have hi3 : i = l.length := by omega
    subst hi3
    rw [List.take_length]
    repeat (first
      | (apply axJ; (focus ((with_reducible constructor) <;> rfl)))
      | (apply awT mixedOK hΓ (by kernel_rfl); (simp (disch := omega) only [go_sem, ↓reduceIte, dk, ↓lk] <;> with_reducible rfl))
      | ((first | apply awR hΓ | apply awG | apply awH mixedOK hΓ rfl (by kernel_rfl) | apply ovE rfl); (simp (disch := omega) only [go_sem, ↓reduceIte, dk, ↓lk] <;> with_reducible rfl); exact trivial)
      | rfl)
    try rfl
def someB (s b e : Bs) : Bool := (s == b ++ [49, 32] ++ e) || (s == b ++ [43, 32] ++ e)
noncomputable def g_someR : List D → Option D := encSpec (fun x : Bs × Bs × Bs => [.str x.1, .str x.2.1, .str x.2.2]) (fun x : Bs × Bs × Bs => x.1.length ≤ 1099511627776 ∧ x.2.1.length ≤ 100 ∧ x.2.2.length ≤ 100) (fun x : Bs × Bs × Bs => .bool (someB x.1 x.2.1 x.2.2))
theorem g_someR_eq {s : Bs} {b : Bs} {e : Bs} (hd : s.length ≤ 1099511627776 ∧ b.length ≤ 100 ∧ e.length ≤ 100) : g_someR [.str s, .str b, .str e] = some (.bool (someB s b e)) := encSpec_eq (x := (s, b, e)) hd fun y hy => by
    obtain ⟨y0, y1, y2⟩ := y; simp only [List.cons.injEq, and_true, true_and, D.str.injEq, D.int.injEq, D.list.injEq, D.bool.injEq, D.agg.injEq, D.clo.injEq, Int.natCast_inj, inj_ie, eGps_ie] at hy
    (try obtain ⟨rfl, rfl, rfl⟩ := hy)
    (try subst_vars)
    rfl
theorem f_someR_ok : PureOK Tryz.prog 91 true g_someR := by
  have hΓ := Γ0_ok
  refine pure_enc (n := 21) (rs := [.tmp 6]) Tryz.func91 (by kernel_rfl) rfl (by kernel_rfl) (by kernel_rfl) ?_
  rintro ⟨s, b, e⟩ hd
  (try dsimp only at hd ⊢)
  refine ⟨fun _ => by (repeat (first | exact .int _ _ | exact .bool _ | exact .str _ | (refine .tup _ (fun d hd => ?_); simp only [List.mem_cons, List.not_mem_nil, or_false] at hd; rcases hd with rfl | hd))), fun k hz0 => ?_⟩
  obtain ⟨hs, hb, he⟩ := hd
  unfold someB
  have h1 : b.length + 2 ≤ maxLen := by unfold maxLen; omega
  have h2 : b.length + 2 + e.length ≤ maxLen := by unfold maxLen; omega
  have h3 : (b ++ [49, 32]).length = b.length + 2 := by simp
  have h4 : (b ++ [43, 32]).length = b.length + 2 := by simp
  rw [start_frame (by simp)]; simp only [enumV, go_sem, emptyH]
  generalize hc1 : (s == b ++ [49, 32] ++ e) = c1
  generalize hc2 : (s == b ++ [43, 32] ++ e) = c2
  cases c1
  · repeat (first
    | (apply axJ; (focus ((with_reducible constructor) <;> rfl)))
    | (apply awT mixedOK hΓ (by kernel_rfl); (simp (disch := omega) only [go_sem, ↓reduceIte, ↓lk, h1, h2, h3, h4, hc1, hc2] <;> with_reducible rfl))
    | ((first | apply awR hΓ | apply awG | apply awH mixedOK hΓ rfl (by kernel_rfl) | apply ovE rfl); (simp (disch := omega) only [go_sem, ↓reduceIte, ↓lk, h1, h2, h3, h4, hc1, hc2] <;> with_reducible rfl); exact trivial)
    | rfl)
    try rfl
  · repeat (first
    | (apply axJ; (focus ((with_reducible constructor) <;> rfl)))
    | (apply awT mixedOK hΓ (by kernel_rfl); (simp (disch := omega) only [go_sem, ↓reduceIte, ↓lk, h1, h2, h3, h4, hc1, hc2] <;> with_reducible rfl))
    | ((first | apply awR hΓ | apply awG | apply awH mixedOK hΓ rfl (by kernel_rfl) | apply ovE rfl); (simp (disch := omega) only [go_sem, ↓reduceIte, ↓lk, h1, h2, h3, h4, hc1, hc2] <;> with_reducible rfl); exact trivial)
    | rfl)
    try rfl
noncomputable def g_firstR : List D → Option D := encSpec (fun x : (List Bs) => [.list (x.map .str)]) (fun x : (List Bs) => x.length ≤ 1099511627776) (fun x : (List Bs) => .str (x.headD []))
theorem g_firstR_eq {l : List Bs} (hd : l.length ≤ 1099511627776) : g_firstR [.list (l.map .str)] = some (.str (l.headD [])) := encSpec_eq (x := l) hd fun y hy => by
    simp only [List.cons.injEq, and_true, true_and, D.str.injEq, D.int.injEq, D.list.injEq, D.bool.injEq, D.agg.injEq, D.clo.injEq, Int.natCast_inj, inj_ie, eGps_ie] at hy
    rw [hy]
theorem f_firstR_ok : PureOK Tryz.prog 61 true g_firstR := by
  have hΓ := Γ0_ok
  refine pure_enc (n := 9) (rs := [.tmp 2]) Tryz.func61 (by kernel_rfl) rfl (by kernel_rfl) (by kernel_rfl) ?_
  rintro l hd
  (try dsimp only at hd ⊢)
  refine ⟨fun _ => by (repeat (first | exact .int _ _ | exact .bool _ | exact .str _ | (refine .tup _ (fun d hd => ?_); simp only [List.mem_cons, List.not_mem_nil, or_false] at hd; rcases hd with rfl | hd))), fun k hz0 => ?_⟩
  rw [start_frame (by simp)]; simp only [enumV, go_sem, emptyH]
  cases l with
  | nil =>
    repeat (first
      | (apply axJ; (focus ((with_reducible constructor) <;> rfl)))
      | (apply awT mixedOK hΓ (by kernel_rfl); (simp (disch := omega) only [go_sem, ↓reduceIte, dk, ↓lk, Int.reduceToNat, List.getElem?_cons_zero, List.getElem?_cons_succ, Int.reduceBEq, Int.reduceBNe, Bool.true_bne, Bool.false_bne, Bool.not_true, Bool.not_false, show ((0 : Nat) : Int) = 0 from rfl] <;> with_reducible rfl))
      | ((first | apply awR hΓ | apply awG | apply awH mixedOK hΓ rfl (by kernel_rfl) | apply ovE rfl); (simp (disch := omega) only [go_sem, ↓reduceIte, dk, ↓lk, Int.reduceToNat, List.getElem?_cons_zero, List.getElem?_cons_succ, Int.reduceBEq, Int.reduceBNe, Bool.true_bne, Bool.false_bne, Bool.not_true, Bool.not_false, show ((0 : Nat) : Int) = 0 from rfl] <;> with_reducible rfl); exact trivial)
      | rfl)
    try rfl
  | cons w l =>
    have hl : (w :: l).length = l.length + 1 := rfl
    have h0 : (((w :: l).length : Int) == 0) = false := by rw [beq_eq_false_iff_ne]; omega
    rw [List.headD_cons]
    have hw0 : (w :: l)[0]? = some w := rfl
    generalize w :: l = r at *
    have hw1 : ∀ h : 0 < r.length, r[0]'h = w := fun h => by rw [List.getElem?_eq_getElem h] at hw0; simpa using hw0
    repeat (first
      | (apply axJ; (focus ((with_reducible constructor) <;> rfl)))
      | (apply awT mixedOK hΓ (by kernel_rfl); (simp (disch := omega) only [go_sem, ↓reduceIte, dk, ↓lk, Int.reduceToNat, h0, hw1] <;> with_reducible rfl))
      | ((first | apply awR hΓ | apply awG | apply awH mixedOK hΓ rfl (by kernel_rfl) | apply ovE rfl); (simp (disch := omega) only [go_sem, ↓reduceIte, dk, ↓lk, Int.reduceToNat, h0, hw1] <;> with_reducible rfl); exact trivial)
      | rfl)
    try rfl
end Go.Ab
