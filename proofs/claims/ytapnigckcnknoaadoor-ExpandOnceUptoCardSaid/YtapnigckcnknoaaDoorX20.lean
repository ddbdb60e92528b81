/-
  One text of the proof (own work): contracts of functions of the program, by the abstract machine.
-/
import Derived.Test.YtapnigckcnknoaaDoorX19
import Derived.Test.YtapnigckcnknoaaDoorX12
import Derived.Test.YtapnigckcnknoaaDoorX11
set_option linter.unusedVariables false
set_option linter.unusedSimpArgs false
namespace Go.Ab
open Go Go.RowKit Go.Proofs
set_option maxRecDepth 4000
structure ArgOK (one : List Wd) (out : List (List Wd)) (l : List Wd) (a : List (List Wd)) (r : List Wd) : Prop where
  suf : r <:+ l
  mem : ∀ x ∈ a, x ∈ out ∨ (x.length ≤ one.length + l.length ∧ ∀ w ∈ x, w ∈ one ∨ w ∈ l)
  len : a.length ≤ out.length + l.length
theorem argsGo_ok : ∀ (l : List Wd) (d : Nat) (one : List Wd) (out : List (List Wd)) (a : List (List Wd)) (r : List Wd), argsGo d one out l = some (a, r) → ArgOK one out l a r
  | [], _, _, _, _, _, h => by simp [argsGo] at h
  | w :: l, d, one, out, a, r, h => by
    rw [argsGo] at h
    split at h
    · split at h
      · cases h
      · split at h
        · simp only [Option.some.injEq, Prod.mk.injEq] at h
          obtain ⟨rfl, rfl⟩ := h
          refine ⟨List.suffix_cons _ _, fun x hx => ?_, by simp⟩
          rcases List.mem_append.1 hx with hx | hx
          · exact .inl hx
          · simp only [List.mem_singleton] at hx
            subst hx
            exact .inr ⟨by omega, fun w hw => .inl hw⟩
        · have ih := argsGo_ok l 0 [] (out ++ [one]) a r h
          refine ⟨ih.suf.trans (List.suffix_cons _ _), fun x hx => ?_, by have := ih.len; simp at this ⊢; omega⟩
          rcases ih.mem x hx with h1 | ⟨h1, h2⟩
          · rcases List.mem_append.1 h1 with h1 | h1
            · exact .inl h1
            · simp only [List.mem_singleton] at h1
              subst h1
              exact .inr ⟨by omega, fun w hw => .inl hw⟩
          · refine .inr ⟨by simp at h1 ⊢; omega, fun v hv => ?_⟩
            rcases h2 v hv with h3 | h3
            · cases h3
            · exact .inr (by simp [h3])
    · have ih := argsGo_ok l _ (one ++ [w]) out a r h
      refine ⟨ih.suf.trans (List.suffix_cons _ _), fun x hx => ?_, by have := ih.len; simp at this ⊢; omega⟩
      rcases ih.mem x hx with h1 | ⟨h1, h2⟩
      · exact .inl h1
      · refine .inr ⟨by simp at h1 ⊢; omega, fun v hv => ?_⟩
        rcases h2 v hv with h3 | h3
        · rcases List.mem_append.1 h3 with h3 | h3
          · exact .inl h3
          · simp only [List.mem_singleton] at h3
            exact .inr (by simp [h3])
        · exact .inr (by simp [h3])
structure ArgsOK (l : List Wd) (a : List (List Wd)) (r : List Wd) : Prop where
  suf : r <:+ l
  len : a.length ≤ l.length
  mem : ∀ x ∈ a, x.length ≤ l.length ∧ ∀ w ∈ x, w ∈ l
theorem argsG_ok {l : List Wd} {a : List (List Wd)} {r : List Wd} (h : argsG l = some (a, r)) : ArgsOK l a r := by
  cases l with
  | nil => cases h
  | cons w l =>
    rw [argsG] at h
    split at h
    · have := argsGo_ok l 0 [] [] a r h
      refine ⟨this.suf.trans (List.suffix_cons _ _), by have := this.len; simp at this ⊢; omega, fun x hx => ?_⟩
      rcases this.mem x hx with h1 | ⟨h1, h2⟩
      · cases h1
      · refine ⟨by simp at h1 ⊢; omega, fun v hv => ?_⟩
        rcases h2 v hv with h3 | h3
        · cases h3
        · simp [h3]
    · cases h
structure ArgE (m : Mc) (l : List Wd) (a : List (List Wd)) (r : List Wd) : Prop where
  suf : r <:+ l
  len : a.length = m.params.length
  mem : ∀ x ∈ a, x.length ≤ l.length ∧ ∀ w ∈ x, w ∈ l
theorem argsE_ok {m : Mc} {l : List Wd} (h : (argsE m l).2 = 0) : ArgE m l (argsE m l).1.1 (argsE m l).1.2 := by
  unfold argsE at h ⊢
  split
  · rename_i hp
    refine ⟨List.suffix_refl _, ?_, fun x hx => by cases hx⟩
    rw [List.isEmpty_iff.1 hp]
    rfl
  · rename_i hp
    rw [if_neg hp] at h
    cases hg : argsG l with
    | none => rw [hg] at h; cases h
    | some q =>
      obtain ⟨a, r⟩ := q
      rw [hg] at h
      dsimp only at h ⊢
      split
      · rename_i hl
        have := argsG_ok hg
        exact ⟨this.suf, by simpa using hl, this.mem⟩
      · rename_i hl
        rw [if_neg hl] at h
        cases h
def HidAll (us : List Mc) (l : List Wd) : Prop := ∀ w ∈ l, HidOK us w.2
theorem now_hid {us : List Mc} {m : Mc} {l : List Wd} {i : Nat} {args : List (List Wd)} {rest : List Wd} {body : List Tk} (hm : m ∈ us) (hl : HidAll us l) (hi : i < l.length) (ha : ∀ x ∈ args, ∀ w ∈ x, w ∈ l) (hr : ∀ w ∈ rest, w ∈ l) : HidAll us (nowG m l i args rest body) := by
  have hh : HidOK us (bothB [m.name] (l.getD i ((0, []), [])).2) := by
    refine (HidOK.one hm).both (hl _ ?_)
    rw [List.getD_eq_getElem?_getD, List.getElem?_eq_getElem hi, Option.getD_some]
    exact List.getElem_mem hi
  intro w hw
  unfold nowG at hw
  rcases List.mem_append.1 hw with hw | hw
  · exact hl w (List.mem_of_mem_take hw)
  · rcases List.mem_append.1 hw with hw | hw
    · obtain ⟨t, _, hw⟩ := List.mem_flatMap.1 hw
      unfold substG at hw
      split at hw
      · simp only [List.mem_singleton] at hw
        rw [hw]; exact hh
      · rename_i k hatk
        obtain ⟨a, ha2, rfl⟩ := List.mem_map.1 hw
        rw [List.getD_eq_getElem?_getD] at ha2
        cases hk : args[k]? with
        | none => rw [hk] at ha2; cases ha2
        | some x =>
          rw [hk] at ha2
          exact hh.both (hl a (ha x (List.mem_of_getElem? hk) a ha2))
    · exact hl w (hr w hw)
theorem meant_mem {us : List Mc} {w : Wd} {m : Mc} (h : meantB us w = some m) : m ∈ us ∧ w.1.1 = 1 ∧ m.name = w.1.2 ∧ w.1.2 ∉ w.2 := by
  unfold meantB at h
  split at h
  · cases h
  · rename_i hc
    have h1 := List.find?_some h
    simp only [Bool.or_eq_true, bne_iff_ne, ne_eq, not_or, Classical.not_not, Bool.not_eq_true] at hc
    exact ⟨List.mem_of_find?_eq_some h, hc.1, by simpa using h1, by simpa using hc.2⟩
theorem repl_hid {fs : List Fl} {us : List Mc} {m : Mc} {l : List Wd} {i : Nat} (hm : m ∈ us) (hl : HidAll us l) (hi : i < l.length) : HidAll us (replG fs m l i).1 := by
  unfold replG
  split
  · rename_i h0
    have hA := argsE_ok (m := m) (l := l.drop (i + 1)) (by simpa using h0)
    split
    · split
      · intro w hw; cases hw
      · exact now_hid hm hl hi (fun x hx w hw => List.mem_of_mem_drop ((hA.mem x hx).2 w hw)) (fun w hw => List.mem_of_mem_drop (hA.suf.subset hw))
    · intro w hw; cases hw
  · intro w hw; cases hw
theorem repl_len {fs : List Fl} {m : Mc} {l : List Wd} {i : Nat} : (replG fs m l i).1.length ≤ 256 := by
  unfold replG
  split
  · split
    · split
      · simp
      · rename_i h
        simp only [decide_eq_true_eq] at h
        dsimp only
        omega
    · simp
  · simp
theorem setG_snoc (l : List Sq) (s : Sq) : setG (l ++ [s]) = if full s then addN s (setG l) else setG l := by
  unfold setG
  rw [List.filter_append]
  by_cases h : full s = true
  · rw [if_pos h, List.filter_cons_of_pos h, List.filter_nil, List.foldl_append]
    rfl
  · rw [if_neg h, List.filter_cons_of_neg h, List.filter_nil, List.append_nil]
theorem addD_len : ∀ (l : List Sq) (x : Sq), (addD x l).length ≤ l.length
  | [], _ => Nat.le_refl _
  | s :: r, x => by
    rw [addD]
    split
    · have := addD_len r (mrg s x); rw [List.length_cons]; omega
    · have := addD_len r x; simp only [List.length_cons]; omega
theorem addN_len : ∀ (l : List Sq) (x : Sq), (addN x l).length ≤ l.length + 1
  | [], _ => Nat.le_refl _
  | s :: r, x => by
    rw [addN]
    split
    · have := addN_len r (mrg s x); rw [List.length_cons]; omega
    · split
      · have := addD_len r x; simp only [List.length_cons]; omega
      · have := addN_len r x; simp only [List.length_cons]; omega
theorem setG_len (l : List Sq) : (setG l).length ≤ l.length := by
  unfold setG
  have key : ∀ (l a : List Sq), (l.foldl (fun a s => addN s a) a).length ≤ a.length + l.length := by
    intro l
    induction l with
    | nil => intro a; exact Nat.le_refl _
    | cons s l ih =>
      intro a
      have h1 := ih (addN s a)
      have h2 := addN_len a s
      rw [List.foldl_cons, List.length_cons]
      omega
  have h1 := key (l.filter full) []
  have h2 := List.length_filter_le full l
  rw [List.length_nil] at h1
  omega
end Go.Ab
namespace Go.Ab
open Go Go.RowKit Go.Proofs
set_option maxRecDepth 10000
set_option maxHeartbeats 16000000
theorem hid_e (a b : List Bs) : (hidD a = hidD b) = (a = b) := propext ⟨hid_inj a b, fun h => by rw [h]⟩
@[go_sem high] theorem hid_one (h : List Bs) : (hidD h).one = true := by cases h <;> rfl
@[go_sem] theorem hidM (h : List Bs) : D.one.match_1 (fun _ => Bool) (hidD h) (fun _ => false) (fun _ => false) (fun _ => true) = true := by cases h <;> rfl
@[go_sem high] theorem hid_cells (h : List Bs) : (hidD h).cells = [hidD h] := by cases h <;> rfl
theorem hid_nil : hidD [] = .map [] [] := rfl
theorem hid_cons (s : Bs) (h : List Bs) : hidD (s :: h) = .set (s :: h) := rfl
@[go_sem] theorem eWd_eq (w : Wd) : eWd w = .agg [i64 w.1.1, .str w.1.2, hidD w.2] := rfl
theorem wd_cells (w : Wd) : (eWd w).cells.length = 3 ∧ (eWd w).cells.all D.one = true := by
  refine ⟨rfl, ?_⟩
  show ([D.int .i64 w.1.1, .str w.1.2, hidD w.2].all D.one) = true
  simp only [List.all_cons, List.all_nil, hid_one]
  rfl
@[go_sem] theorem elemsOK_wd (l : List Wd) : elemsOK 3 (l.map eWd) = true := elemsOK_map (f := eWd) wd_cells l
theorem eWd_inj (a b : Wd) (h : eWd a = eWd b) : a = b := by
  obtain ⟨⟨a1, a2⟩, a3⟩ := a
  obtain ⟨⟨b1, b2⟩, b3⟩ := b
  simp only [eWd, D.agg.injEq, List.cons.injEq, D.int.injEq, D.str.injEq, and_true, true_and] at h
  obtain ⟨rfl, rfl, h3⟩ := h
  rw [hid_inj _ _ h3]
theorem eWd_e (a b : Wd) : (eWd a = eWd b) = (a = b) := propext ⟨eWd_inj a b, fun h => by rw [h]⟩
theorem eWd_ie (a b : List Wd) : (a.map eWd = b.map eWd) = (a = b) := map_ie eWd_inj a b
noncomputable def g_isP : List D → Option D := encSpec (fun x : Wd × Bs => [eWd x.1, .str x.2]) (fun x : Wd × Bs => True) (fun x : Wd × Bs => .bool (isSy x.1 x.2))
theorem g_isP_eq {w : Wd} {s : Bs} (hd : True) : g_isP [eWd w, .str s] = some (.bool (isSy w s)) := encSpec_eq (x := (w, s)) hd fun y hy => by
    obtain ⟨y0, y1⟩ := y; simp only [List.cons.injEq, and_true, true_and, D.str.injEq, D.int.injEq, D.list.injEq, D.bool.injEq, D.agg.injEq, D.clo.injEq, Int.natCast_inj, inj_ie, D.ref.injEq, eU_e, eWd_e, eWd_ie, eTk_ie, eTk_e, eFl_ie, eSp_ie, eSp_e, eMc_e, eMc_ie, hid_e] at hy
    (try obtain ⟨rfl, rfl⟩ := hy)
    (try subst_vars)
    rfl
theorem f_isP_ok : PureOK Tryd.prog 37 true g_isP := by
  have hΓ := Γ0_ok
  refine pure_enc (n := 16) (rs := [.tmp 4]) Tryd.func37 (by kernel_rfl) rfl (by kernel_rfl) (by kernel_rfl) ?_
  rintro ⟨w, s⟩ hd
  (try dsimp only at hd ⊢)
  refine ⟨fun _ => by (repeat (first | exact .int _ _ | exact .bool _ | exact .str _ | (refine .tup _ (fun d hd => ?_); simp only [List.mem_cons, List.not_mem_nil, or_false] at hd; rcases hd with rfl | hd))), fun k hz0 => ?_⟩
  obtain ⟨⟨w1, w2⟩, w3⟩ := w
  rw [eWd_eq]
  unfold isSy
  dsimp only
  rw [start_frame (by simp)]; simp only [enumV, go_sem, emptyH]
  cases k1 : (w1 == 3)
  · repeat (first
    | (apply axJ; (focus ((with_reducible constructor) <;> rfl)))
    | (apply awT mixedOK hΓ (by kernel_rfl); (simp (disch := omega) only [go_sem, ↓reduceIte, dk, ↓lk, Int.reduceBEq, Int.reduceBNe, Bool.true_bne, Bool.false_bne, Bool.not_true, Bool.not_false, k1] <;> with_reducible rfl))
    | ((first | apply awR hΓ | apply awG | apply awH mixedOK hΓ rfl (by kernel_rfl) | apply ovE rfl); (simp (disch := omega) only [go_sem, ↓reduceIte, dk, ↓lk, Int.reduceBEq, Int.reduceBNe, Bool.true_bne, Bool.false_bne, Bool.not_true, Bool.not_false, k1] <;> with_reducible rfl); exact trivial)
    | rfl)
    try rfl
  cases k2 : (w2 == s)
  · repeat (first
    | (apply axJ; (focus ((with_reducible constructor) <;> rfl)))
    | (apply awT mixedOK hΓ (by kernel_rfl); (simp (disch := omega) only [go_sem, ↓reduceIte, dk, ↓lk, Int.reduceBEq, Int.reduceBNe, Bool.true_bne, Bool.false_bne, Bool.not_true, Bool.not_false, k1, k2] <;> with_reducible rfl))
    | ((first | apply awR hΓ | apply awG | apply awH mixedOK hΓ rfl (by kernel_rfl) | apply ovE rfl); (simp (disch := omega) only [go_sem, ↓reduceIte, dk, ↓lk, Int.reduceBEq, Int.reduceBNe, Bool.true_bne, Bool.false_bne, Bool.not_true, Bool.not_false, k1, k2] <;> with_reducible rfl); exact trivial)
    | rfl)
    try rfl
  · repeat (first
    | (apply axJ; (focus ((with_reducible constructor) <;> rfl)))
    | (apply awT mixedOK hΓ (by kernel_rfl); (simp (disch := omega) only [go_sem, ↓reduceIte, dk, ↓lk, Int.reduceBEq, Int.reduceBNe, Bool.true_bne, Bool.false_bne, Bool.not_true, Bool.not_false, k1, k2] <;> with_reducible rfl))
    | ((first | apply awR hΓ | apply awG | apply awH mixedOK hΓ rfl (by kernel_rfl) | apply ovE rfl); (simp (disch := omega) only [go_sem, ↓reduceIte, dk, ↓lk, Int.reduceBEq, Int.reduceBNe, Bool.true_bne, Bool.false_bne, Bool.not_true, Bool.not_false, k1, k2] <;> with_reducible rfl); exact trivial)
    | rfl)
    try rfl
noncomputable def g_sIdx07 : List D → Option D := encSpec (fun x : (List Bs) × Bs => [.list (x.1.map .str), .str x.2]) (fun x : (List Bs) × Bs => x.1.length ≤ 1099511627776) (fun x : (List Bs) × Bs => i64 (idx (fun w => w == x.2) x.1))
theorem g_sIdx07_eq {l : List Bs} {s : Bs} (hd : l.length ≤ 1099511627776) : g_sIdx07 [.list (l.map .str), .str s] = some (i64 (idx (fun w => w == s) l)) := encSpec_eq (x := (l, s)) hd fun y hy => by
    obtain ⟨y0, y1⟩ := y; simp only [List.cons.injEq, and_true, true_and, D.str.injEq, D.int.injEq, D.list.injEq, D.bool.injEq, D.agg.injEq, D.clo.injEq, Int.natCast_inj, inj_ie, D.ref.injEq, eU_e, eWd_e, eWd_ie, eTk_ie, eTk_e, eFl_ie, eSp_ie, eSp_e, eMc_e, eMc_ie, hid_e] at hy
    (try obtain ⟨rfl, rfl⟩ := hy)
    (try subst_vars)
    rfl
theorem f_sIdx07_ok : PureOK Tryd.prog 22 true g_sIdx07 := by
  have hΓ := Γ0_ok
  refine pure_enc (n := 19) (rs := [.tmp 4]) Tryd.func22 (by kernel_rfl) rfl (by kernel_rfl) (by kernel_rfl) ?_
  rintro ⟨l, s⟩ hd
  (try dsimp only at hd ⊢)
  refine ⟨fun _ => by (repeat (first | exact .int _ _ | exact .bool _ | exact .str _ | (refine .tup _ (fun d hd => ?_); simp only [List.mem_cons, List.not_mem_nil, or_false] at hd; rcases hd with rfl | hd))), fun k hz0 => ?_⟩
  rw [start_frame (by simp)]; simp only [enumV, go_sem, emptyH]
  repeat (first
    | (apply axJ; (focus ((with_reducible constructor) <;> rfl)))
    | (apply awT mixedOK hΓ (by kernel_rfl); (simp (disch := omega) only [go_sem, ↓reduceIte, dk, ↓lk] <;> with_reducible rfl))
    | ((first | apply awR hΓ | apply awG | apply awH mixedOK hΓ rfl (by kernel_rfl) | apply ovE rfl); (simp (disch := omega) only [go_sem, ↓reduceIte, dk, ↓lk] <;> with_reducible rfl); exact trivial)
    | rfl)
  refine awp_loop_at (X := Nat) (fun i => (frame 19 [(0, .data (.list (l.map .str))), (1, .data (.str s)), (7, .data (i64 l.length)), (8, .data (i64 i))])) (fun _ => []) 9
    (fun i => i ≤ l.length ∧ (l.take i).any (fun w => w == s) = false) (fun i => l.length - i) 0 ⟨Nat.zero_le _, rfl⟩ (Weak.w) ?_
  rintro i ⟨hi, hpre⟩
  by_cases hi' : i < l.length
  · have hat := fun h => idx_at (p := fun w => w == s) hi' h hpre
    have hnx := fun h => any_next (p := fun w => w == s) hi' hpre h
    generalize hy : l[i] = y at *
    generalize hc : (y == s) = c at *
    have hc' : (s == y) = c := by rw [← hc]; exact Bool.beq_comm
    cases c
    · repeat (first
      | (apply axJ; (focus ((with_reducible constructor) <;> rfl)))
      | (apply awT mixedOK hΓ (by kernel_rfl); (simp (disch := omega) only [go_sem, ↓reduceIte, dk, ↓lk, hy, hc, hc'] <;> with_reducible rfl))
      | ((first | apply awR hΓ | apply awG | apply awH mixedOK hΓ rfl (by kernel_rfl) | apply ovE rfl); (simp (disch := omega) only [go_sem, ↓reduceIte, dk, ↓lk, hy, hc, hc'] <;> with_reducible rfl); exact trivial)
      | rfl)
      exact ⟨i + 1, ⟨by omega, hnx rfl⟩, by omega, Weak.w⟩
    · rw [hat rfl]
      repeat (first
        | (apply axJ; (focus ((with_reducible constructor) <;> rfl)))
        | (apply awT mixedOK hΓ (by kernel_rfl); (simp (disch := omega) only [go_sem, ↓reduceIte, dk, ↓lk, hy, hc, hc'] <;> with_reducible rfl))
        | ((first | apply awR hΓ | apply awG | apply awH mixedOK hΓ rfl (by kernel_rfl) | apply ovE rfl); (simp (disch := omega) only [go_sem, ↓reduceIte, dk, ↓lk, hy, hc, hc'] <;> with_reducible rfl); exact trivial)
        | rfl)
      try rfl
  · have hi3 : i = l.length := by omega
    subst hi3
    rw [List.take_length] at hpre
    rw [idx_none hpre]
    repeat (first
      | (apply axJ; (focus ((with_reducible constructor) <;> rfl)))
      | (apply awT mixedOK hΓ (by kernel_rfl); (simp (disch := omega) only [go_sem, ↓reduceIte, dk, ↓lk] <;> with_reducible rfl))
      | ((first | apply awR hΓ | apply awG | apply awH mixedOK hΓ rfl (by kernel_rfl) | apply ovE rfl); (simp (disch := omega) only [go_sem, ↓reduceIte, dk, ↓lk] <;> with_reducible rfl); exact trivial)
      | rfl)
    try rfl
theorem lk_key (s : Bs) : keyKind Tryd.prog 9 (.str s) = true := by kernel_rfl
theorem lk_get (d : D) : mget Tryd.prog 9 [] [] d = some none := rfl
noncomputable def g_findC : List D → Option D := encSpec (fun x : Mc × Int × Bs × (List Bs) => [eMc x.1, .ref [i64 x.2.1, .str x.2.2.1, hidD x.2.2.2]]) (fun x : Mc × Int × Bs × (List Bs) => True) (fun x : Mc × Int × Bs × (List Bs) => .bool (x.1.name == x.2.2.1))
theorem g_findC_eq {m : Mc} {w1 : Int} {w2 : Bs} {w3 : List Bs} (hd : True) : g_findC [eMc m, .ref [.int .i64 w1, .str w2, hidD w3]] = some (.bool (m.name == w2)) := encSpec_eq (x := (m, w1, w2, w3)) hd fun y hy => by
    obtain ⟨y0, y1, y2, y3⟩ := y; simp only [List.cons.injEq, and_true, true_and, D.str.injEq, D.int.injEq, D.list.injEq, D.bool.injEq, D.agg.injEq, D.clo.injEq, Int.natCast_inj, inj_ie, D.ref.injEq, eU_e, eWd_e, eWd_ie, eTk_ie, eTk_e, eFl_ie, eSp_ie, eSp_e, eMc_e, eMc_ie, hid_e] at hy
    (try obtain ⟨rfl, rfl, rfl, rfl⟩ := hy)
    (try subst_vars)
    rfl
theorem f_findC_ok : PureOK Tryd.prog 18 true g_findC := by
  have hΓ := Γ0_ok
  refine pure_enc (n := 10) (rs := [.tmp 3]) Tryd.func18 (by kernel_rfl) rfl (by kernel_rfl) (by kernel_rfl) ?_
  rintro ⟨m, w1, w2, w3⟩ hd
  (try dsimp only at hd ⊢)
  refine ⟨fun _ => by (repeat (first | exact .int _ _ | exact .bool _ | exact .str _ | (refine .tup _ (fun d hd => ?_); simp only [List.mem_cons, List.not_mem_nil, or_false] at hd; rcases hd with rfl | hd))), fun k hz0 => ?_⟩
  obtain ⟨m1, m2, m3, m4, m5⟩ := m
  rw [eMc_eq]
  dsimp only
  generalize hc : (m1 == w2) = c
  rw [start_frame (by simp)]; simp only [enumV, go_sem, emptyH]
  repeat (first
    | (apply axJ; (focus ((with_reducible constructor) <;> rfl)))
    | (apply awT mixedOK hΓ (by kernel_rfl); (simp (disch := omega) only [go_sem, ↓reduceIte, dk, ↓lk, Int.reduceBEq, Int.reduceBNe, Bool.true_bne, Bool.false_bne, Bool.not_true, Bool.not_false, hc] <;> with_reducible rfl))
    | ((first | apply awR hΓ | apply awG | apply awH mixedOK hΓ rfl (by kernel_rfl) | apply ovE rfl); (simp (disch := omega) only [go_sem, ↓reduceIte, dk, ↓lk, Int.reduceBEq, Int.reduceBNe, Bool.true_bne, Bool.false_bne, Bool.not_true, Bool.not_false, hc] <;> with_reducible rfl); exact trivial)
    | rfl)
  try rfl
noncomputable def g_fix : List D → Option D := encSpec (fun y : List Mc × Wd => [.list (y.1.map eMc), .clo 18 [.ref [i64 y.2.1.1, .str y.2.1.2, hidD y.2.2]]]) (fun y => y.1.length ≤ 1099511627776) (fun y => i64 (idx (fun m : Mc => m.name == y.2.1.2) y.1))
theorem f_fix_ok : PureOK Tryd.prog 17 true g_fix := by
  refine pure_union (X := Wd) (G := fun w => gIdxD eMc (fun _ => True) 18 [.ref [i64 w.1.1, .str w.1.2, hidD w.2]] (fun m => m.name == w.1.2)) (fun w => f_idxMc_ok f_findC_ok fun y _ => g_findC_eq (m := y) (w1 := w.1.1) (w2 := w.1.2) (w3 := w.2) trivial) fun ds d hd => ?_
  obtain ⟨⟨l, w⟩, rfl, h1, rfl⟩ := encSpec_some hd
  exact ⟨w, gIdxD_eq eMc_inj h1 (fun _ _ => trivial)⟩
theorem g_fix_eq {l : List Mc} {k : Int} {t : Bs} {h : List Bs} (h1 : l.length ≤ 1099511627776) : g_fix [.list (l.map eMc), .clo 18 [.ref [.int .i64 k, .str t, hidD h]]] = some (.int .i64 (idx (fun m : Mc => m.name == t) l)) := encSpec_eq (x := (l, ((k, t), h))) h1 fun y hy => by
  obtain ⟨y1, ⟨⟨y2, y3⟩, y4⟩⟩ := y
  simp only [List.cons.injEq, and_true, D.list.injEq, D.clo.injEq, D.ref.injEq, D.str.injEq, D.int.injEq, true_and, eMc_ie, hid_e] at hy
  obtain ⟨rfl, rfl, rfl, rfl⟩ := hy
  rfl
def eFd : Option (Nat × Mc) → D
  | some (i, m) => .tup [eMc m, i64 i]
  | none => .tup [eMc ⟨[], [], ([], 0, 0)⟩, i64 (-1)]
theorem idx_find {us : List Mc} {t : Bs} : (idx (fun m : Mc => m.name == t) us = -1 ∧ us.find? (fun m => m.name == t) = none) ∨ ∃ i : Nat, ∃ h : i < us.length, idx (fun m : Mc => m.name == t) us = (i : Int) ∧ us.find? (fun m => m.name == t) = some us[i] := by
  unfold idx
  rw [List.find?_eq_bind_findIdx?_getElem?]
  cases h : us.findIdx? (fun m : Mc => m.name == t) with
  | none => exact .inl ⟨rfl, rfl⟩
  | some i =>
    have hi := (List.findIdx?_eq_some_iff_getElem.1 h).1
    refine .inr ⟨i, hi, rfl, ?_⟩
    simp [List.getElem?_eq_getElem hi]
noncomputable def g_findP : List D → Option D := encSpec (fun x : (List Mc) × (List Wd) => [eU x.1, .list (x.2.map eWd)]) (fun x : (List Mc) × (List Wd) => x.1.length ≤ 1099511627776 ∧ x.2.length ≤ 1099511627776) (fun x : (List Mc) × (List Wd) => eFd (findG x.1 x.2))
theorem g_findP_eq {us : List Mc} {l : List Wd} (hd : us.length ≤ 1099511627776 ∧ l.length ≤ 1099511627776) : g_findP [eU us, .list (l.map eWd)] = some (eFd (findG us l)) := encSpec_eq (x := (us, l)) hd fun y hy => by
    obtain ⟨y0, y1⟩ := y; simp only [List.cons.injEq, and_true, true_and, D.str.injEq, D.int.injEq, D.list.injEq, D.bool.injEq, D.agg.injEq, D.clo.injEq, Int.natCast_inj, inj_ie, D.ref.injEq, eU_e, eWd_e, eWd_ie, eTk_ie, eTk_e, eFl_ie, eSp_ie, eSp_e, eMc_e, eMc_ie, hid_e] at hy
    (try obtain ⟨rfl, rfl⟩ := hy)
    (try subst_vars)
    rfl
theorem f_findP_ok : PureOK Tryd.prog 11 false g_findP := by
  have hΓ := Γp f_fix_ok (Γn)
  refine pure_enc (n := 42) (rs := [.cell 4 35, .tmp 5]) Tryd.func11 (by kernel_rfl) rfl (by kernel_rfl) (by kernel_rfl) ?_
  rintro ⟨us, l⟩ hd
  (try dsimp only at hd ⊢)
  refine ⟨fun h => (by cases h), fun k hz0 => ?_⟩
  obtain ⟨d1, d2⟩ := hd
  rw [eU_eq]
  rw [start_frame (by simp)]; simp only [enumV, go_sem, emptyH]
  repeat (first
    | (apply axJ; (focus ((with_reducible constructor) <;> rfl)))
    | (apply awT mixedOK hΓ (by kernel_rfl); (simp (disch := omega) only [go_sem, ↓reduceIte, dk, ↓lk, Int.reduceBEq, Int.reduceBNe, Bool.true_bne, Bool.false_bne, Bool.not_true, Bool.not_false] <;> with_reducible rfl))
    | ((first | apply awR hΓ | apply awG | apply awH mixedOK hΓ rfl (by kernel_rfl) | apply ovE rfl); (simp (disch := omega) only [go_sem, ↓reduceIte, dk, ↓lk, Int.reduceBEq, Int.reduceBNe, Bool.true_bne, Bool.false_bne, Bool.not_true, Bool.not_false] <;> with_reducible rfl); exact trivial)
    | rfl)
  refine awp_loop_at (X := Nat) (fun i => (frame 42 [(2, .ptr 0 0), (4, .ptr 1 0), (9, .data (.list (l.map eWd))), (10, .data (i64 l.length)), (11, .data (i64 i))])) (fun _ => [(0, .box [.data (.str []), .data (.list []), .data (.list (us.map eMc)), .data (.list []), .data (.list []), .data (.list [])]), (1, .box [.data (.str []), .nils, .data (.str []), .data (i64 0), .data (i64 0)])]) 6
    (fun i => i ≤ l.length ∧ ∀ w ∈ l.take i, meantB us w = none) (fun i => l.length - i) 0 ⟨Nat.zero_le _, fun w hw => by simp at hw⟩ (Weak.w) ?_
  rintro i ⟨hi, hno⟩
  (try dsimp only at hi hno ⊢)
  by_cases hi2 : i < l.length
  case neg =>
    have hi3 : i = l.length := by omega
    subst hi3
    rw [List.take_length] at hno
    rw [findG_none.2 hno]
    repeat (first
      | (apply axJ; (focus ((with_reducible constructor) <;> rfl)))
      | (apply awT mixedOK hΓ (by kernel_rfl); (simp (disch := omega) only [go_sem, ↓reduceIte, dk, ↓lk, Int.reduceBEq, Int.reduceBNe, Bool.true_bne, Bool.false_bne, Bool.not_true, Bool.not_false, ↓ty_build35] <;> with_reducible rfl))
      | ((first | apply awR hΓ | apply awG | apply awH mixedOK hΓ rfl (by kernel_rfl) | apply ovE rfl); (simp (disch := omega) only [go_sem, ↓reduceIte, dk, ↓lk, Int.reduceBEq, Int.reduceBNe, Bool.true_bne, Bool.false_bne, Bool.not_true, Bool.not_false, ↓ty_build35] <;> with_reducible rfl); exact trivial)
      | rfl)
    try rfl
  have hfa := fun m => findG_at (us := us) (m := m) hi2 hno
  have hnx : meantB us l[i] = none → ∀ w ∈ l.take (i + 1), meantB us w = none := fun h w hw => by
    rw [List.take_add_one, List.getElem?_eq_getElem hi2, List.mem_append] at hw
    rcases hw with hw | hw
    · exact hno w hw
    · simp only [Option.toList_some, List.mem_singleton] at hw
      rw [hw]; exact h
  generalize hz : l[i] = z at *
  obtain ⟨⟨z1, z2⟩, z3⟩ := z
  have hmt : meantB us ((z1, z2), z3) = if z1 != 1 || z3.contains z2 then none else us.find? (fun m => m.name == z2) := rfl
  cases k1 : (z1 != 1)
  case true =>
    rw [k1] at hmt
    simp only [Bool.true_or, if_true] at hmt
    repeat (first
      | (apply axJ; (focus ((with_reducible constructor) <;> rfl)))
      | (apply awT mixedOK hΓ (by kernel_rfl); (simp (disch := omega) only [go_sem, ↓reduceIte, dk, ↓lk, Int.reduceBEq, Int.reduceBNe, Bool.true_bne, Bool.false_bne, Bool.not_true, Bool.not_false, hz, k1] <;> with_reducible rfl))
      | ((first | apply awR hΓ | apply awG | apply awH mixedOK hΓ rfl (by kernel_rfl) | apply ovE rfl); (simp (disch := omega) only [go_sem, ↓reduceIte, dk, ↓lk, Int.reduceBEq, Int.reduceBNe, Bool.true_bne, Bool.false_bne, Bool.not_true, Bool.not_false, hz, k1] <;> with_reducible rfl); exact trivial)
      | rfl)
    exact ⟨i + 1, ⟨by omega, hnx hmt⟩, by omega, Weak.w⟩
  cases k2 : z3.contains z2
  case true =>
    rw [k1, k2] at hmt
    simp only [Bool.or_true, if_true] at hmt
    rcases z3 with _ | ⟨s, r⟩
    · cases k2
    · repeat (first
      | (apply axJ; (focus ((with_reducible constructor) <;> rfl)))
      | (apply awT mixedOK hΓ (by kernel_rfl); (simp (disch := omega) only [go_sem, ↓reduceIte, dk, ↓lk, Int.reduceBEq, Int.reduceBNe, Bool.true_bne, Bool.false_bne, Bool.not_true, Bool.not_false, hz, k1, k2, hid_cons] <;> with_reducible rfl))
      | ((first | apply awR hΓ | apply awG | apply awH mixedOK hΓ rfl (by kernel_rfl) | apply ovE rfl); (simp (disch := omega) only [go_sem, ↓reduceIte, dk, ↓lk, Int.reduceBEq, Int.reduceBNe, Bool.true_bne, Bool.false_bne, Bool.not_true, Bool.not_false, hz, k1, k2, hid_cons] <;> with_reducible rfl); exact trivial)
      | rfl)
      exact ⟨i + 1, ⟨by omega, hnx hmt⟩, by omega, Weak.w⟩
  rw [k1, k2] at hmt
  simp only [Bool.or_self, Bool.false_eq_true, if_false] at hmt
  have e1 := g_fix_eq (k := z1) (t := z2) (h := z3) d1
  rcases idx_find (us := us) (t := z2) with ⟨q1, q2⟩ | ⟨j, hj, q1, q2⟩
  · rw [q2] at hmt
    rw [q1] at e1
    have hg : decide ((-1 : Int) ≥ 0) = false := rfl
    rcases z3 with _ | ⟨s, r⟩
    · rw [hid_nil] at e1
      repeat (first
        | (apply axJ; (focus ((with_reducible constructor) <;> rfl)))
        | (apply awT mixedOK hΓ (by kernel_rfl); (simp (disch := omega) only [go_sem, ↓reduceIte, dk, ↓lk, Int.reduceBEq, Int.reduceBNe, Bool.true_bne, Bool.false_bne, Bool.not_true, Bool.not_false, hz, k1, hid_nil, List.all_nil, Bool.and_self, lk_key, lk_get, e1, hg] <;> with_reducible rfl))
        | ((first | apply awR hΓ | apply awG | apply awH mixedOK hΓ rfl (by kernel_rfl) | apply ovE rfl); (simp (disch := omega) only [go_sem, ↓reduceIte, dk, ↓lk, Int.reduceBEq, Int.reduceBNe, Bool.true_bne, Bool.false_bne, Bool.not_true, Bool.not_false, hz, k1, hid_nil, List.all_nil, Bool.and_self, lk_key, lk_get, e1, hg] <;> with_reducible rfl); exact trivial)
        | rfl)
      exact ⟨i + 1, ⟨by omega, hnx hmt⟩, by omega, Weak.w⟩
    · rw [hid_cons] at e1
      repeat (first
        | (apply axJ; (focus ((with_reducible constructor) <;> rfl)))
        | (apply awT mixedOK hΓ (by kernel_rfl); (simp (disch := omega) only [go_sem, ↓reduceIte, dk, ↓lk, Int.reduceBEq, Int.reduceBNe, Bool.true_bne, Bool.false_bne, Bool.not_true, Bool.not_false, hz, k1, k2, hid_cons, e1, hg] <;> with_reducible rfl))
        | ((first | apply awR hΓ | apply awG | apply awH mixedOK hΓ rfl (by kernel_rfl) | apply ovE rfl); (simp (disch := omega) only [go_sem, ↓reduceIte, dk, ↓lk, Int.reduceBEq, Int.reduceBNe, Bool.true_bne, Bool.false_bne, Bool.not_true, Bool.not_false, hz, k1, k2, hid_cons, e1, hg] <;> with_reducible rfl); exact trivial)
        | rfl)
      exact ⟨i + 1, ⟨by omega, hnx hmt⟩, by omega, Weak.w⟩
  · rw [q2] at hmt
    rw [q1] at e1
    rw [hfa _ hmt]
    have hg : decide ((j : Int) ≥ 0) = true := decide_eq_true (by omega)
    generalize hm : us[j] = m at *
    obtain ⟨m1, m2, m3, m4, m5⟩ := m
    rcases z3 with _ | ⟨s, r⟩
    · rw [hid_nil] at e1
      repeat (first
        | (apply axJ; (focus ((with_reducible constructor) <;> rfl)))
        | (apply awT mixedOK hΓ (by kernel_rfl); (simp (disch := omega) only [go_sem, ↓reduceIte, dk, ↓lk, Int.reduceBEq, Int.reduceBNe, Bool.true_bne, Bool.false_bne, Bool.not_true, Bool.not_false, hz, k1, hid_nil, List.all_nil, Bool.and_self, lk_key, lk_get, e1, hg, hm] <;> with_reducible rfl))
        | ((first | apply awR hΓ | apply awG | apply awH mixedOK hΓ rfl (by kernel_rfl) | apply ovE rfl); (simp (disch := omega) only [go_sem, ↓reduceIte, dk, ↓lk, Int.reduceBEq, Int.reduceBNe, Bool.true_bne, Bool.false_bne, Bool.not_true, Bool.not_false, hz, k1, hid_nil, List.all_nil, Bool.and_self, lk_key, lk_get, e1, hg, hm] <;> with_reducible rfl); exact trivial)
        | rfl)
      try rfl
    · rw [hid_cons] at e1
      repeat (first
        | (apply axJ; (focus ((with_reducible constructor) <;> rfl)))
        | (apply awT mixedOK hΓ (by kernel_rfl); (simp (disch := omega) only [go_sem, ↓reduceIte, dk, ↓lk, Int.reduceBEq, Int.reduceBNe, Bool.true_bne, Bool.false_bne, Bool.not_true, Bool.not_false, hz, k1, k2, hid_cons, e1, hg, hm] <;> with_reducible rfl))
        | ((first | apply awR hΓ | apply awG | apply awH mixedOK hΓ rfl (by kernel_rfl) | apply ovE rfl); (simp (disch := omega) only [go_sem, ↓reduceIte, dk, ↓lk, Int.reduceBEq, Int.reduceBNe, Bool.true_bne, Bool.false_bne, Bool.not_true, Bool.not_false, hz, k1, k2, hid_cons, e1, hg, hm] <;> with_reducible rfl); exact trivial)
        | rfl)
      try rfl
end Go.Ab
namespace Go.Ab
open Go Go.RowKit
end Go.Ab
namespace Go.Ab
open Go Go.RowKit Go.Proofs
set_option maxRecDepth 10000
set_option maxHeartbeats 16000000
@[go_sem] theorem eWr_eq (w : Wd) : eWr w = .agg [i64 w.1.1, .str w.1.2, .list (w.2.map .str)] := rfl
@[go_sem] theorem elemsOK_wr (l : List Wd) : elemsOK 3 (l.map eWr) = true := elemsOK_map (f := eWr) (fun _ => ⟨by rfl, by rfl⟩) l
theorem eWr_inj (a b : Wd) (h : eWr a = eWr b) : a = b := by
  obtain ⟨⟨a1, a2⟩, a3⟩ := a
  obtain ⟨⟨b1, b2⟩, b3⟩ := b
  simp only [eWr, D.agg.injEq, List.cons.injEq, D.int.injEq, D.str.injEq, D.list.injEq, and_true, true_and] at h
  obtain ⟨rfl, rfl, h3⟩ := h
  rw [(map_ie str_inj' _ _).mp h3]
theorem eWr_e (a b : Wd) : (eWr a = eWr b) = (a = b) := propext ⟨eWr_inj a b, fun h => by rw [h]⟩
theorem eWr_ie (a b : List Wd) : (a.map eWr = b.map eWr) = (a = b) := map_ie eWr_inj a b
def eWrs (l : List Wd) : D := .list (l.map eWr)
@[go_sem] theorem elemsOK_wrs (l : List (List Wd)) : elemsOK 1 (l.map eWrs) = true := elemsOK_map (f := eWrs) (fun _ => ⟨by rfl, by rfl⟩) l
end Go.Ab
namespace Go.Ab
open Go Go.RowKit Go.Proofs
set_option maxRecDepth 10000
set_option maxHeartbeats 16000000
def atI : Option Nat → Int
  | none => -1
  | some k => k
def argM (hid : List Bs) (a : Wd) : Wd := (a.1, bothB hid a.2)
theorem subst_none {m : Mc} {args : List (List Wd)} {hid : List Bs} {t : Tk} (h : atG m t = none) : substG m args hid t = [(t, hid)] := by
  unfold substG
  rw [h]
theorem subst_some {m : Mc} {args : List (List Wd)} {hid : List Bs} {t : Tk} {k : Nat} (h : atG m t = some k) : substG m args hid t = (args.getD k []).map (argM hid) := by
  unfold substG
  rw [h]
  rfl
theorem at_lt {m : Mc} {t : Tk} {k : Nat} (h : atG m t = some k) : k < m.params.length := by
  unfold atG at h
  split at h
  · obtain ⟨h1, _⟩ := List.findIdx?_eq_some_iff_getElem.1 h
    exact h1
  · cases h
theorem subst_len {m : Mc} {args : List (List Wd)} {hid : List Bs} {q : Nat} (hq : 1 ≤ q) (ha : ∀ a ∈ args, a.length ≤ q) (t : Tk) : (substG m args hid t).length ≤ q := by
  cases h : atG m t with
  | none => rw [subst_none h]; exact hq
  | some k =>
    rw [subst_some h, List.length_map, List.getD_eq_getElem?_getD]
    cases hk : args[k]? with
    | none => exact Nat.zero_le _
    | some a => exact ha a (List.mem_of_getElem? hk)
theorem flat_len {m : Mc} {args : List (List Wd)} {hid : List Bs} {q : Nat} (hq : 1 ≤ q) (ha : ∀ a ∈ args, a.length ≤ q) : ∀ l : List Tk, (l.flatMap (substG m args hid)).length ≤ l.length * q
  | [] => Nat.zero_le _
  | t :: l => by
    have h1 := subst_len hq ha (m := m) (hid := hid) t
    have h2 := flat_len hq ha (m := m) (hid := hid) l
    rw [List.flatMap_cons, List.length_append, List.length_cons, Nat.succ_mul]
    omega
theorem flatm_take {α β : Type} {f : α → List β} {l : List α} {i : Nat} (hi : i < l.length) : (l.take (i + 1)).flatMap f = (l.take i).flatMap f ++ f l[i] := by
  rw [List.take_add_one, List.getElem?_eq_getElem hi, List.flatMap_append]
  simp
theorem mapp_take {α β : Type} {f : α → β} {l : List α} {i : Nat} (hi : i < l.length) : (l.take (i + 1)).map f = (l.take i).map f ++ [f l[i]] := by
  rw [List.take_add_one, List.getElem?_eq_getElem hi, List.map_append]
  rfl
end Go.Ab
namespace Go.Ab
open Go Go.RowKit Go.Proofs
set_option maxRecDepth 10000
set_option maxHeartbeats 16000000
theorem sy_excl {w : Wd} {s t : Bs} (h : isSy w s = true) (hne : (s == t) = false) : isSy w t = false := by
  unfold isSy at h ⊢
  simp only [Bool.and_eq_true, beq_iff_eq] at h
  rw [h.2, hne, Bool.and_false]
theorem argsGo_eq (d : Nat) (one : List Wd) (out : List (List Wd)) (w : Wd) (r : List Wd) : argsGo d one out (w :: r) = if d == 0 && (isSy w [41] || isSy w [44])
    then (if one.isEmpty then none else if isSy w [41] then some (out ++ [one], r) else argsGo 0 [] (out ++ [one]) r)
    else argsGo (if isSy w [40] then d + 1 else if isSy w [41] then d - 1 else d) (one ++ [w]) out r := by
  rw [argsGo]
theorem empty_len {α : Type} (l : List α) : (((l.length : Nat) : Int) == 0) = l.isEmpty := by
  cases l with
  | nil => rfl
  | cons a l =>
    rw [List.isEmpty_cons, beq_eq_false_iff_ne, List.length_cons]
    omega
end Go.Ab
namespace Go.Ab
open Go Go.RowKit Go.Proofs
set_option maxRecDepth 10000
set_option maxHeartbeats 16000000
def eWds (l : List Wd) : D := .list (l.map eWd)
theorem eWds_inj (a b : List Wd) (h : eWds a = eWds b) : a = b := by
  simp only [eWds, D.list.injEq] at h
  exact (map_ie eWd_inj _ _).mp h
theorem eWds_ie (a b : List (List Wd)) : (a.map eWds = b.map eWds) = (a = b) := map_ie eWds_inj a b
@[go_sem] theorem elemsOK_wds (l : List (List Wd)) : elemsOK 1 (l.map eWds) = true := elemsOK_map (f := eWds) (fun _ => ⟨by rfl, by rfl⟩) l
def eAp : Option (List (List Wd) × List Wd) → D
  | some (a, r) => .tup [.list (a.map eWds), .list (r.map eWd), i64 0]
  | none => .tup [.list [], .list [], i64 4]
theorem one_take {l : List Wd} {f i : Nat} (hf : f ≤ i) (hi : i < l.length) : (l.drop f).take (i + 1 - f) = (l.drop f).take (i - f) ++ [l[i]] := by
  have h1 : i - f < (l.drop f).length := by rw [List.length_drop]; omega
  rw [show i + 1 - f = (i - f) + 1 by omega, List.take_add_one, List.getElem?_eq_getElem h1, List.getElem_drop]
  simp only [show f + (i - f) = i by omega]
  rfl
noncomputable def g_argsP : List D → Option D := encSpec (fun x : (List Wd) => [.list (x.map eWd)]) (fun x : (List Wd) => x.length ≤ 1000000) (fun x : (List Wd) => eAp (argsG x))
theorem g_argsP_eq {l : List Wd} (hd : l.length ≤ 1000000) : g_argsP [.list (l.map eWd)] = some (eAp (argsG l)) := encSpec_eq (x := l) hd fun y hy => by
    simp only [List.cons.injEq, and_true, true_and, D.str.injEq, D.int.injEq, D.list.injEq, D.bool.injEq, D.agg.injEq, D.clo.injEq, Int.natCast_inj, inj_ie, D.ref.injEq, eU_e, eWd_e, eWd_ie, eWds_ie, eTk_ie, eTk_e, eFl_ie, eSp_ie, eSp_e, eMc_e, eMc_ie, hid_e] at hy
    rw [hy]
theorem f_argsP_ok : PureOK Tryd.prog 19 false g_argsP := by
  have hΓ := Γp f_isP_ok (Γn)
  refine pure_enc (n := 67) (rs := [.tmp 2, .tmp 3, .tmp 4]) Tryd.func19 (by kernel_rfl) rfl (by kernel_rfl) (by kernel_rfl) ?_
  rintro l hd
  (try dsimp only at hd ⊢)
  refine ⟨fun h => (by cases h), fun k hz0 => ?_⟩
  rw [start_frame (by simp)]; simp only [enumV, go_sem, emptyH]
  rcases hl : l with _ | ⟨w, r⟩
  · repeat (first
    | (apply axJ; (focus ((with_reducible constructor) <;> rfl)))
    | (apply awT mixedOK hΓ (by kernel_rfl); (simp (disch := omega) only [go_sem, ↓reduceIte, dk, ↓lk, Int.reduceBEq, Int.reduceBNe, Bool.true_bne, Bool.false_bne, Bool.not_true, Bool.not_false, List.map_nil, List.length_nil, show ((0 : Nat) : Int) = 0 from rfl] <;> with_reducible rfl))
    | ((first | apply awR hΓ | apply awG | apply awH mixedOK hΓ rfl (by kernel_rfl) | apply ovE rfl); (simp (disch := omega) only [go_sem, ↓reduceIte, dk, ↓lk, Int.reduceBEq, Int.reduceBNe, Bool.true_bne, Bool.false_bne, Bool.not_true, Bool.not_false, List.map_nil, List.length_nil, show ((0 : Nat) : Int) = 0 from rfl] <;> with_reducible rfl); exact trivial)
    | rfl)
    try rfl
  rw [← hl]
  have hl0 : 0 < l.length := by rw [hl]; simp
  have hem : (((l.length : Nat) : Int) == 0) = false := by rw [beq_eq_false_iff_ne]; omega
  have hw0 : ∀ h : 0 < l.length, l[0]'h = w := fun h => by simp [hl]
  have hr1 : l.drop 1 = r := by rw [hl]; rfl
  have hag : argsG l = if isSy w [40] then argsGo 0 [] [] r else none := by rw [hl, argsG]
  rw [hag]
  clear hag hl
  have e1 := g_isP_eq (w := w) (s := [40]) trivial
  rw [eWd_eq] at e1
  cases k1 : isSy w [40]
  · rw [k1] at e1
    simp only [Bool.false_eq_true, if_false]
    repeat (first
      | (apply axJ; (focus ((with_reducible constructor) <;> rfl)))
      | (apply awT mixedOK hΓ (by kernel_rfl); (simp (disch := omega) only [go_sem, ↓reduceIte, dk, ↓lk, Int.reduceBEq, Int.reduceBNe, Bool.true_bne, Bool.false_bne, Bool.not_true, Bool.not_false, Int.reduceToNat, hem, hw0, e1] <;> with_reducible rfl))
      | ((first | apply awR hΓ | apply awG | apply awH mixedOK hΓ rfl (by kernel_rfl) | apply ovE rfl); (simp (disch := omega) only [go_sem, ↓reduceIte, dk, ↓lk, Int.reduceBEq, Int.reduceBNe, Bool.true_bne, Bool.false_bne, Bool.not_true, Bool.not_false, Int.reduceToNat, hem, hw0, e1] <;> with_reducible rfl); exact trivial)
      | rfl)
    try rfl
  rw [k1] at e1
  simp only [if_true]
  repeat (first
    | (apply axJ; (focus ((with_reducible constructor) <;> rfl)))
    | (apply awT mixedOK hΓ (by kernel_rfl); (simp (disch := omega) only [go_sem, ↓reduceIte, dk, ↓lk, Int.reduceBEq, Int.reduceBNe, Bool.true_bne, Bool.false_bne, Bool.not_true, Bool.not_false, Int.reduceToNat, hem, hw0, e1] <;> with_reducible rfl))
    | ((first | apply awR hΓ | apply awG | apply awH mixedOK hΓ rfl (by kernel_rfl) | apply ovE rfl); (simp (disch := omega) only [go_sem, ↓reduceIte, dk, ↓lk, Int.reduceBEq, Int.reduceBNe, Bool.true_bne, Bool.false_bne, Bool.not_true, Bool.not_false, Int.reduceToNat, hem, hw0, e1] <;> with_reducible rfl); exact trivial)
    | rfl)
  refine awp_weak (Weak.nilrowF (i := 5) 53 (sz := 1) (by omega) (by omega) rfl) ?_
  refine awp_loop_at (X := Nat × Nat × Nat × List (List Wd)) (fun y => (frame 67 [(0, .data (.list (l.map eWd))), (5, .row 19 y.2.2.2.length), (6, .data (i64 y.2.1)), (7, .data (i64 y.2.2.1)), (20, .data (.list (l.map eWd))), (21, .data (i64 l.length)), (22, .data (i64 y.1))])) (fun y => [(19, .row 53 1 (y.2.2.2.map eWds))]) 20
    (fun y => (y.1 = 0 ∧ y.2.1 = 1 ∧ y.2.2.1 = 0 ∧ y.2.2.2 = []) ∨ ((1 ≤ y.1 ∧ y.1 ≤ l.length) ∧ (1 ≤ y.2.1 ∧ y.2.1 ≤ y.1) ∧ (1 ≤ y.2.2.1 ∧ y.2.2.1 ≤ y.1 + 1) ∧ y.2.2.2.length ≤ y.1 ∧ argsGo 0 [] [] r = argsGo (y.2.2.1 - 1) ((l.drop y.2.1).take (y.1 - y.2.1)) y.2.2.2 (l.drop y.1))) (fun y => l.length - y.1) (0, 1, 0, []) (.inl ⟨rfl, rfl, rfl, rfl⟩) (Weak.v (by (simp [ConvF, lookV, Conv, ints, upd]; done)) (by (simp (disch := omega) only [TabSub, look, if_pos, if_neg, Obj.refsOK, refsOKs, AV.refsOK, decide_eq_true_eq, Bool.and_true, Bool.and_self, upd] ) <;> ((repeat' apply And.intro) <;> first | exact True.intro | omega | (simp; done) | rfl))) ?_
  rintro ⟨i, fr, dp, out⟩ hJ
  (try dsimp only at hJ ⊢)
  rcases hJ with ⟨rfl, rfl, rfl, rfl⟩ | ⟨⟨i1, i2⟩, ⟨f1, f2⟩, ⟨p1, p2⟩, ho, hpre⟩
  · have hlt : (0 : Int) < (l.length : Int) := by omega
    repeat (first
      | (apply axJ; (focus ((with_reducible constructor) <;> rfl)))
      | (apply awT mixedOK hΓ (by kernel_rfl); (simp (disch := omega) only [go_sem, ↓reduceIte, dk, ↓lk, Int.reduceBEq, Int.reduceBNe, Bool.true_bne, Bool.false_bne, Bool.not_true, Bool.not_false, Int.reduceToNat, hw0, e1, hlt] <;> with_reducible rfl))
      | ((first | apply awR hΓ | apply awG | apply awH mixedOK hΓ rfl (by kernel_rfl) | apply ovE rfl); (simp (disch := omega) only [go_sem, ↓reduceIte, dk, ↓lk, Int.reduceBEq, Int.reduceBNe, Bool.true_bne, Bool.false_bne, Bool.not_true, Bool.not_false, Int.reduceToNat, hw0, e1, hlt] <;> with_reducible rfl); exact trivial)
      | rfl)
    exact ⟨(1, 1, 1, []), .inr ⟨⟨Nat.le_refl _, hl0⟩, ⟨Nat.le_refl _, Nat.le_refl _⟩, ⟨Nat.le_refl _, Nat.le_succ _⟩, Nat.zero_le _, by dsimp only; rw [hr1]; rfl⟩, by dsimp only; omega, Weak.w⟩
  obtain ⟨d, rfl⟩ : ∃ d, dp = d + 1 := ⟨dp - 1, by omega⟩
  rw [Nat.add_sub_cancel] at hpre
  by_cases hi2 : i < l.length
  case neg =>
    have hi3 : i = l.length := by omega
    subst hi3
    rw [List.drop_length, argsGo] at hpre
    rw [hpre]
    repeat (first
      | (apply axJ; (focus ((with_reducible constructor) <;> rfl)))
      | (apply awT mixedOK hΓ (by kernel_rfl); (simp (disch := omega) only [go_sem, ↓reduceIte, dk, ↓lk, Int.reduceBEq, Int.reduceBNe, Bool.true_bne, Bool.false_bne, Bool.not_true, Bool.not_false] <;> with_reducible rfl))
      | ((first | apply awR hΓ | apply awG | apply awH mixedOK hΓ rfl (by kernel_rfl) | apply ovE rfl); (simp (disch := omega) only [go_sem, ↓reduceIte, dk, ↓lk, Int.reduceBEq, Int.reduceBNe, Bool.true_bne, Bool.false_bne, Bool.not_true, Bool.not_false] <;> with_reducible rfl); exact trivial)
      | rfl)
    try rfl
  have hdi := List.drop_eq_getElem_cons hi2
  have hot := one_take f2 hi2
  have s1 := g_isP_eq (w := l[i]) (s := [40]) trivial
  have s2 := g_isP_eq (w := l[i]) (s := [41]) trivial
  have s3 := g_isP_eq (w := l[i]) (s := [44]) trivial
  have x1 : isSy l[i] [40] = true → isSy l[i] [41] = false := fun h => sy_excl h rfl
  have x2 : isSy l[i] [40] = true → isSy l[i] [44] = false := fun h => sy_excl h rfl
  have x3 : isSy l[i] [41] = true → isSy l[i] [44] = false := fun h => sy_excl h rfl
  rw [hdi, argsGo_eq] at hpre
  have hol : ((l.drop fr).take (i - fr)).length = i - fr := by rw [List.length_take, List.length_drop]; omega
  have hoe : ((l.drop fr).take (i - fr)).isEmpty = ((i : Int) == (fr : Int)) := by
    rw [← empty_len, hol, Bool.eq_iff_iff, beq_iff_eq, beq_iff_eq]
    omega
  have q1 : List.take (i - fr) (List.drop fr (l.map eWd)) = ((l.drop fr).take (i - fr)).map eWd := by rw [List.map_take, List.map_drop]
  have q2 : List.take (l.length - (i + 1)) (List.drop (i + 1) (l.map eWd)) = (l.drop (i + 1)).map eWd := by
    rw [← List.map_drop]
    exact List.take_of_length_le (by rw [List.length_map, List.length_drop]; omega)
  have hi1 : ((i : Int) + 1).toNat = i + 1 := by omega
  have hmo : ∀ o : List Wd, (out ++ [o]).map eWds = out.map eWds ++ [.list (o.map eWd)] := fun o => by rw [List.map_append]; rfl
  generalize hz : l[i] = z at *
  rw [eWd_eq] at s1 s2 s3
  rw [hoe] at hpre
  generalize hone : (l.drop fr).take (i - fr) = one at *
  have hdc : (((d + 1 : Nat) : Int) - 1) = (d : Int) := by omega
  have hd0 : (((d + 1 : Nat) : Int) == 0) = false := by rw [beq_eq_false_iff_ne]; omega
  have hd1 : (((d + 1 : Nat) : Int) == 1) = (d == 0) := by rw [Bool.eq_iff_iff, beq_iff_eq, beq_iff_eq]; omega
  have hdd : ((d : Int) == 0) = (d == 0) := by rw [Bool.eq_iff_iff, beq_iff_eq, beq_iff_eq]; omega
  cases c1 : isSy z [40]
  case true =>
    rw [x1 c1, x2 c1] at hpre
    rw [c1] at s1 hpre
    simp only [Bool.or_self, Bool.and_false, Bool.false_eq_true, if_false, if_true] at hpre
    repeat (first
      | (apply axJ; (focus ((with_reducible constructor) <;> rfl)))
      | (apply awT mixedOK hΓ (by kernel_rfl); (simp (disch := omega) only [go_sem, ↓reduceIte, dk, ↓lk, Int.reduceBEq, Int.reduceBNe, Bool.true_bne, Bool.false_bne, Bool.not_true, Bool.not_false, hz, s1] <;> with_reducible rfl))
      | ((first | apply awR hΓ | apply awG | apply awH mixedOK hΓ rfl (by kernel_rfl) | apply ovE rfl); (simp (disch := omega) only [go_sem, ↓reduceIte, dk, ↓lk, Int.reduceBEq, Int.reduceBNe, Bool.true_bne, Bool.false_bne, Bool.not_true, Bool.not_false, hz, s1] <;> with_reducible rfl); exact trivial)
      | rfl)
    exact ⟨(i + 1, fr, d + 1 + 1, out), .inr ⟨⟨by dsimp only; omega, by dsimp only; omega⟩, ⟨f1, by dsimp only; omega⟩, ⟨by dsimp only; omega, by dsimp only; omega⟩, by dsimp only; omega, by dsimp only; rw [Nat.add_sub_cancel, hot]; exact hpre⟩, by dsimp only; omega, Weak.w⟩
  rw [c1] at s1
  cases c2 : isSy z [41]
  case true =>
    rw [c1, c2] at hpre
    rw [c2] at s2
    have c3 := x3 c2
    rw [c3] at s3
    by_cases hd : d = 0
    · subst hd
      simp only [Bool.true_or, Bool.and_true, beq_self_eq_true, if_true] at hpre
      cases he : ((i : Int) == (fr : Int))
      · rw [he] at hpre
        simp only [Bool.false_eq_true, if_false] at hpre
        rw [hpre]
        unfold eAp
        dsimp only
        rw [hmo]
        have hz0 : (((0 : Nat) : Int) == 0) = true := rfl
        repeat (first
          | (apply axJ; (focus ((with_reducible constructor) <;> rfl)))
          | (apply awT mixedOK hΓ (by kernel_rfl); (simp (disch := omega) only [go_sem, ↓reduceIte, dk, ↓lk, Int.reduceBEq, Int.reduceBNe, Bool.true_bne, Bool.false_bne, Bool.not_true, Bool.not_false, Int.toNat_natCast, hz, s1, s2, s3, hdc, hz0, he, q1, q2, hi1] <;> with_reducible rfl))
          | ((first | apply awR hΓ | apply awG | apply awH mixedOK hΓ rfl (by kernel_rfl) | apply ovE rfl); (simp (disch := omega) only [go_sem, ↓reduceIte, dk, ↓lk, Int.reduceBEq, Int.reduceBNe, Bool.true_bne, Bool.false_bne, Bool.not_true, Bool.not_false, Int.toNat_natCast, hz, s1, s2, s3, hdc, hz0, he, q1, q2, hi1] <;> with_reducible rfl); exact trivial)
          | rfl)
        try rfl
      · rw [he] at hpre
        simp only [if_true] at hpre
        rw [hpre]
        have hz0 : (((0 : Nat) : Int) == 0) = true := rfl
        repeat (first
          | (apply axJ; (focus ((with_reducible constructor) <;> rfl)))
          | (apply awT mixedOK hΓ (by kernel_rfl); (simp (disch := omega) only [go_sem, ↓reduceIte, dk, ↓lk, Int.reduceBEq, Int.reduceBNe, Bool.true_bne, Bool.false_bne, Bool.not_true, Bool.not_false, Int.toNat_natCast, hz, s1, s2, s3, hdc, hz0, he] <;> with_reducible rfl))
          | ((first | apply awR hΓ | apply awG | apply awH mixedOK hΓ rfl (by kernel_rfl) | apply ovE rfl); (simp (disch := omega) only [go_sem, ↓reduceIte, dk, ↓lk, Int.reduceBEq, Int.reduceBNe, Bool.true_bne, Bool.false_bne, Bool.not_true, Bool.not_false, Int.toNat_natCast, hz, s1, s2, s3, hdc, hz0, he] <;> with_reducible rfl); exact trivial)
          | rfl)
        try rfl
    · have hdf : (d == 0) = false := by rw [beq_eq_false_iff_ne]; exact hd
      rw [hdf] at hdd hpre
      simp only [Bool.false_and, Bool.false_eq_true, if_false, if_true] at hpre
      cases hq : ((d : Int) == 1)
      all_goals
        repeat (first
          | (apply axJ; (focus ((with_reducible constructor) <;> rfl)))
          | (apply awT mixedOK hΓ (by kernel_rfl); (simp (disch := omega) only [go_sem, ↓reduceIte, dk, ↓lk, Int.reduceBEq, Int.reduceBNe, Bool.true_bne, Bool.false_bne, Bool.not_true, Bool.not_false, Int.toNat_natCast, hz, s1, s2, s3, hdc, hdd, hq] <;> with_reducible rfl))
          | ((first | apply awR hΓ | apply awG | apply awH mixedOK hΓ rfl (by kernel_rfl) | apply ovE rfl); (simp (disch := omega) only [go_sem, ↓reduceIte, dk, ↓lk, Int.reduceBEq, Int.reduceBNe, Bool.true_bne, Bool.false_bne, Bool.not_true, Bool.not_false, Int.toNat_natCast, hz, s1, s2, s3, hdc, hdd, hq] <;> with_reducible rfl); exact trivial)
          | rfl)
        exact ⟨(i + 1, fr, d, out), .inr ⟨⟨by dsimp only; omega, by dsimp only; omega⟩, ⟨f1, by dsimp only; omega⟩, ⟨by dsimp only; omega, by dsimp only; omega⟩, by dsimp only; omega, by dsimp only; rw [hot]; exact hpre⟩, by dsimp only; omega, Weak.v (by (simp [ConvF, lookV, Conv, ints, hdc]; done)) (by (simp (disch := omega) only [TabSub, look, if_pos, if_neg, Obj.refsOK, refsOKs, AV.refsOK, decide_eq_true_eq, Bool.and_true, Bool.and_self, hdc] ) <;> ((repeat' apply And.intro) <;> first | exact True.intro | omega | (simp; done) | rfl))⟩
  rw [c1, c2] at hpre
  rw [c2] at s2
  cases c3 : isSy z [44]
  case true =>
    rw [c3] at hpre s3
    by_cases hd : d = 0
    · subst hd
      simp only [Bool.or_true, Bool.and_true, beq_self_eq_true, if_true, Bool.false_eq_true, if_false] at hpre
      rw [show ((0 : Nat) == 0) = true from rfl] at hd1
      cases he : ((i : Int) == (fr : Int))
      · rw [he] at hpre
        simp only [Bool.false_eq_true, if_false] at hpre
        repeat (first
          | (apply axJ; (focus ((with_reducible constructor) <;> rfl)))
          | (apply awT mixedOK hΓ (by kernel_rfl); (simp (disch := omega) only [go_sem, ↓reduceIte, dk, ↓lk, Int.reduceBEq, Int.reduceBNe, Bool.true_bne, Bool.false_bne, Bool.not_true, Bool.not_false, Int.toNat_natCast, hz, s1, s2, s3, hd0, hd1, he, q1] <;> with_reducible rfl))
          | ((first | apply awR hΓ | apply awG | apply awH mixedOK hΓ rfl (by kernel_rfl) | apply ovE rfl); (simp (disch := omega) only [go_sem, ↓reduceIte, dk, ↓lk, Int.reduceBEq, Int.reduceBNe, Bool.true_bne, Bool.false_bne, Bool.not_true, Bool.not_false, Int.toNat_natCast, hz, s1, s2, s3, hd0, hd1, he, q1] <;> with_reducible rfl); exact trivial)
          | rfl)
        exact ⟨(i + 1, i + 1, 0 + 1, out ++ [one]), .inr ⟨⟨by dsimp only; omega, by dsimp only; omega⟩, ⟨by dsimp only; omega, Nat.le_refl _⟩, ⟨by dsimp only; omega, by dsimp only; omega⟩, by dsimp only; rw [List.length_append]; simp only [List.length_cons, List.length_nil]; omega, by dsimp only; rw [Nat.sub_self (i + 1), List.take_zero]; exact hpre⟩, by dsimp only; omega, by dsimp only; rw [hmo]; exact Weak.v (by (simp [ConvF, lookV, Conv, ints, List.length_append]; done)) (by (simp (disch := omega) only [TabSub, look, if_pos, if_neg, Obj.refsOK, refsOKs, AV.refsOK, decide_eq_true_eq, Bool.and_true, Bool.and_self, List.length_append] ) <;> ((repeat' apply And.intro) <;> first | exact True.intro | omega | (simp; done) | rfl))⟩
      · rw [he] at hpre
        simp only [if_true] at hpre
        rw [hpre]
        repeat (first
          | (apply axJ; (focus ((with_reducible constructor) <;> rfl)))
          | (apply awT mixedOK hΓ (by kernel_rfl); (simp (disch := omega) only [go_sem, ↓reduceIte, dk, ↓lk, Int.reduceBEq, Int.reduceBNe, Bool.true_bne, Bool.false_bne, Bool.not_true, Bool.not_false, Int.toNat_natCast, hz, s1, s2, s3, hd0, hd1, he] <;> with_reducible rfl))
          | ((first | apply awR hΓ | apply awG | apply awH mixedOK hΓ rfl (by kernel_rfl) | apply ovE rfl); (simp (disch := omega) only [go_sem, ↓reduceIte, dk, ↓lk, Int.reduceBEq, Int.reduceBNe, Bool.true_bne, Bool.false_bne, Bool.not_true, Bool.not_false, Int.toNat_natCast, hz, s1, s2, s3, hd0, hd1, he] <;> with_reducible rfl); exact trivial)
          | rfl)
        try rfl
    · have hdf : (d == 0) = false := by rw [beq_eq_false_iff_ne]; exact hd
      rw [hdf] at hd1 hpre
      simp only [Bool.false_and, Bool.false_eq_true, if_false] at hpre
      repeat (first
        | (apply axJ; (focus ((with_reducible constructor) <;> rfl)))
        | (apply awT mixedOK hΓ (by kernel_rfl); (simp (disch := omega) only [go_sem, ↓reduceIte, dk, ↓lk, Int.reduceBEq, Int.reduceBNe, Bool.true_bne, Bool.false_bne, Bool.not_true, Bool.not_false, Int.toNat_natCast, hz, s1, s2, s3, hd0, hd1] <;> with_reducible rfl))
        | ((first | apply awR hΓ | apply awG | apply awH mixedOK hΓ rfl (by kernel_rfl) | apply ovE rfl); (simp (disch := omega) only [go_sem, ↓reduceIte, dk, ↓lk, Int.reduceBEq, Int.reduceBNe, Bool.true_bne, Bool.false_bne, Bool.not_true, Bool.not_false, Int.toNat_natCast, hz, s1, s2, s3, hd0, hd1] <;> with_reducible rfl); exact trivial)
        | rfl)
      exact ⟨(i + 1, fr, d + 1, out), .inr ⟨⟨by dsimp only; omega, by dsimp only; omega⟩, ⟨f1, by dsimp only; omega⟩, ⟨by dsimp only; omega, by dsimp only; omega⟩, by dsimp only; omega, by dsimp only; rw [Nat.add_sub_cancel, hot]; exact hpre⟩, by dsimp only; omega, Weak.w⟩
  rw [c3] at hpre s3
  simp only [Bool.or_self, Bool.and_false, Bool.false_eq_true, if_false] at hpre
  cases hdf : (d == 0)
  all_goals
    rw [hdf] at hd1
    repeat (first
      | (apply axJ; (focus ((with_reducible constructor) <;> rfl)))
      | (apply awT mixedOK hΓ (by kernel_rfl); (simp (disch := omega) only [go_sem, ↓reduceIte, dk, ↓lk, Int.reduceBEq, Int.reduceBNe, Bool.true_bne, Bool.false_bne, Bool.not_true, Bool.not_false, Int.toNat_natCast, hz, s1, s2, s3, hd0, hd1] <;> with_reducible rfl))
      | ((first | apply awR hΓ | apply awG | apply awH mixedOK hΓ rfl (by kernel_rfl) | apply ovE rfl); (simp (disch := omega) only [go_sem, ↓reduceIte, dk, ↓lk, Int.reduceBEq, Int.reduceBNe, Bool.true_bne, Bool.false_bne, Bool.not_true, Bool.not_false, Int.toNat_natCast, hz, s1, s2, s3, hd0, hd1] <;> with_reducible rfl); exact trivial)
      | rfl)
    exact ⟨(i + 1, fr, d + 1, out), .inr ⟨⟨by dsimp only; omega, by dsimp only; omega⟩, ⟨f1, by dsimp only; omega⟩, ⟨by dsimp only; omega, by dsimp only; omega⟩, by dsimp only; omega, by dsimp only; rw [Nat.add_sub_cancel, hot]; exact hpre⟩, by dsimp only; omega, Weak.w⟩
end Go.Ab
