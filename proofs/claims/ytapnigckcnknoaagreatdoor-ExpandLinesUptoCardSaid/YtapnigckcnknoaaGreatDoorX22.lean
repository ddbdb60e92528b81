/-
  One text of the proof (own work): contracts of functions of the program, by the abstract machine.
-/
import Derived.Test.YtapnigckcnknoaaGreatDoorX21
import Derived.Test.YtapnigckcnknoaaGreatDoorX12
import Derived.Test.YtapnigckcnknoaaGreatDoorX11
set_option linter.unusedVariables false
set_option linter.unusedSimpArgs false
namespace Go.Ab
open Go Go.RowKit Go.Proofs
set_option maxRecDepth 4000
structure ArgOK (one : List Wd) (out : List (List Wd)) (l : List Wd) (a : List (List Wd)) (r : List Wd) : Prop where
  suf : r <:+ l
  mem : ∀ x ∈ a, x ∈ out ∨ (x.length ≤ one.length + l.length ∧ ∀ w ∈ x, w ∈ one ∨ w ∈ l)
  len : a.length ≤ out.length + l.length
theorem argsGo_ok : ∀ (l : List Wd) (d : Nat) (one : List Wd) (out : List (List Wd)) (a : List (List Wd)) (r : List Wd), argsGo d one out l = some (a, r) → ArgOK one out l a r
  | [], _, _, _, _, _, h => by simp [argsGo] at h
  | w :: l, d, one, out, a, r, h => by
    rw [argsGo] at h
    split at h
    · split at h
      · cases h
      · split at h
        · simp only [Option.some.injEq, Prod.mk.injEq] at h
          obtain ⟨rfl, rfl⟩ := h
          refine ⟨List.suffix_cons _ _, fun x hx => ?_, by simp⟩
          rcases List.mem_append.1 hx with hx | hx
          · exact .inl hx
          · simp only [List.mem_singleton] at hx
            subst hx
            exact .inr ⟨by omega, fun w hw => .inl hw⟩
        · have ih := argsGo_ok l 0 [] (out ++ [one]) a r h
          refine ⟨ih.suf.trans (List.suffix_cons _ _), fun x hx => ?_, by have := ih.len; simp at this ⊢; omega⟩
          rcases ih.mem x hx with h1 | ⟨h1, h2⟩
          · rcases List.mem_append.1 h1 with h1 | h1
            · exact .inl h1
            · simp only [List.mem_singleton] at h1
              subst h1
              exact .inr ⟨by omega, fun w hw => .inl hw⟩
          · refine .inr ⟨by simp at h1 ⊢; omega, fun v hv => ?_⟩
            rcases h2 v hv with h3 | h3
            · cases h3
            · exact .inr (by simp [h3])
    · have ih := argsGo_ok l _ (one ++ [w]) out a r h
      refine ⟨ih.suf.trans (List.suffix_cons _ _), fun x hx => ?_, by have := ih.len; simp at this ⊢; omega⟩
      rcases ih.mem x hx with h1 | ⟨h1, h2⟩
      · exact .inl h1
      · refine .inr ⟨by simp at h1 ⊢; omega, fun v hv => ?_⟩
        rcases h2 v hv with h3 | h3
        · rcases List.mem_append.1 h3 with h3 | h3
          · exact .inl h3
          · simp only [List.mem_singleton] at h3
            exact .inr (by simp [h3])
        · exact .inr (by simp [h3])
structure ArgsOK (l : List Wd) (a : List (List Wd)) (r : List Wd) : Prop where
  suf : r <:+ l
  len : a.length ≤ l.length
  mem : ∀ x ∈ a, x.length ≤ l.length ∧ ∀ w ∈ x, w ∈ l
theorem argsG_ok {l : List Wd} {a : List (List Wd)} {r : List Wd} (h : argsG l = some (a, r)) : ArgsOK l a r := by
  cases l with
  | nil => cases h
  | cons w l =>
    rw [argsG] at h
    split at h
    · have := argsGo_ok l 0 [] [] a r h
      refine ⟨this.suf.trans (List.suffix_cons _ _), by have := this.len; simp at this ⊢; omega, fun x hx => ?_⟩
      rcases this.mem x hx with h1 | ⟨h1, h2⟩
      · cases h1
      · refine ⟨by simp at h1 ⊢; omega, fun v hv => ?_⟩
        rcases h2 v hv with h3 | h3
        · cases h3
        · simp [h3]
    · cases h
theorem suf_drop {l r : List Wd} (h : r <:+ l) : l.drop (l.length - r.length) = r := by
  obtain ⟨t, rfl⟩ := h
  rw [List.length_append, Nat.add_sub_cancel, List.drop_left]
structure ArgE (m : Mc) (l : List Wd) (a : List (List Wd)) (r : List Wd) : Prop where
  suf : r <:+ l
  len : a.length = m.params.length
  mem : ∀ x ∈ a, x.length ≤ l.length ∧ ∀ w ∈ x, w ∈ l
theorem argsE_ok {m : Mc} {l : List Wd} (h : (argsE m l).2 = 0) : ArgE m l (argsE m l).1.1 (argsE m l).1.2 := by
  unfold argsE at h ⊢
  split
  · rename_i hp
    refine ⟨List.suffix_refl _, ?_, fun x hx => by cases hx⟩
    rw [List.isEmpty_iff.1 hp]
    rfl
  · rename_i hp
    rw [if_neg hp] at h
    cases hg : argsG l with
    | none => rw [hg] at h; cases h
    | some q =>
      obtain ⟨a, r⟩ := q
      rw [hg] at h
      dsimp only at h ⊢
      split
      · rename_i hl
        have := argsG_ok hg
        exact ⟨this.suf, by simpa using hl, this.mem⟩
      · rename_i hl
        rw [if_neg hl] at h
        cases h
def HidAll (us : List Mc) (l : List Wd) : Prop := ∀ w ∈ l, HidOK us w.2
theorem now_hid {us : List Mc} {m : Mc} {l : List Wd} {i : Nat} {args : List (List Wd)} {rest : List Wd} {body : List Tk} (hm : m ∈ us) (hl : HidAll us l) (hi : i < l.length) (ha : ∀ x ∈ args, ∀ w ∈ x, w ∈ l) (hr : ∀ w ∈ rest, w ∈ l) : HidAll us (nowG m l i args rest body) := by
  have hh : HidOK us (bothB [m.name] (l.getD i ((0, []), [])).2) := by
    refine (HidOK.one hm).both (hl _ ?_)
    rw [List.getD_eq_getElem?_getD, List.getElem?_eq_getElem hi, Option.getD_some]
    exact List.getElem_mem hi
  intro w hw
  unfold nowG at hw
  rcases List.mem_append.1 hw with hw | hw
  · exact hl w (List.mem_of_mem_take hw)
  · rcases List.mem_append.1 hw with hw | hw
    · obtain ⟨t, _, hw⟩ := List.mem_flatMap.1 hw
      unfold substG at hw
      split at hw
      · simp only [List.mem_singleton] at hw
        rw [hw]; exact hh
      · rename_i k hatk
        obtain ⟨a, ha2, rfl⟩ := List.mem_map.1 hw
        rw [List.getD_eq_getElem?_getD] at ha2
        cases hk : args[k]? with
        | none => rw [hk] at ha2; cases ha2
        | some x =>
          rw [hk] at ha2
          exact hh.both (hl a (ha x (List.mem_of_getElem? hk) a ha2))
    · exact hl w (hr w hw)
theorem meant_mem {us : List Mc} {w : Wd} {m : Mc} (h : meantB us w = some m) : m ∈ us ∧ w.1.1 = 1 ∧ m.name = w.1.2 ∧ w.1.2 ∉ w.2 := by
  unfold meantB at h
  split at h
  · cases h
  · rename_i hc
    have h1 := List.find?_some h
    simp only [Bool.or_eq_true, bne_iff_ne, ne_eq, not_or, Classical.not_not, Bool.not_eq_true] at hc
    exact ⟨List.mem_of_find?_eq_some h, hc.1, by simpa using h1, by simpa using hc.2⟩
theorem repl_hid {fs : List Fl} {us : List Mc} {m : Mc} {l : List Wd} {i : Nat} (hm : m ∈ us) (hl : HidAll us l) (hi : i < l.length) : HidAll us (replG fs m l i).1 := by
  unfold replG
  split
  · rename_i h0
    have hA := argsE_ok (m := m) (l := l.drop (i + 1)) (by simpa using h0)
    split
    · split
      · intro w hw; cases hw
      · exact now_hid hm hl hi (fun x hx w hw => List.mem_of_mem_drop ((hA.mem x hx).2 w hw)) (fun w hw => List.mem_of_mem_drop (hA.suf.subset hw))
    · intro w hw; cases hw
  · intro w hw; cases hw
theorem repl_len {fs : List Fl} {m : Mc} {l : List Wd} {i : Nat} : (replG fs m l i).1.length ≤ 256 := by
  unfold replG
  split
  · split
    · split
      · simp
      · rename_i h
        simp only [decide_eq_true_eq] at h
        dsimp only
        omega
    · simp
  · simp
theorem repl_take {fs : List Fl} {m : Mc} {l : List Wd} {i : Nat} (hi : i ≤ l.length) (h : (replG fs m l i).2 = 0) : (replG fs m l i).1.take i = l.take i ∧ i ≤ (replG fs m l i).1.length := by
  unfold replG at h ⊢
  split
  · rename_i h0
    rw [if_pos h0] at h
    split
    · rename_i h1
      rw [if_pos h1] at h
      split
      · rename_i h2
        rw [if_pos h2] at h
        cases h
      · dsimp only
        unfold nowG
        have hl : (l.take i).length = i := by rw [List.length_take]; omega
        exact ⟨List.take_left' hl, by rw [List.length_append, hl]; omega⟩
    · rename_i h1
      rw [if_neg h1] at h
      exact absurd (by simpa using h) h1
  · rename_i h0
    rw [if_neg h0] at h
    exact absurd (by simpa using h) h0
theorem setG_snoc (l : List Sq) (s : Sq) : setG (l ++ [s]) = if full s then addN s (setG l) else setG l := by
  unfold setG
  rw [List.filter_append]
  by_cases h : full s = true
  · rw [if_pos h, List.filter_cons_of_pos h, List.filter_nil, List.foldl_append]
    rfl
  · rw [if_neg h, List.filter_cons_of_neg h, List.filter_nil, List.append_nil]
theorem addD_len : ∀ (l : List Sq) (x : Sq), (addD x l).length ≤ l.length
  | [], _ => Nat.le_refl _
  | s :: r, x => by
    rw [addD]
    split
    · have := addD_len r (mrg s x); rw [List.length_cons]; omega
    · have := addD_len r x; simp only [List.length_cons]; omega
theorem addN_len : ∀ (l : List Sq) (x : Sq), (addN x l).length ≤ l.length + 1
  | [], _ => Nat.le_refl _
  | s :: r, x => by
    rw [addN]
    split
    · have := addN_len r (mrg s x); rw [List.length_cons]; omega
    · split
      · have := addD_len r x; simp only [List.length_cons]; omega
      · have := addN_len r x; simp only [List.length_cons]; omega
theorem setG_len (l : List Sq) : (setG l).length ≤ l.length := by
  unfold setG
  have key : ∀ (l a : List Sq), (l.foldl (fun a s => addN s a) a).length ≤ a.length + l.length := by
    intro l
    induction l with
    | nil => intro a; exact Nat.le_refl _
    | cons s l ih =>
      intro a
      have h1 := ih (addN s a)
      have h2 := addN_len a s
      rw [List.foldl_cons, List.length_cons]
      omega
  have h1 := key (l.filter full) []
  have h2 := List.length_filter_le full l
  rw [List.length_nil] at h1
  omega
end Go.Ab
namespace Go.Ab
open Go Go.RowKit Go.Proofs
set_option maxRecDepth 10000
set_option maxHeartbeats 16000000
theorem hid_e (a b : List Bs) : (hidD a = hidD b) = (a = b) := propext ⟨hid_inj a b, fun h => by rw [h]⟩
@[go_sem high] theorem hid_one (h : List Bs) : (hidD h).one = true := by cases h <;> rfl
@[go_sem] theorem hidM (h : List Bs) : D.one.match_1 (fun _ => Bool) (hidD h) (fun _ => false) (fun _ => false) (fun _ => true) = true := by cases h <;> rfl
@[go_sem high] theorem hid_cells (h : List Bs) : (hidD h).cells = [hidD h] := by cases h <;> rfl
theorem hid_nil : hidD [] = .map [] [] := rfl
theorem hid_cons (s : Bs) (h : List Bs) : hidD (s :: h) = .set (s :: h) := rfl
@[go_sem] theorem eWd_eq (w : Wd) : eWd w = .agg [i64 w.1.1, .str w.1.2, hidD w.2] := rfl
theorem wd_cells (w : Wd) : (eWd w).cells.length = 3 ∧ (eWd w).cells.all D.one = true := by
  refine ⟨rfl, ?_⟩
  show ([D.int .i64 w.1.1, .str w.1.2, hidD w.2].all D.one) = true
  simp only [List.all_cons, List.all_nil, hid_one]
  rfl
@[go_sem] theorem elemsOK_wd (l : List Wd) : elemsOK 3 (l.map eWd) = true := elemsOK_map (f := eWd) wd_cells l
theorem eWd_inj (a b : Wd) (h : eWd a = eWd b) : a = b := by
  obtain ⟨⟨a1, a2⟩, a3⟩ := a
  obtain ⟨⟨b1, b2⟩, b3⟩ := b
  simp only [eWd, D.agg.injEq, List.cons.injEq, D.int.injEq, D.str.injEq, and_true, true_and] at h
  obtain ⟨rfl, rfl, h3⟩ := h
  rw [hid_inj _ _ h3]
theorem eWd_e (a b : Wd) : (eWd a = eWd b) = (a = b) := propext ⟨eWd_inj a b, fun h => by rw [h]⟩
theorem eWd_ie (a b : List Wd) : (a.map eWd = b.map eWd) = (a = b) := map_ie eWd_inj a b
noncomputable def g_isP : List D → Option D := encSpec (fun x : Wd × Bs => [eWd x.1, .str x.2]) (fun x : Wd × Bs => True) (fun x : Wd × Bs => .bool (isSy x.1 x.2))
theorem g_isP_eq {w : Wd} {s : Bs} (hd : True) : g_isP [eWd w, .str s] = some (.bool (isSy w s)) := encSpec_eq (x := (w, s)) hd fun y hy => by
    obtain ⟨y0, y1⟩ := y; simp only [List.cons.injEq, and_true, true_and, D.str.injEq, D.int.injEq, D.list.injEq, D.bool.injEq, D.agg.injEq, D.clo.injEq, Int.natCast_inj, inj_ie, D.ref.injEq, eU_e, eWd_e, eWd_ie, eTk_ie, eTk_e, eFl_ie, eSp_ie, eSp_e, eMc_e, eMc_ie, hid_e] at hy
    (try obtain ⟨rfl, rfl⟩ := hy)
    (try subst_vars)
    rfl
theorem f_isP_ok : PureOK Tryz.prog 97 true g_isP := by
  have hΓ := Γ0_ok
  refine pure_enc (n := 16) (rs := [.tmp 4]) Tryz.func97 (by kernel_rfl) rfl (by kernel_rfl) (by kernel_rfl) ?_
  rintro ⟨w, s⟩ hd
  (try dsimp only at hd ⊢)
  refine ⟨fun _ => by (repeat (first | exact .int _ _ | exact .bool _ | exact .str _ | (refine .tup _ (fun d hd => ?_); simp only [List.mem_cons, List.not_mem_nil, or_false] at hd; rcases hd with rfl | hd))), fun k hz0 => ?_⟩
  obtain ⟨⟨w1, w2⟩, w3⟩ := w
  rw [eWd_eq]
  unfold isSy
  dsimp only
  rw [start_frame (by simp)]; simp only [enumV, go_sem, emptyH]
  cases k1 : (w1 == 3)
  · repeat (first
    | (apply axJ; (focus ((with_reducible constructor) <;> rfl)))
    | (apply awT mixedOK hΓ (by kernel_rfl); (simp (disch := omega) only [go_sem, ↓reduceIte, dk, ↓lk, Int.reduceBEq, Int.reduceBNe, Bool.true_bne, Bool.false_bne, Bool.not_true, Bool.not_false, k1] <;> with_reducible rfl))
    | ((first | apply awR hΓ | apply awG | apply awH mixedOK hΓ rfl (by kernel_rfl) | apply ovE rfl); (simp (disch := omega) only [go_sem, ↓reduceIte, dk, ↓lk, Int.reduceBEq, Int.reduceBNe, Bool.true_bne, Bool.false_bne, Bool.not_true, Bool.not_false, k1] <;> with_reducible rfl); exact trivial)
    | rfl)
    try rfl
  cases k2 : (w2 == s)
  · repeat (first
    | (apply axJ; (focus ((with_reducible constructor) <;> rfl)))
    | (apply awT mixedOK hΓ (by kernel_rfl); (simp (disch := omega) only [go_sem, ↓reduceIte, dk, ↓lk, Int.reduceBEq, Int.reduceBNe, Bool.true_bne, Bool.false_bne, Bool.not_true, Bool.not_false, k1, k2] <;> with_reducible rfl))
    | ((first | apply awR hΓ | apply awG | apply awH mixedOK hΓ rfl (by kernel_rfl) | apply ovE rfl); (simp (disch := omega) only [go_sem, ↓reduceIte, dk, ↓lk, Int.reduceBEq, Int.reduceBNe, Bool.true_bne, Bool.false_bne, Bool.not_true, Bool.not_false, k1, k2] <;> with_reducible rfl); exact trivial)
    | rfl)
    try rfl
  · repeat (first
    | (apply axJ; (focus ((with_reducible constructor) <;> rfl)))
    | (apply awT mixedOK hΓ (by kernel_rfl); (simp (disch := omega) only [go_sem, ↓reduceIte, dk, ↓lk, Int.reduceBEq, Int.reduceBNe, Bool.true_bne, Bool.false_bne, Bool.not_true, Bool.not_false, k1, k2] <;> with_reducible rfl))
    | ((first | apply awR hΓ | apply awG | apply awH mixedOK hΓ rfl (by kernel_rfl) | apply ovE rfl); (simp (disch := omega) only [go_sem, ↓reduceIte, dk, ↓lk, Int.reduceBEq, Int.reduceBNe, Bool.true_bne, Bool.false_bne, Bool.not_true, Bool.not_false, k1, k2] <;> with_reducible rfl); exact trivial)
    | rfl)
    try rfl
noncomputable def g_sIdx07 : List D → Option D := encSpec (fun x : (List Bs) × Bs => [.list (x.1.map .str), .str x.2]) (fun x : (List Bs) × Bs => x.1.length ≤ 1099511627776) (fun x : (List Bs) × Bs => i64 (idx (fun w => w == x.2) x.1))
theorem g_sIdx07_eq {l : List Bs} {s : Bs} (hd : l.length ≤ 1099511627776) : g_sIdx07 [.list (l.map .str), .str s] = some (i64 (idx (fun w => w == s) l)) := encSpec_eq (x := (l, s)) hd fun y hy => by
    obtain ⟨y0, y1⟩ := y; simp only [List.cons.injEq, and_true, true_and, D.str.injEq, D.int.injEq, D.list.injEq, D.bool.injEq, D.agg.injEq, D.clo.injEq, Int.natCast_inj, inj_ie, D.ref.injEq, eU_e, eWd_e, eWd_ie, eTk_ie, eTk_e, eFl_ie, eSp_ie, eSp_e, eMc_e, eMc_ie, hid_e] at hy
    (try obtain ⟨rfl, rfl⟩ := hy)
    (try subst_vars)
    rfl
theorem f_sIdx07_ok : PureOK Tryz.prog 64 true g_sIdx07 := by
  have hΓ := Γ0_ok
  refine pure_enc (n := 19) (rs := [.tmp 4]) Tryz.func64 (by kernel_rfl) rfl (by kernel_rfl) (by kernel_rfl) ?_
  rintro ⟨l, s⟩ hd
  (try dsimp only at hd ⊢)
  refine ⟨fun _ => by (repeat (first | exact .int _ _ | exact .bool _ | exact .str _ | (refine .tup _ (fun d hd => ?_); simp only [List.mem_cons, List.not_mem_nil, or_false] at hd; rcases hd with rfl | hd))), fun k hz0 => ?_⟩
  rw [start_frame (by simp)]; simp only [enumV, go_sem, emptyH]
  repeat (first
    | (apply axJ; (focus ((with_reducible constructor) <;> rfl)))
    | (apply awT mixedOK hΓ (by kernel_rfl); (simp (disch := omega) only [go_sem, ↓reduceIte, dk, ↓lk] <;> with_reducible rfl))
    | ((first | apply awR hΓ | apply awG | apply awH mixedOK hΓ rfl (by kernel_rfl) | apply ovE rfl); (simp (disch := omega) only [go_sem, ↓reduceIte, dk, ↓lk] <;> with_reducible rfl); exact trivial)
    | rfl)
  refine awp_loop_at (X := Nat) (fun i => (frame 19 [(0, .data (.list (l.map .str))), (1, .data (.str s)), (7, .data (i64 l.length)), (8, .data (i64 i))])) (fun _ => []) 9
    (fun i => i ≤ l.length ∧ (l.take i).any (fun w => w == s) = false) (fun i => l.length - i) 0 ⟨Nat.zero_le _, rfl⟩ (Weak.w) ?_
  rintro i ⟨hi, hpre⟩
  by_cases hi' : i < l.length
  · have hat := fun h => idx_at (p := fun w => w == s) hi' h hpre
    have hnx := fun h => any_next (p := fun w => w == s) hi' hpre h
    generalize hy : l[i] = y at *
    generalize hc : (y == s) = c at *
    have hc' : (s == y) = c := by rw [← hc]; exact Bool.beq_comm
    cases c
    · repeat (first
      | (apply axJ; (focus ((with_reducible constructor) <;> rfl)))
      | (apply awT mixedOK hΓ (by kernel_rfl); (simp (disch := omega) only [go_sem, ↓reduceIte, dk, ↓lk, hy, hc, hc'] <;> with_reducible rfl))
      | ((first | apply awR hΓ | apply awG | apply awH mixedOK hΓ rfl (by kernel_rfl) | apply ovE rfl); (simp (disch := omega) only [go_sem, ↓reduceIte, dk, ↓lk, hy, hc, hc'] <;> with_reducible rfl); exact trivial)
      | rfl)
      exact ⟨i + 1, ⟨by omega, hnx rfl⟩, by omega, Weak.w⟩
    · rw [hat rfl]
      repeat (first
        | (apply axJ; (focus ((with_reducible constructor) <;> rfl)))
        | (apply awT mixedOK hΓ (by kernel_rfl); (simp (disch := omega) only [go_sem, ↓reduceIte, dk, ↓lk, hy, hc, hc'] <;> with_reducible rfl))
        | ((first | apply awR hΓ | apply awG | apply awH mixedOK hΓ rfl (by kernel_rfl) | apply ovE rfl); (simp (disch := omega) only [go_sem, ↓reduceIte, dk, ↓lk, hy, hc, hc'] <;> with_reducible rfl); exact trivial)
        | rfl)
      try rfl
  · have hi3 : i = l.length := by omega
    subst hi3
    rw [List.take_length] at hpre
    rw [idx_none hpre]
    repeat (first
      | (apply axJ; (focus ((with_reducible constructor) <;> rfl)))
      | (apply awT mixedOK hΓ (by kernel_rfl); (simp (disch := omega) only [go_sem, ↓reduceIte, dk, ↓lk] <;> with_reducible rfl))
      | ((first | apply awR hΓ | apply awG | apply awH mixedOK hΓ rfl (by kernel_rfl) | apply ovE rfl); (simp (disch := omega) only [go_sem, ↓reduceIte, dk, ↓lk] <;> with_reducible rfl); exact trivial)
      | rfl)
    try rfl
theorem lk_key (s : Bs) : keyKind Tryz.prog 9 (.str s) = true := by kernel_rfl
theorem lk_get (d : D) : mget Tryz.prog 9 [] [] d = some none := rfl
noncomputable def g_findC : List D → Option D := encSpec (fun x : Mc × Int × Bs × (List Bs) => [eMc x.1, .ref [i64 x.2.1, .str x.2.2.1, hidD x.2.2.2]]) (fun x : Mc × Int × Bs × (List Bs) => True) (fun x : Mc × Int × Bs × (List Bs) => .bool (x.1.name == x.2.2.1))
theorem g_findC_eq {m : Mc} {w1 : Int} {w2 : Bs} {w3 : List Bs} (hd : True) : g_findC [eMc m, .ref [.int .i64 w1, .str w2, hidD w3]] = some (.bool (m.name == w2)) := encSpec_eq (x := (m, w1, w2, w3)) hd fun y hy => by
    obtain ⟨y0, y1, y2, y3⟩ := y; simp only [List.cons.injEq, and_true, true_and, D.str.injEq, D.int.injEq, D.list.injEq, D.bool.injEq, D.agg.injEq, D.clo.injEq, Int.natCast_inj, inj_ie, D.ref.injEq, eU_e, eWd_e, eWd_ie, eTk_ie, eTk_e, eFl_ie, eSp_ie, eSp_e, eMc_e, eMc_ie, hid_e] at hy
    (try obtain ⟨rfl, rfl, rfl, rfl⟩ := hy)
    (try subst_vars)
    rfl
theorem f_findC_ok : PureOK Tryz.prog 61 true g_findC := by
  have hΓ := Γ0_ok
  refine pure_enc (n := 10) (rs := [.tmp 3]) Tryz.func61 (by kernel_rfl) rfl (by kernel_rfl) (by kernel_rfl) ?_
  rintro ⟨m, w1, w2, w3⟩ hd
  (try dsimp only at hd ⊢)
  refine ⟨fun _ => by (repeat (first | exact .int _ _ | exact .bool _ | exact .str _ | (refine .tup _ (fun d hd => ?_); simp only [List.mem_cons, List.not_mem_nil, or_false] at hd; rcases hd with rfl | hd))), fun k hz0 => ?_⟩
  obtain ⟨m1, m2, m3, m4, m5⟩ := m
  rw [eMc_eq]
  dsimp only
  generalize hc : (m1 == w2) = c
  rw [start_frame (by simp)]; simp only [enumV, go_sem, emptyH]
  repeat (first
    | (apply axJ; (focus ((with_reducible constructor) <;> rfl)))
    | (apply awT mixedOK hΓ (by kernel_rfl); (simp (disch := omega) only [go_sem, ↓reduceIte, dk, ↓lk, Int.reduceBEq, Int.reduceBNe, Bool.true_bne, Bool.false_bne, Bool.not_true, Bool.not_false, hc] <;> with_reducible rfl))
    | ((first | apply awR hΓ | apply awG | apply awH mixedOK hΓ rfl (by kernel_rfl) | apply ovE rfl); (simp (disch := omega) only [go_sem, ↓reduceIte, dk, ↓lk, Int.reduceBEq, Int.reduceBNe, Bool.true_bne, Bool.false_bne, Bool.not_true, Bool.not_false, hc] <;> with_reducible rfl); exact trivial)
    | rfl)
  try rfl
noncomputable def g_fix : List D → Option D := encSpec (fun y : List Mc × Wd => [.list (y.1.map eMc), .clo 61 [.ref [i64 y.2.1.1, .str y.2.1.2, hidD y.2.2]]]) (fun y => y.1.length ≤ 1099511627776) (fun y => i64 (idx (fun m : Mc => m.name == y.2.1.2) y.1))
theorem f_fix_ok : PureOK Tryz.prog 49 true g_fix := by
  refine pure_union (X := Wd) (G := fun w => gIdxD eMc (fun _ => True) 61 [.ref [i64 w.1.1, .str w.1.2, hidD w.2]] (fun m => m.name == w.1.2)) (fun w => f_idxMc_ok f_findC_ok fun y _ => g_findC_eq (m := y) (w1 := w.1.1) (w2 := w.1.2) (w3 := w.2) trivial) fun ds d hd => ?_
  obtain ⟨⟨l, w⟩, rfl, h1, rfl⟩ := encSpec_some hd
  exact ⟨w, gIdxD_eq eMc_inj h1 (fun _ _ => trivial)⟩
theorem g_fix_eq {l : List Mc} {k : Int} {t : Bs} {h : List Bs} (h1 : l.length ≤ 1099511627776) : g_fix [.list (l.map eMc), .clo 61 [.ref [.int .i64 k, .str t, hidD h]]] = some (.int .i64 (idx (fun m : Mc => m.name == t) l)) := encSpec_eq (x := (l, ((k, t), h))) h1 fun y hy => by
  obtain ⟨y1, ⟨⟨y2, y3⟩, y4⟩⟩ := y
  simp only [List.cons.injEq, and_true, D.list.injEq, D.clo.injEq, D.ref.injEq, D.str.injEq, D.int.injEq, true_and, eMc_ie, hid_e] at hy
  obtain ⟨rfl, rfl, rfl, rfl⟩ := hy
  rfl
def eFd : Option (Nat × Mc) → D
  | some (i, m) => .tup [eMc m, i64 i]
  | none => .tup [eMc ⟨[], [], ([], 0, 0)⟩, i64 (-1)]
theorem idx_find {us : List Mc} {t : Bs} : (idx (fun m : Mc => m.name == t) us = -1 ∧ us.find? (fun m => m.name == t) = none) ∨ ∃ i : Nat, ∃ h : i < us.length, idx (fun m : Mc => m.name == t) us = (i : Int) ∧ us.find? (fun m => m.name == t) = some us[i] := by
  unfold idx
  rw [List.find?_eq_bind_findIdx?_getElem?]
  cases h : us.findIdx? (fun m : Mc => m.name == t) with
  | none => exact .inl ⟨rfl, rfl⟩
  | some i =>
    have hi := (List.findIdx?_eq_some_iff_getElem.1 h).1
    refine .inr ⟨i, hi, rfl, ?_⟩
    simp [List.getElem?_eq_getElem hi]
noncomputable def g_findP : List D → Option D := encSpec (fun x : (List Mc) × (List Wd) => [eU x.1, .list (x.2.map eWd)]) (fun x : (List Mc) × (List Wd) => x.1.length ≤ 1099511627776 ∧ x.2.length ≤ 1099511627776) (fun x : (List Mc) × (List Wd) => eFd (findG x.1 x.2))
theorem g_findP_eq {us : List Mc} {l : List Wd} (hd : us.length ≤ 1099511627776 ∧ l.length ≤ 1099511627776) : g_findP [eU us, .list (l.map eWd)] = some (eFd (findG us l)) := encSpec_eq (x := (us, l)) hd fun y hy => by
    obtain ⟨y0, y1⟩ := y; simp only [List.cons.injEq, and_true, true_and, D.str.injEq, D.int.injEq, D.list.injEq, D.bool.injEq, D.agg.injEq, D.clo.injEq, Int.natCast_inj, inj_ie, D.ref.injEq, eU_e, eWd_e, eWd_ie, eTk_ie, eTk_e, eFl_ie, eSp_ie, eSp_e, eMc_e, eMc_ie, hid_e] at hy
    (try obtain ⟨rfl, rfl⟩ := hy)
    (try subst_vars)
    rfl
theorem f_findP_ok : PureOK Tryz.prog 40 false g_findP := by
  have hΓ := Γp f_fix_ok (Γn)
  refine pure_enc (n := 42) (rs := [.cell 4 28, .tmp 5]) Tryz.func40 (by kernel_rfl) rfl (by kernel_rfl) (by kernel_rfl) ?_
  rintro ⟨us, l⟩ hd
  (try dsimp only at hd ⊢)
  refine ⟨fun h => (by cases h), fun k hz0 => ?_⟩
  obtain ⟨d1, d2⟩ := hd
  rw [eU_eq]
  rw [start_frame (by simp)]; simp only [enumV, go_sem, emptyH]
  repeat (first
    | (apply axJ; (focus ((with_reducible constructor) <;> rfl)))
    | (apply awT mixedOK hΓ (by kernel_rfl); (simp (disch := omega) only [go_sem, ↓reduceIte, dk, ↓lk, Int.reduceBEq, Int.reduceBNe, Bool.true_bne, Bool.false_bne, Bool.not_true, Bool.not_false] <;> with_reducible rfl))
    | ((first | apply awR hΓ | apply awG | apply awH mixedOK hΓ rfl (by kernel_rfl) | apply ovE rfl); (simp (disch := omega) only [go_sem, ↓reduceIte, dk, ↓lk, Int.reduceBEq, Int.reduceBNe, Bool.true_bne, Bool.false_bne, Bool.not_true, Bool.not_false] <;> with_reducible rfl); exact trivial)
    | rfl)
  refine awp_loop_at (X := Nat) (fun i => (frame 42 [(2, .ptr 0 0), (4, .ptr 1 0), (9, .data (.list (l.map eWd))), (10, .data (i64 l.length)), (11, .data (i64 i))])) (fun _ => [(0, .box [.data (.str []), .data (.list []), .data (.list (us.map eMc)), .data (.list []), .data (.list []), .data (.list [])]), (1, .box [.data (.str []), .nils, .data (.str []), .data (i64 0), .data (i64 0)])]) 6
    (fun i => i ≤ l.length ∧ ∀ w ∈ l.take i, meantB us w = none) (fun i => l.length - i) 0 ⟨Nat.zero_le _, fun w hw => by simp at hw⟩ (Weak.w) ?_
  rintro i ⟨hi, hno⟩
  (try dsimp only at hi hno ⊢)
  by_cases hi2 : i < l.length
  case neg =>
    have hi3 : i = l.length := by omega
    subst hi3
    rw [List.take_length] at hno
    rw [findG_none.2 hno]
    repeat (first
      | (apply axJ; (focus ((with_reducible constructor) <;> rfl)))
      | (apply awT mixedOK hΓ (by kernel_rfl); (simp (disch := omega) only [go_sem, ↓reduceIte, dk, ↓lk, Int.reduceBEq, Int.reduceBNe, Bool.true_bne, Bool.false_bne, Bool.not_true, Bool.not_false, ↓ty_build28] <;> with_reducible rfl))
      | ((first | apply awR hΓ | apply awG | apply awH mixedOK hΓ rfl (by kernel_rfl) | apply ovE rfl); (simp (disch := omega) only [go_sem, ↓reduceIte, dk, ↓lk, Int.reduceBEq, Int.reduceBNe, Bool.true_bne, Bool.false_bne, Bool.not_true, Bool.not_false, ↓ty_build28] <;> with_reducible rfl); exact trivial)
      | rfl)
    try rfl
  have hfa := fun m => findG_at (us := us) (m := m) hi2 hno
  have hnx : meantB us l[i] = none → ∀ w ∈ l.take (i + 1), meantB us w = none := fun h w hw => by
    rw [List.take_add_one, List.getElem?_eq_getElem hi2, List.mem_append] at hw
    rcases hw with hw | hw
    · exact hno w hw
    · simp only [Option.toList_some, List.mem_singleton] at hw
      rw [hw]; exact h
  generalize hz : l[i] = z at *
  obtain ⟨⟨z1, z2⟩, z3⟩ := z
  have hmt : meantB us ((z1, z2), z3) = if z1 != 1 || z3.contains z2 then none else us.find? (fun m => m.name == z2) := rfl
  cases k1 : (z1 != 1)
  case true =>
    rw [k1] at hmt
    simp only [Bool.true_or, if_true] at hmt
    repeat (first
      | (apply axJ; (focus ((with_reducible constructor) <;> rfl)))
      | (apply awT mixedOK hΓ (by kernel_rfl); (simp (disch := omega) only [go_sem, ↓reduceIte, dk, ↓lk, Int.reduceBEq, Int.reduceBNe, Bool.true_bne, Bool.false_bne, Bool.not_true, Bool.not_false, hz, k1] <;> with_reducible rfl))
      | ((first | apply awR hΓ | apply awG | apply awH mixedOK hΓ rfl (by kernel_rfl) | apply ovE rfl); (simp (disch := omega) only [go_sem, ↓reduceIte, dk, ↓lk, Int.reduceBEq, Int.reduceBNe, Bool.true_bne, Bool.false_bne, Bool.not_true, Bool.not_false, hz, k1] <;> with_reducible rfl); exact trivial)
      | rfl)
    exact ⟨i + 1, ⟨by omega, hnx hmt⟩, by omega, Weak.w⟩
  cases k2 : z3.contains z2
  case true =>
    rw [k1, k2] at hmt
    simp only [Bool.or_true, if_true] at hmt
    rcases z3 with _ | ⟨s, r⟩
    · cases k2
    · repeat (first
      | (apply axJ; (focus ((with_reducible constructor) <;> rfl)))
      | (apply awT mixedOK hΓ (by kernel_rfl); (simp (disch := omega) only [go_sem, ↓reduceIte, dk, ↓lk, Int.reduceBEq, Int.reduceBNe, Bool.true_bne, Bool.false_bne, Bool.not_true, Bool.not_false, hz, k1, k2, hid_cons] <;> with_reducible rfl))
      | ((first | apply awR hΓ | apply awG | apply awH mixedOK hΓ rfl (by kernel_rfl) | apply ovE rfl); (simp (disch := omega) only [go_sem, ↓reduceIte, dk, ↓lk, Int.reduceBEq, Int.reduceBNe, Bool.true_bne, Bool.false_bne, Bool.not_true, Bool.not_false, hz, k1, k2, hid_cons] <;> with_reducible rfl); exact trivial)
      | rfl)
      exact ⟨i + 1, ⟨by omega, hnx hmt⟩, by omega, Weak.w⟩
  rw [k1, k2] at hmt
  simp only [Bool.or_self, Bool.false_eq_true, if_false] at hmt
  have e1 := g_fix_eq (k := z1) (t := z2) (h := z3) d1
  rcases idx_find (us := us) (t := z2) with ⟨q1, q2⟩ | ⟨j, hj, q1, q2⟩
  · rw [q2] at hmt
    rw [q1] at e1
    have hg : decide ((-1 : Int) ≥ 0) = false := rfl
    rcases z3 with _ | ⟨s, r⟩
    · rw [hid_nil] at e1
      repeat (first
        | (apply axJ; (focus ((with_reducible constructor) <;> rfl)))
        | (apply awT mixedOK hΓ (by kernel_rfl); (simp (disch := omega) only [go_sem, ↓reduceIte, dk, ↓lk, Int.reduceBEq, Int.reduceBNe, Bool.true_bne, Bool.false_bne, Bool.not_true, Bool.not_false, hz, k1, hid_nil, List.all_nil, Bool.and_self, lk_key, lk_get, e1, hg] <;> with_reducible rfl))
        | ((first | apply awR hΓ | apply awG | apply awH mixedOK hΓ rfl (by kernel_rfl) | apply ovE rfl); (simp (disch := omega) only [go_sem, ↓reduceIte, dk, ↓lk, Int.reduceBEq, Int.reduceBNe, Bool.true_bne, Bool.false_bne, Bool.not_true, Bool.not_false, hz, k1, hid_nil, List.all_nil, Bool.and_self, lk_key, lk_get, e1, hg] <;> with_reducible rfl); exact trivial)
        | rfl)
      exact ⟨i + 1, ⟨by omega, hnx hmt⟩, by omega, Weak.w⟩
    · rw [hid_cons] at e1
      repeat (first
        | (apply axJ; (focus ((with_reducible constructor) <;> rfl)))
        | (apply awT mixedOK hΓ (by kernel_rfl); (simp (disch := omega) only [go_sem, ↓reduceIte, dk, ↓lk, Int.reduceBEq, Int.reduceBNe, Bool.true_bne, Bool.false_bne, Bool.not_true, Bool.not_false, hz, k1, k2, hid_cons, e1, hg] <;> with_reducible rfl))
        | ((first | apply awR hΓ | apply awG | apply awH mixedOK hΓ rfl (by kernel_rfl) | apply ovE rfl); (simp (disch := omega) only [go_sem, ↓reduceIte, dk, ↓lk, Int.reduceBEq, Int.reduceBNe, Bool.true_bne, Bool.false_bne, Bool.not_true, Bool.not_false, hz, k1, k2, hid_cons, e1, hg] <;> with_reducible rfl); exact trivial)
        | rfl)
      exact ⟨i + 1, ⟨by omega, hnx hmt⟩, by omega, Weak.w⟩
  · rw [q2] at hmt
    rw [q1] at e1
    rw [hfa _ hmt]
    have hg : decide ((j : Int) ≥ 0) = true := decide_eq_true (by omega)
    generalize hm : us[j] = m at *
    obtain ⟨m1, m2, m3, m4, m5⟩ := m
    rcases z3 with _ | ⟨s, r⟩
    · rw [hid_nil] at e1
      repeat (first
        | (apply axJ; (focus ((with_reducible constructor) <;> rfl)))
        | (apply awT mixedOK hΓ (by kernel_rfl); (simp (disch := omega) only [go_sem, ↓reduceIte, dk, ↓lk, Int.reduceBEq, Int.reduceBNe, Bool.true_bne, Bool.false_bne, Bool.not_true, Bool.not_false, hz, k1, hid_nil, List.all_nil, Bool.and_self, lk_key, lk_get, e1, hg, hm] <;> with_reducible rfl))
        | ((first | apply awR hΓ | apply awG | apply awH mixedOK hΓ rfl (by kernel_rfl) | apply ovE rfl); (simp (disch := omega) only [go_sem, ↓reduceIte, dk, ↓lk, Int.reduceBEq, Int.reduceBNe, Bool.true_bne, Bool.false_bne, Bool.not_true, Bool.not_false, hz, k1, hid_nil, List.all_nil, Bool.and_self, lk_key, lk_get, e1, hg, hm] <;> with_reducible rfl); exact trivial)
        | rfl)
      try rfl
    · rw [hid_cons] at e1
      repeat (first
        | (apply axJ; (focus ((with_reducible constructor) <;> rfl)))
        | (apply awT mixedOK hΓ (by kernel_rfl); (simp (disch := omega) only [go_sem, ↓reduceIte, dk, ↓lk, Int.reduceBEq, Int.reduceBNe, Bool.true_bne, Bool.false_bne, Bool.not_true, Bool.not_false, hz, k1, k2, hid_cons, e1, hg, hm] <;> with_reducible rfl))
        | ((first | apply awR hΓ | apply awG | apply awH mixedOK hΓ rfl (by kernel_rfl) | apply ovE rfl); (simp (disch := omega) only [go_sem, ↓reduceIte, dk, ↓lk, Int.reduceBEq, Int.reduceBNe, Bool.true_bne, Bool.false_bne, Bool.not_true, Bool.not_false, hz, k1, k2, hid_cons, e1, hg, hm] <;> with_reducible rfl); exact trivial)
        | rfl)
      try rfl
end Go.Ab
namespace Go.Ab
open Go Go.RowKit
def okRow (oh : Nat) : AV → Bool
  | .data _ => true
  | .row o _ => o == oh
  | .junk => true
  | _ => false
theorem okRow_look {oh : Nat} : ∀ {t : List (Nat × AV)}, (t.all fun p => okRow oh p.2) = true → ∀ i, okRow oh (lookV t i) = true
  | [], _, i => rfl
  | (k, x) :: r, h, i => by
    rw [List.all_cons, Bool.and_eq_true] at h
    simp only [lookV]
    split
    · exact h.1
    · exact okRow_look h.2 i
theorem Weak.mvF {b m i o0 o1 oh n n' : Nat} {t : List (Nat × AV)} {e e2 : TypeId} {sz sz2 : Nat} {l l2 : List D} (hb : b ≤ o0) (h0 : o0 < n') (hh : oh < n') (hne0 : oh ≠ o0) (hne1 : oh ≠ o1) (hok : (t.all fun p => okRow oh p.2) = true) :
    Weak b (frame m ((i, .row o1 l.length) :: t)) ⟨[(o1, .row e sz l), (oh, .row e2 sz2 l2)], n⟩ (frame m ((i, .row o0 l.length) :: t)) ⟨[(o0, .row e sz l), (oh, .row e2 sz2 l2)], n'⟩ := fun c θ w a hc hs => by
  have g1 : (⟨[(o1, .row e sz l), (oh, .row e2 sz2 l2)], n⟩ : Heap).get o1 = some (.row e sz l) := by simp [Heap.get, look]
  have g2 : (⟨[(o1, .row e sz l), (oh, .row e2 sz2 l2)], n⟩ : Heap).get oh = some (.row e2 sz2 l2) := by simp [Heap.get, look, hne1]
  have hg : ∀ o x, (⟨[(o0, .row e sz l), (oh, .row e2 sz2 l2)], n'⟩ : Heap).get o = some x → (o = o0 ∧ x = .row e sz l) ∨ (o = oh ∧ x = .row e2 sz2 l2) := fun o x hx => by
    simp only [Heap.get, look] at hx
    split at hx
    · exact .inl ⟨by assumption, by simpa using hx.symm⟩
    · split at hx
      · exact .inr ⟨by assumption, by simpa using hx.symm⟩
      · cases hx
  generalize hH : (⟨[(o1, .row e sz l), (oh, .row e2 sz2 l2)], n⟩ : Heap) = H at *
  generalize hH' : (⟨[(o0, .row e sz l), (oh, .row e2 sz2 l2)], n'⟩ : Heap) = H' at *
  have hn' : H'.next = n' := by rw [← hH']
  generalize hθ : (fun o => if o = o0 then θ o1 else θ o) = θ'
  have t0 : θ' o0 = θ o1 := by rw [← hθ]; simp
  have t1 : ∀ o, o ≠ o0 → θ' o = θ o := fun o ho => by rw [← hθ]; simp [ho]
  have hown : ∀ q, own H' θ' q → own H θ q := by
    rintro q ⟨o, x, k1, k2, k3⟩
    rcases hg o x k1 with ⟨rfl, rfl⟩ | ⟨rfl, rfl⟩
    · exact ⟨o1, _, g1, rfl, by rw [← t0]; exact k3⟩
    · exact ⟨o, _, g2, rfl, by rw [← t1 o hne0]; exact k3⟩
  have hvis : ∀ q, vis c H θ w q → vis c H' θ' w q := fun q h => ⟨h.1, fun h2 => h.2.1 (hown q h2), h.2.2⟩
  have hrow : ∀ {e sz l v}, ObjR c H θ w (.row e sz l) v → ObjR c H' θ' w (.row e sz l) v := by
    rintro e sz l v ⟨k1, k2, k3, vs, k4, k5, k6⟩
    exact ⟨k1, k2, k3, vs, k4, k5, fun i hi u hu => (k6 i hi u hu).mono fun b hb => ⟨hvis b hb, rfl⟩⟩
  refine ⟨θ', ⟨⟨⟨hs.st.sim.size, fun o x hx => ?_, fun o o' x x' hx hx' l1 l2 hne q hq => ?_⟩, hs.st.defers, by rw [frame_len, hs.st.size, frame_len], fun j x v hx hv => ?_⟩, fun o ho => ?_, by rw [hn', hc]; omega⟩, fun o x' ho hx => ?_⟩
  · rcases hg o x hx with ⟨rfl, rfl⟩ | ⟨rfl, rfl⟩
    · rw [t0]; exact hrow (hs.st.sim.objs o1 _ g1)
    · rw [t1 o hne0]; exact hrow (hs.st.sim.objs o _ g2)
  · rcases hg o x hx with ⟨rfl, rfl⟩ | ⟨rfl, rfl⟩ <;> rcases hg o' x' hx' with ⟨rfl, rfl⟩ | ⟨rfl, rfl⟩
    · exact absurd rfl hne
    · rw [t0] at hq
      rw [t1 o' hne0]
      exact hs.st.sim.inj o1 o' _ _ g1 g2 rfl rfl (fun e => hne1 e.symm) q hq
    · rw [t1 o hne0] at hq
      rw [t0]
      exact hs.st.sim.inj o o1 _ _ g2 g1 rfl rfl hne1 q hq
    · exact absurd rfl hne
  · rw [frame_at] at hx
    split at hx
    · rename_i hj
      simp only [Option.some.injEq] at hx
      have hold := hs.st.vals j (lookV ((i, .row o1 l.length) :: t) j) v (by rw [frame_at, if_pos hj]) hv
      simp only [lookV] at hx hold
      split at hx
      · rename_i hji
        rw [if_pos hji] at hold
        subst hx
        cases hold with
        | row _ _ _ hv' hr h =>
          refine .row o0 _ v hv' (.inl (by rw [hn']; exact h0)) fun x m hx hm => ?_
          rcases hg o0 x hx with ⟨_, rfl⟩ | ⟨e0, rfl⟩
          · rw [t0]
            exact h _ m g1 hm
          · exact absurd e0.symm hne0
      · rename_i hji
        rw [if_neg hji, hx] at hold
        have hokj := okRow_look hok j
        rw [hx] at hokj
        cases hold with
        | data d v h => exact .data d v (h.mono fun b hb => ⟨hvis b hb, rfl⟩)
        | junk v => exact .junk v
        | row o k v hv' hr h =>
          have ho : o = oh := by simpa [okRow] using hokj
          subst ho
          refine .row o _ v hv' (.inl (by rw [hn']; exact hh)) fun x m hx hm => ?_
          rcases hg o x hx with ⟨e0, rfl⟩ | ⟨_, rfl⟩
          · exact absurd e0 hne0
          · rw [t1 o hne0]
            exact h _ m g2 hm
        | _ => cases hokj
    · cases hx
  · rw [hn']
    obtain ⟨x, hx⟩ := Option.isSome_iff_exists.1 ho
    rcases hg o x hx with ⟨rfl, rfl⟩ | ⟨rfl, rfl⟩ <;> assumption
  · have hne : o ≠ o0 := by omega
    rcases hg o x' hx with ⟨e0, _⟩ | ⟨rfl, rfl⟩
    · exact absurd e0 hne
    · exact ⟨_, g2, Obj.evo_refl _, fun _ => t1 o hne⟩
theorem Weak.mvK {b m i o0 o1 oh n n' q : Nat} {t : List (Nat × AV)} {e e2 : TypeId} {sz sz2 : Nat} {l l2 : List D} (hq : l.length = q) (hb : b ≤ o0) (h0 : o0 < n') (hh : oh < n') (hne0 : oh ≠ o0) (hne1 : oh ≠ o1) (hok : (t.all fun p => okRow oh p.2) = true) :
    Weak b (frame m ((i, .row o1 q) :: t)) ⟨[(o1, .row e sz l), (oh, .row e2 sz2 l2)], n⟩ (frame m ((i, .row o0 q) :: t)) ⟨[(o0, .row e sz l), (oh, .row e2 sz2 l2)], n'⟩ := by
  subst hq
  exact Weak.mvF hb h0 hh hne0 hne1 hok
end Go.Ab
namespace Go.Ab
open Go Go.RowKit Go.Proofs
set_option maxRecDepth 10000
set_option maxHeartbeats 16000000
@[go_sem] theorem eWr_eq (w : Wd) : eWr w = .agg [i64 w.1.1, .str w.1.2, .list (w.2.map .str)] := rfl
@[go_sem] theorem elemsOK_wr (l : List Wd) : elemsOK 3 (l.map eWr) = true := elemsOK_map (f := eWr) (fun _ => ⟨by rfl, by rfl⟩) l
theorem eWr_inj (a b : Wd) (h : eWr a = eWr b) : a = b := by
  obtain ⟨⟨a1, a2⟩, a3⟩ := a
  obtain ⟨⟨b1, b2⟩, b3⟩ := b
  simp only [eWr, D.agg.injEq, List.cons.injEq, D.int.injEq, D.str.injEq, D.list.injEq, and_true, true_and] at h
  obtain ⟨rfl, rfl, h3⟩ := h
  rw [(map_ie str_inj' _ _).mp h3]
theorem eWr_e (a b : Wd) : (eWr a = eWr b) = (a = b) := propext ⟨eWr_inj a b, fun h => by rw [h]⟩
theorem eWr_ie (a b : List Wd) : (a.map eWr = b.map eWr) = (a = b) := map_ie eWr_inj a b
def eWrs (l : List Wd) : D := .list (l.map eWr)
theorem eWrs_inj (a b : List Wd) (h : eWrs a = eWrs b) : a = b := by
  simp only [eWrs, D.list.injEq] at h
  exact (map_ie eWr_inj _ _).mp h
theorem eWrs_ie (a b : List (List Wd)) : (a.map eWrs = b.map eWrs) = (a = b) := map_ie eWrs_inj a b
@[go_sem] theorem elemsOK_wrs (l : List (List Wd)) : elemsOK 1 (l.map eWrs) = true := elemsOK_map (f := eWrs) (fun _ => ⟨by rfl, by rfl⟩) l
noncomputable def g_symR7 : List D → Option D := encSpec (fun x : Wd × Bs => [eWr x.1, .str x.2]) (fun x : Wd × Bs => True) (fun x : Wd × Bs => .bool (isSy x.1 x.2))
theorem g_symR7_eq {w : Wd} {s : Bs} (hd : True) : g_symR7 [eWr w, .str s] = some (.bool (isSy w s)) := encSpec_eq (x := (w, s)) hd fun y hy => by
    obtain ⟨y0, y1⟩ := y; simp only [List.cons.injEq, and_true, true_and, D.str.injEq, D.int.injEq, D.list.injEq, D.bool.injEq, D.agg.injEq, D.clo.injEq, Int.natCast_inj, inj_ie, D.ref.injEq, eU_e, eWr_e, eWr_ie, eWrs_ie, eTk_ie, eTk_e, eFl_ie, eSp_ie, eMc_e, eMc_ie] at hy
    (try obtain ⟨rfl, rfl⟩ := hy)
    (try subst_vars)
    rfl
theorem f_symR7_ok : PureOK Tryz.prog 75 true g_symR7 := by
  have hΓ := Γ0_ok
  refine pure_enc (n := 16) (rs := [.tmp 4]) Tryz.func75 (by kernel_rfl) rfl (by kernel_rfl) (by kernel_rfl) ?_
  rintro ⟨w, s⟩ hd
  (try dsimp only at hd ⊢)
  refine ⟨fun _ => by (repeat (first | exact .int _ _ | exact .bool _ | exact .str _ | (refine .tup _ (fun d hd => ?_); simp only [List.mem_cons, List.not_mem_nil, or_false] at hd; rcases hd with rfl | hd))), fun k hz0 => ?_⟩
  obtain ⟨⟨w1, w2⟩, w3⟩ := w
  rw [eWr_eq]
  unfold isSy
  dsimp only
  rw [start_frame (by simp)]; simp only [enumV, go_sem, emptyH]
  cases k1 : (w1 == 3)
  · repeat (first
    | (apply axJ; (focus ((with_reducible constructor) <;> rfl)))
    | (apply awT mixedOK hΓ (by kernel_rfl); (simp (disch := omega) only [go_sem, ↓reduceIte, dk, ↓lk, Int.reduceBEq, Int.reduceBNe, Bool.true_bne, Bool.false_bne, Bool.not_true, Bool.not_false, k1] <;> with_reducible rfl))
    | ((first | apply awR hΓ | apply awG | apply awH mixedOK hΓ rfl (by kernel_rfl) | apply ovE rfl); (simp (disch := omega) only [go_sem, ↓reduceIte, dk, ↓lk, Int.reduceBEq, Int.reduceBNe, Bool.true_bne, Bool.false_bne, Bool.not_true, Bool.not_false, k1] <;> with_reducible rfl); exact trivial)
    | rfl)
    try rfl
  cases k2 : (w2 == s)
  · repeat (first
    | (apply axJ; (focus ((with_reducible constructor) <;> rfl)))
    | (apply awT mixedOK hΓ (by kernel_rfl); (simp (disch := omega) only [go_sem, ↓reduceIte, dk, ↓lk, Int.reduceBEq, Int.reduceBNe, Bool.true_bne, Bool.false_bne, Bool.not_true, Bool.not_false, k1, k2] <;> with_reducible rfl))
    | ((first | apply awR hΓ | apply awG | apply awH mixedOK hΓ rfl (by kernel_rfl) | apply ovE rfl); (simp (disch := omega) only [go_sem, ↓reduceIte, dk, ↓lk, Int.reduceBEq, Int.reduceBNe, Bool.true_bne, Bool.false_bne, Bool.not_true, Bool.not_false, k1, k2] <;> with_reducible rfl); exact trivial)
    | rfl)
    try rfl
  · repeat (first
    | (apply axJ; (focus ((with_reducible constructor) <;> rfl)))
    | (apply awT mixedOK hΓ (by kernel_rfl); (simp (disch := omega) only [go_sem, ↓reduceIte, dk, ↓lk, Int.reduceBEq, Int.reduceBNe, Bool.true_bne, Bool.false_bne, Bool.not_true, Bool.not_false, k1, k2] <;> with_reducible rfl))
    | ((first | apply awR hΓ | apply awG | apply awH mixedOK hΓ rfl (by kernel_rfl) | apply ovE rfl); (simp (disch := omega) only [go_sem, ↓reduceIte, dk, ↓lk, Int.reduceBEq, Int.reduceBNe, Bool.true_bne, Bool.false_bne, Bool.not_true, Bool.not_false, k1, k2] <;> with_reducible rfl); exact trivial)
    | rfl)
    try rfl
theorem both_len : ∀ (b a : List Bs), (bothB a b).length ≤ a.length + b.length
  | [], a => Nat.le_refl _
  | x :: b, a => by
    unfold bothB
    rw [List.foldl_cons]
    split
    · have := both_len b a
      unfold bothB at this
      rw [List.length_cons]
      omega
    · have := both_len b (a ++ [x])
      unfold bothB at this
      rw [List.length_append] at this
      simp only [List.length_cons, List.length_nil] at this ⊢
      omega
theorem hasB_con (l : List Bs) (s : Bs) : hasB l s = l.contains s := by
  rw [Bool.eq_iff_iff, hasB_iff, List.contains_iff_mem]
theorem both_take {a b : List Bs} {i : Nat} (hi : i < b.length) : bothB a (b.take (i + 1)) = if (bothB a (b.take i)).contains b[i] then bothB a (b.take i) else bothB a (b.take i) ++ [b[i]] := by
  unfold bothB
  rw [List.take_add_one, List.getElem?_eq_getElem hi, List.foldl_append]
  rfl
noncomputable def g_bothR : List D → Option D := encSpec (fun x : (List Bs) × (List Bs) => [.list (x.1.map .str), .list (x.2.map .str)]) (fun x : (List Bs) × (List Bs) => x.1.length ≤ 1000000000 ∧ x.2.length ≤ 1000000000) (fun x : (List Bs) × (List Bs) => .list ((bothB x.1 x.2).map .str))
theorem g_bothR_eq {a : List Bs} {b : List Bs} (hd : a.length ≤ 1000000000 ∧ b.length ≤ 1000000000) : g_bothR [.list (a.map .str), .list (b.map .str)] = some (.list ((bothB a b).map .str)) := encSpec_eq (x := (a, b)) hd fun y hy => by
    obtain ⟨y0, y1⟩ := y; simp only [List.cons.injEq, and_true, true_and, D.str.injEq, D.int.injEq, D.list.injEq, D.bool.injEq, D.agg.injEq, D.clo.injEq, Int.natCast_inj, inj_ie, D.ref.injEq, eU_e, eWr_e, eWr_ie, eWrs_ie, eTk_ie, eTk_e, eFl_ie, eSp_ie, eMc_e, eMc_ie] at hy
    (try obtain ⟨rfl, rfl⟩ := hy)
    (try subst_vars)
    rfl
theorem f_bothR_ok : PureOK Tryz.prog 46 false g_bothR := by
  have hΓ := Γp f_has_ok (Γn)
  refine pure_enc (n := 27) (rs := [.tmp 4]) Tryz.func46 (by kernel_rfl) rfl (by kernel_rfl) (by kernel_rfl) ?_
  rintro ⟨a, b⟩ hd
  (try dsimp only at hd ⊢)
  refine ⟨fun h => (by cases h), fun k hz0 => ?_⟩
  obtain ⟨d1, d2⟩ := hd
  rw [start_frame (by simp)]; simp only [enumV, go_sem, emptyH]
  repeat (first
    | (apply axJ; (focus ((with_reducible constructor) <;> rfl)))
    | (apply awT mixedOK hΓ (by kernel_rfl); (simp (disch := omega) only [go_sem, ↓reduceIte, dk, ↓lk, Int.reduceBEq, Int.reduceBNe, Bool.true_bne, Bool.false_bne, Bool.not_true, Bool.not_false] <;> with_reducible rfl))
    | ((first | apply awR hΓ | apply awG | apply awH mixedOK hΓ rfl (by kernel_rfl) | apply ovE rfl); (simp (disch := omega) only [go_sem, ↓reduceIte, dk, ↓lk, Int.reduceBEq, Int.reduceBNe, Bool.true_bne, Bool.false_bne, Bool.not_true, Bool.not_false] <;> with_reducible rfl); exact trivial)
    | rfl)
  refine awp_loop_at (X := Nat) (fun i => (frame 27 [(5, .row 1 (bothB a (b.take i)).length), (11, .data (.list (b.map .str))), (12, .data (i64 b.length)), (13, .data (i64 i))])) (fun i => [(1, .row 9 1 ((bothB a (b.take i)).map .str))]) 8
    (fun i => i ≤ b.length) (fun i => b.length - i) 0 (Nat.zero_le _) (Weak.v (by (simp [ConvF, lookV, Conv, ints, List.take_zero, bothB, List.foldl_nil]; done)) (by (simp (disch := omega) only [TabSub, look, if_pos, if_neg, Obj.refsOK, refsOKs, AV.refsOK, decide_eq_true_eq, Bool.and_true, Bool.and_self, List.take_zero, bothB, List.foldl_nil] ) <;> ((repeat' apply And.intro) <;> first | exact True.intro | omega | (simp; done) | rfl))) ?_
  rintro i hi
  (try dsimp only at hi ⊢)
  by_cases hi2 : i < b.length
  · have ht := both_take (a := a) hi2
    have hl := both_len (b.take i) a
    rw [List.length_take] at hl
    have e1 := g_has_eq (l := bothB a (b.take i)) (s := b[i]) (by omega)
    rw [hasB_con] at e1
    generalize bothB a (b.take i) = A at *
    generalize hy : b[i] = y at *
    cases hc : A.contains y
    · rw [hc] at e1 ht
      simp only [Bool.false_eq_true, if_false] at ht
      repeat (first
        | (apply axJ; (focus ((with_reducible constructor) <;> rfl)))
        | (apply awT mixedOK hΓ (by kernel_rfl); (simp (disch := omega) only [go_sem, ↓reduceIte, dk, ↓lk, Int.reduceBEq, Int.reduceBNe, Bool.true_bne, Bool.false_bne, Bool.not_true, Bool.not_false, hy, e1] <;> with_reducible rfl))
        | ((first | apply awR hΓ | apply awG | apply awH mixedOK hΓ rfl (by kernel_rfl) | apply ovE rfl); (simp (disch := omega) only [go_sem, ↓reduceIte, dk, ↓lk, Int.reduceBEq, Int.reduceBNe, Bool.true_bne, Bool.false_bne, Bool.not_true, Bool.not_false, hy, e1] <;> with_reducible rfl); exact trivial)
        | rfl)
      exact ⟨i + 1, by omega, by omega, by rw [ht]; exact Weak.v (by (simp [ConvF, lookV, Conv, ints, List.map_append, List.length_append]; done)) (by (simp (disch := omega) only [TabSub, look, if_pos, if_neg, Obj.refsOK, refsOKs, AV.refsOK, decide_eq_true_eq, Bool.and_true, Bool.and_self, List.map_append, List.length_append] ) <;> ((repeat' apply And.intro) <;> first | exact True.intro | omega | (simp; done) | rfl))⟩
    · rw [hc] at e1 ht
      simp only [if_true] at ht
      repeat (first
        | (apply axJ; (focus ((with_reducible constructor) <;> rfl)))
        | (apply awT mixedOK hΓ (by kernel_rfl); (simp (disch := omega) only [go_sem, ↓reduceIte, dk, ↓lk, Int.reduceBEq, Int.reduceBNe, Bool.true_bne, Bool.false_bne, Bool.not_true, Bool.not_false, hy, e1] <;> with_reducible rfl))
        | ((first | apply awR hΓ | apply awG | apply awH mixedOK hΓ rfl (by kernel_rfl) | apply ovE rfl); (simp (disch := omega) only [go_sem, ↓reduceIte, dk, ↓lk, Int.reduceBEq, Int.reduceBNe, Bool.true_bne, Bool.false_bne, Bool.not_true, Bool.not_false, hy, e1] <;> with_reducible rfl); exact trivial)
        | rfl)
      exact ⟨i + 1, by omega, by omega, by rw [ht]; exact Weak.w⟩
  have hi3 : i = b.length := by omega
  subst hi3
  rw [List.take_length]
  repeat (first
    | (apply axJ; (focus ((with_reducible constructor) <;> rfl)))
    | (apply awT mixedOK hΓ (by kernel_rfl); (simp (disch := omega) only [go_sem, ↓reduceIte, dk, ↓lk, Int.reduceBEq, Int.reduceBNe, Bool.true_bne, Bool.false_bne, Bool.not_true, Bool.not_false] <;> with_reducible rfl))
    | ((first | apply awR hΓ | apply awG | apply awH mixedOK hΓ rfl (by kernel_rfl) | apply ovE rfl); (simp (disch := omega) only [go_sem, ↓reduceIte, dk, ↓lk, Int.reduceBEq, Int.reduceBNe, Bool.true_bne, Bool.false_bne, Bool.not_true, Bool.not_false] <;> with_reducible rfl); exact trivial)
    | rfl)
  try rfl
def mcZ : Mc := ⟨[], [], ([], 0, 0)⟩
def eMt : Option Mc → D
  | some m => .tup [eMc m, .bool true]
  | none => .tup [eMc mcZ, .bool false]
theorem find_drop {α : Type} {p : α → Bool} {l : List α} {i : Nat} (hi : i < l.length) (h : l.find? p = (l.drop i).find? p) : l.find? p = if p l[i] then some l[i] else (l.drop (i + 1)).find? p := by
  rw [h, List.drop_eq_getElem_cons hi, List.find?_cons]
  cases p l[i] <;> rfl
noncomputable def g_meantR : List D → Option D := encSpec (fun x : (List Mc) × Wd => [eU x.1, eWr x.2]) (fun x : (List Mc) × Wd => x.1.length ≤ 1099511627776 ∧ x.2.2.length ≤ 1099511627776) (fun x : (List Mc) × Wd => eMt (meantB x.1 x.2))
theorem g_meantR_eq {us : List Mc} {w : Wd} (hd : us.length ≤ 1099511627776 ∧ w.2.length ≤ 1099511627776) : g_meantR [eU us, eWr w] = some (eMt (meantB us w)) := encSpec_eq (x := (us, w)) hd fun y hy => by
    obtain ⟨y0, y1⟩ := y; simp only [List.cons.injEq, and_true, true_and, D.str.injEq, D.int.injEq, D.list.injEq, D.bool.injEq, D.agg.injEq, D.clo.injEq, Int.natCast_inj, inj_ie, D.ref.injEq, eU_e, eWr_e, eWr_ie, eWrs_ie, eTk_ie, eTk_e, eFl_ie, eSp_ie, eMc_e, eMc_ie] at hy
    (try obtain ⟨rfl, rfl⟩ := hy)
    (try subst_vars)
    rfl
theorem f_meantR_ok : PureOK Tryz.prog 43 false g_meantR := by
  have hΓ := Γp f_has_ok (Γn)
  refine pure_enc (n := 37) (rs := [.cell 4 28, .tmp 5]) Tryz.func43 (by kernel_rfl) rfl (by kernel_rfl) (by kernel_rfl) ?_
  rintro ⟨us, w⟩ hd
  (try dsimp only at hd ⊢)
  refine ⟨fun h => (by cases h), fun k hz0 => ?_⟩
  obtain ⟨⟨w1, w2⟩, w3⟩ := w
  obtain ⟨d1, d2⟩ := hd
  dsimp only at d2
  rw [eWr_eq, eU_eq]
  unfold meantB
  dsimp only
  have e1 := g_has_eq (l := w3) (s := w2) d2
  rw [hasB_con] at e1
  rw [start_frame (by simp)]; simp only [enumV, go_sem, emptyH]
  cases k1 : (w1 != 1)
  case true =>
    simp only [Bool.true_or, if_true]
    repeat (first
      | (apply axJ; (focus ((with_reducible constructor) <;> rfl)))
      | (apply awT mixedOK hΓ (by kernel_rfl); (simp (disch := omega) only [go_sem, ↓reduceIte, dk, ↓lk, Int.reduceBEq, Int.reduceBNe, Bool.true_bne, Bool.false_bne, Bool.not_true, Bool.not_false, ↓ty_build28, k1] <;> with_reducible rfl))
      | ((first | apply awR hΓ | apply awG | apply awH mixedOK hΓ rfl (by kernel_rfl) | apply ovE rfl); (simp (disch := omega) only [go_sem, ↓reduceIte, dk, ↓lk, Int.reduceBEq, Int.reduceBNe, Bool.true_bne, Bool.false_bne, Bool.not_true, Bool.not_false, ↓ty_build28, k1] <;> with_reducible rfl); exact trivial)
      | rfl)
    try rfl
  cases k2 : w3.contains w2
  case true =>
    rw [k2] at e1
    simp only [Bool.or_true, if_true]
    repeat (first
      | (apply axJ; (focus ((with_reducible constructor) <;> rfl)))
      | (apply awT mixedOK hΓ (by kernel_rfl); (simp (disch := omega) only [go_sem, ↓reduceIte, dk, ↓lk, Int.reduceBEq, Int.reduceBNe, Bool.true_bne, Bool.false_bne, Bool.not_true, Bool.not_false, ↓ty_build28, k1, e1] <;> with_reducible rfl))
      | ((first | apply awR hΓ | apply awG | apply awH mixedOK hΓ rfl (by kernel_rfl) | apply ovE rfl); (simp (disch := omega) only [go_sem, ↓reduceIte, dk, ↓lk, Int.reduceBEq, Int.reduceBNe, Bool.true_bne, Bool.false_bne, Bool.not_true, Bool.not_false, ↓ty_build28, k1, e1] <;> with_reducible rfl); exact trivial)
      | rfl)
    try rfl
  rw [k2] at e1
  simp only [Bool.or_self, Bool.false_eq_true, if_false]
  repeat (first
    | (apply axJ; (focus ((with_reducible constructor) <;> rfl)))
    | (apply awT mixedOK hΓ (by kernel_rfl); (simp (disch := omega) only [go_sem, ↓reduceIte, dk, ↓lk, Int.reduceBEq, Int.reduceBNe, Bool.true_bne, Bool.false_bne, Bool.not_true, Bool.not_false, k1, e1] <;> with_reducible rfl))
    | ((first | apply awR hΓ | apply awG | apply awH mixedOK hΓ rfl (by kernel_rfl) | apply ovE rfl); (simp (disch := omega) only [go_sem, ↓reduceIte, dk, ↓lk, Int.reduceBEq, Int.reduceBNe, Bool.true_bne, Bool.false_bne, Bool.not_true, Bool.not_false, k1, e1] <;> with_reducible rfl); exact trivial)
    | rfl)
  refine awp_loop_at (X := Nat) (fun i => (frame 37 [(3, .ptr 1 0), (4, .ptr 2 0), (22, .data (.list (us.map eMc))), (23, .data (i64 us.length)), (24, .data (i64 i))])) (fun _ => [(1, .box [.data (i64 w1), .data (.str w2), .data (.list (w3.map .str))]), (2, .box [.data (.str []), .nils, .data (.str []), .data (i64 0), .data (i64 0)])]) 8
    (fun i => i ≤ us.length ∧ us.find? (fun m => m.name == w2) = (us.drop i).find? (fun m => m.name == w2)) (fun i => us.length - i) 0 ⟨Nat.zero_le _, rfl⟩ (Weak.w) ?_
  rintro i ⟨hi, hpre⟩
  (try dsimp only at hi hpre ⊢)
  by_cases hi2 : i < us.length
  · have hfd := find_drop hi2 hpre
    rw [hpre]
    rw [hpre] at hfd
    generalize hy : us[i] = y at *
    obtain ⟨y1, y2, y3, y4, y5⟩ := y
    dsimp only at hfd
    cases k3 : (y1 == w2)
    · rw [k3] at hfd
      simp only [Bool.false_eq_true, if_false] at hfd
      repeat (first
        | (apply axJ; (focus ((with_reducible constructor) <;> rfl)))
        | (apply awT mixedOK hΓ (by kernel_rfl); (simp (disch := omega) only [go_sem, ↓reduceIte, dk, ↓lk, Int.reduceBEq, Int.reduceBNe, Bool.true_bne, Bool.false_bne, Bool.not_true, Bool.not_false, hy, k3] <;> with_reducible rfl))
        | ((first | apply awR hΓ | apply awG | apply awH mixedOK hΓ rfl (by kernel_rfl) | apply ovE rfl); (simp (disch := omega) only [go_sem, ↓reduceIte, dk, ↓lk, Int.reduceBEq, Int.reduceBNe, Bool.true_bne, Bool.false_bne, Bool.not_true, Bool.not_false, hy, k3] <;> with_reducible rfl); exact trivial)
        | rfl)
      exact ⟨i + 1, ⟨by omega, hfd⟩, by omega, Weak.w⟩
    · rw [k3] at hfd
      simp only [if_true] at hfd
      rw [hfd]
      repeat (first
        | (apply axJ; (focus ((with_reducible constructor) <;> rfl)))
        | (apply awT mixedOK hΓ (by kernel_rfl); (simp (disch := omega) only [go_sem, ↓reduceIte, dk, ↓lk, Int.reduceBEq, Int.reduceBNe, Bool.true_bne, Bool.false_bne, Bool.not_true, Bool.not_false, hy, k3] <;> with_reducible rfl))
        | ((first | apply awR hΓ | apply awG | apply awH mixedOK hΓ rfl (by kernel_rfl) | apply ovE rfl); (simp (disch := omega) only [go_sem, ↓reduceIte, dk, ↓lk, Int.reduceBEq, Int.reduceBNe, Bool.true_bne, Bool.false_bne, Bool.not_true, Bool.not_false, hy, k3] <;> with_reducible rfl); exact trivial)
        | rfl)
      try rfl
  have hi3 : i = us.length := by omega
  subst hi3
  rw [List.drop_length] at hpre
  rw [hpre]
  repeat (first
    | (apply axJ; (focus ((with_reducible constructor) <;> rfl)))
    | (apply awT mixedOK hΓ (by kernel_rfl); (simp (disch := omega) only [go_sem, ↓reduceIte, dk, ↓lk, Int.reduceBEq, Int.reduceBNe, Bool.true_bne, Bool.false_bne, Bool.not_true, Bool.not_false, ↓ty_build28] <;> with_reducible rfl))
    | ((first | apply awR hΓ | apply awG | apply awH mixedOK hΓ rfl (by kernel_rfl) | apply ovE rfl); (simp (disch := omega) only [go_sem, ↓reduceIte, dk, ↓lk, Int.reduceBEq, Int.reduceBNe, Bool.true_bne, Bool.false_bne, Bool.not_true, Bool.not_false, ↓ty_build28] <;> with_reducible rfl); exact trivial)
    | rfl)
  try rfl
end Go.Ab
