/-
  One text of the proof (own work): contracts of functions of the program, by the abstract machine.
-/
import Derived.Test.YtapnigckcnknoaaGreatDoorX19
import Derived.Test.YtapnigckcnknoaaGreatDoorX35
set_option linter.unusedVariables false
set_option linter.unusedSimpArgs false
namespace Go.Ab
open Go Go.RowKit Go.Proofs
set_option maxRecDepth 10000
set_option maxHeartbeats 16000000
def atI : Option Nat → Int
  | none => -1
  | some k => k
theorem fidx_take {α : Type} {p : α → Bool} {l : List α} {j : Nat} (hj : j < l.length) : (l.take (j + 1)).findIdx? p = match (l.take j).findIdx? p with
    | some k => some k
    | none => if p l[j] then some j else none := by
  rw [List.take_add_one, List.getElem?_eq_getElem hj, List.findIdx?_append]
  have hl : (l.take j).length = j := by rw [List.length_take]; omega
  rw [hl]
  cases h : (l.take j).findIdx? p with
  | some k => rfl
  | none =>
    simp only [Option.toList_some, List.findIdx?_cons, List.findIdx?_nil, Option.none_or]
    cases p l[j] <;> simp
def argM (hid : List Bs) (a : Wd) : Wd := (a.1, bothB hid a.2)
theorem subst_none {m : Mc} {args : List (List Wd)} {hid : List Bs} {t : Tk} (h : atG m t = none) : substG m args hid t = [(t, hid)] := by
  unfold substG
  rw [h]
theorem subst_some {m : Mc} {args : List (List Wd)} {hid : List Bs} {t : Tk} {k : Nat} (h : atG m t = some k) : substG m args hid t = (args.getD k []).map (argM hid) := by
  unfold substG
  rw [h]
  rfl
theorem at_lt {m : Mc} {t : Tk} {k : Nat} (h : atG m t = some k) : k < m.params.length := by
  unfold atG at h
  split at h
  · obtain ⟨h1, _⟩ := List.findIdx?_eq_some_iff_getElem.1 h
    exact h1
  · cases h
theorem subst_len {m : Mc} {args : List (List Wd)} {hid : List Bs} {q : Nat} (hq : 1 ≤ q) (ha : ∀ a ∈ args, a.length ≤ q) (t : Tk) : (substG m args hid t).length ≤ q := by
  cases h : atG m t with
  | none => rw [subst_none h]; exact hq
  | some k =>
    rw [subst_some h, List.length_map, List.getD_eq_getElem?_getD]
    cases hk : args[k]? with
    | none => exact Nat.zero_le _
    | some a => exact ha a (List.mem_of_getElem? hk)
theorem flat_len {m : Mc} {args : List (List Wd)} {hid : List Bs} {q : Nat} (hq : 1 ≤ q) (ha : ∀ a ∈ args, a.length ≤ q) : ∀ l : List Tk, (l.flatMap (substG m args hid)).length ≤ l.length * q
  | [] => Nat.zero_le _
  | t :: l => by
    have h1 := subst_len hq ha (m := m) (hid := hid) t
    have h2 := flat_len hq ha (m := m) (hid := hid) l
    rw [List.flatMap_cons, List.length_append, List.length_cons, Nat.succ_mul]
    omega
theorem flatm_take {α β : Type} {f : α → List β} {l : List α} {i : Nat} (hi : i < l.length) : (l.take (i + 1)).flatMap f = (l.take i).flatMap f ++ f l[i] := by
  rw [List.take_add_one, List.getElem?_eq_getElem hi, List.flatMap_append]
  simp
theorem mapp_take {α β : Type} {f : α → β} {l : List α} {i : Nat} (hi : i < l.length) : (l.take (i + 1)).map f = (l.take i).map f ++ [f l[i]] := by
  rw [List.take_add_one, List.getElem?_eq_getElem hi, List.map_append]
  rfl
noncomputable def g_replR7 : List D → Option D := encSpec (fun x : Mc × (List Tk) × (List (List Wd)) × (List Bs) => [eMc x.1, .list (x.2.1.map eTk), .list (x.2.2.1.map eWrs), .list (x.2.2.2.map .str)]) (fun x : Mc × (List Tk) × (List (List Wd)) × (List Bs) => (x.1.params.length ≤ 1000000 ∧ x.2.2.1.length = x.1.params.length) ∧ (x.2.1.length ≤ 1000000 ∧ (∀ a ∈ x.2.2.1, a.length ≤ 1000000 ∧ ∀ w ∈ a, w.2.length ≤ 1000000000) ∧ x.2.2.2.length ≤ 1000000000)) (fun x : Mc × (List Tk) × (List (List Wd)) × (List Bs) => .list ((x.2.1.flatMap (substG x.1 x.2.2.1 x.2.2.2)).map eWr))
theorem g_replR7_eq {m : Mc} {body : List Tk} {args : List (List Wd)} {hid : List Bs} (hd : (m.params.length ≤ 1000000 ∧ args.length = m.params.length) ∧ (body.length ≤ 1000000 ∧ (∀ a ∈ args, a.length ≤ 1000000 ∧ ∀ w ∈ a, w.2.length ≤ 1000000000) ∧ hid.length ≤ 1000000000)) : g_replR7 [eMc m, .list (body.map eTk), .list (args.map eWrs), .list (hid.map .str)] = some (.list ((body.flatMap (substG m args hid)).map eWr)) := encSpec_eq (x := (m, body, args, hid)) hd fun y hy => by
    obtain ⟨y0, y1, y2, y3⟩ := y; simp only [List.cons.injEq, and_true, true_and, D.str.injEq, D.int.injEq, D.list.injEq, D.bool.injEq, D.agg.injEq, D.clo.injEq, Int.natCast_inj, inj_ie, D.ref.injEq, eU_e, eWr_e, eWr_ie, eWrs_ie, eTk_ie, eTk_e, eFl_ie, eSp_ie, eMc_e, eMc_ie] at hy
    (try obtain ⟨rfl, rfl, rfl, rfl⟩ := hy)
    (try subst_vars)
    rfl
theorem f_replR7_ok : PureOK Tryz.prog 45 false g_replR7 := by
  have hΓ := Γp f_bothR_ok (Γn)
  refine pure_enc (n := 77) (rs := [.tmp 8]) Tryz.func45 (by kernel_rfl) rfl (by kernel_rfl) (by kernel_rfl) ?_
  rintro ⟨m, body, args, hid⟩ hd
  (try dsimp only at hd ⊢)
  refine ⟨fun h => (by cases h), fun k hz0 => ?_⟩
  obtain ⟨mn, mp, m3, m4, m5⟩ := m
  obtain ⟨⟨d1, d2⟩, d3, d4, d5⟩ := hd
  dsimp only at d1 d2
  rw [eMc_eq]
  dsimp only
  generalize hM : (⟨mn, mp, m3, m4, m5⟩ : Mc) = M at *
  have hMp : M.params = mp := by rw [← hM]
  have hfl := flat_len (m := M) (args := args) (hid := hid) (q := 1000000) (by decide) (fun a ha => (d4 a ha).1)
  rw [start_frame (by simp)]; simp only [enumV, go_sem, emptyH]
  repeat (first
    | (apply axJ; (focus ((with_reducible constructor) <;> rfl)))
    | (apply awT mixedOK hΓ (by kernel_rfl); (simp (disch := omega) only [go_sem, ↓reduceIte, dk, ↓lk, Int.reduceBEq, Int.reduceBNe, Bool.true_bne, Bool.false_bne, Bool.not_true, Bool.not_false] <;> with_reducible rfl))
    | ((first | apply awR hΓ | apply awG | apply awH mixedOK hΓ rfl (by kernel_rfl) | apply ovE rfl); (simp (disch := omega) only [go_sem, ↓reduceIte, dk, ↓lk, Int.reduceBEq, Int.reduceBNe, Bool.true_bne, Bool.false_bne, Bool.not_true, Bool.not_false] <;> with_reducible rfl); exact trivial)
    | rfl)
  refine awp_weak (Weak.nilrowF (i := 9) 87 (sz := 3) (by omega) (by omega) rfl) ?_
  refine awp_loop_at (X := Nat) (fun i => (frame 77 [(2, .data (.list (args.map eWrs))), (3, .data (.list (hid.map .str))), (4, .ptr 0 0), (9, .row 6 ((body.take i).flatMap (substG M args hid)).length), (16, .data (.list (body.map eTk))), (17, .data (i64 body.length)), (18, .data (i64 i))])) (fun i => [(0, .box [.data (.str mn), .data (.list (mp.map .str)), .data (.str m3), .data (i64 m4), .data (i64 m5)]), (6, .row 87 3 (((body.take i).flatMap (substG M args hid)).map eWr))]) 7
    (fun i => i ≤ body.length) (fun i => body.length - i) 0 (Nat.zero_le _) (Weak.v (by (simp [ConvF, lookV, Conv, ints, upd, List.take_zero, List.flatMap_nil]; done)) (by (simp (disch := omega) only [TabSub, look, if_pos, if_neg, Obj.refsOK, refsOKs, AV.refsOK, decide_eq_true_eq, Bool.and_true, Bool.and_self, upd, List.take_zero, List.flatMap_nil] ) <;> ((repeat' apply And.intro) <;> first | exact True.intro | omega | (simp; done) | rfl))) ?_
  rintro i hi
  (try dsimp only at hi ⊢)
  by_cases hi2 : i < body.length
  case neg =>
    have hi3 : i = body.length := by omega
    subst hi3
    rw [List.take_length]
    repeat (first
      | (apply axJ; (focus ((with_reducible constructor) <;> rfl)))
      | (apply awT mixedOK hΓ (by kernel_rfl); (simp (disch := omega) only [go_sem, ↓reduceIte, dk, ↓lk, Int.reduceBEq, Int.reduceBNe, Bool.true_bne, Bool.false_bne, Bool.not_true, Bool.not_false] <;> with_reducible rfl))
      | ((first | apply awR hΓ | apply awG | apply awH mixedOK hΓ rfl (by kernel_rfl) | apply ovE rfl); (simp (disch := omega) only [go_sem, ↓reduceIte, dk, ↓lk, Int.reduceBEq, Int.reduceBNe, Bool.true_bne, Bool.false_bne, Bool.not_true, Bool.not_false] <;> with_reducible rfl); exact trivial)
      | rfl)
    try rfl
  have hft := flatm_take (f := substG M args hid) hi2
  have hfb := hfl (body.take i)
  rw [List.length_take] at hfb
  have hnn : atG M body[i] = none → substG M args hid body[i] = _ := fun h => subst_none h
  have hss : ∀ k, atG M body[i] = some k → substG M args hid body[i] = _ := fun k h => subst_some h
  generalize (body.take i).flatMap (substG M args hid) = A at *
  generalize hy : body[i] = y at *
  obtain ⟨y1, y2⟩ := y
  repeat (first
    | (apply axJ; (focus ((with_reducible constructor) <;> rfl)))
    | (apply awT mixedOK hΓ (by kernel_rfl); (simp (disch := omega) only [go_sem, ↓reduceIte, dk, ↓lk, Int.reduceBEq, Int.reduceBNe, Bool.true_bne, Bool.false_bne, Bool.not_true, Bool.not_false, hy] <;> with_reducible rfl))
    | ((first | apply awR hΓ | apply awG | apply awH mixedOK hΓ rfl (by kernel_rfl) | apply ovE rfl); (simp (disch := omega) only [go_sem, ↓reduceIte, dk, ↓lk, Int.reduceBEq, Int.reduceBNe, Bool.true_bne, Bool.false_bne, Bool.not_true, Bool.not_false, hy] <;> with_reducible rfl); exact trivial)
    | rfl)
  refine awp_loop_at (X := Nat) (fun j => (frame 77 [(2, .data (.list (args.map eWrs))), (3, .data (.list (hid.map .str))), (4, .ptr 0 0), (9, .row 6 A.length), (11, .ptr 10 0), (12, .data (i64 (atI (if y1 == 1 then (mp.take j).findIdx? (fun p => p == y2) else none)))), (16, .data (.list (body.map eTk))), (17, .data (i64 body.length)), (18, .data (i64 i)), (24, .data (i64 mp.length)), (25, .data (i64 j))])) (fun j => [(0, .box [.data (.str mn), .data (.list (mp.map .str)), .data (.str m3), .data (i64 m4), .data (i64 m5)]), (6, .row 87 3 (A.map eWr)), (10, .box [.data (i64 y1), .data (.str y2)])]) 17
    (fun j => j ≤ mp.length) (fun j => mp.length - j) 0 (Nat.zero_le _) (Weak.v (by (simp [ConvF, lookV, Conv, ints, List.take_zero, List.findIdx?_nil, ite_self, atI]; done)) (by (simp (disch := omega) only [TabSub, look, if_pos, if_neg, Obj.refsOK, refsOKs, AV.refsOK, decide_eq_true_eq, Bool.and_true, Bool.and_self, List.take_zero, List.findIdx?_nil, ite_self, atI] ) <;> ((repeat' apply And.intro) <;> first | exact True.intro | omega | (simp; done) | rfl))) ?_
  rintro j hj
  (try dsimp only at hj ⊢)
  by_cases hj2 : j < mp.length
  · have hfx := fidx_take (p := fun p => p == y2) hj2
    generalize hz : mp[j] = z at *
    cases k1 : (y1 == 1)
    · simp only [Bool.false_eq_true, if_false, atI]
      repeat (first
        | (apply axJ; (focus ((with_reducible constructor) <;> rfl)))
        | (apply awT mixedOK hΓ (by kernel_rfl); (simp (disch := omega) only [go_sem, ↓reduceIte, dk, ↓lk, Int.reduceBEq, Int.reduceBNe, Bool.true_bne, Bool.false_bne, Bool.not_true, Bool.not_false, hz, k1] <;> with_reducible rfl))
        | ((first | apply awR hΓ | apply awG | apply awH mixedOK hΓ rfl (by kernel_rfl) | apply ovE rfl); (simp (disch := omega) only [go_sem, ↓reduceIte, dk, ↓lk, Int.reduceBEq, Int.reduceBNe, Bool.true_bne, Bool.false_bne, Bool.not_true, Bool.not_false, hz, k1] <;> with_reducible rfl); exact trivial)
        | rfl)
      exact ⟨j + 1, by omega, by omega, by (try simp only [k1, Bool.false_eq_true, if_false, atI]); exact Weak.w⟩
    · simp only [if_true]
      cases hc : (mp.take j).findIdx? (fun p => p == y2) with
      | some k =>
        rw [hc] at hfx
        simp only [atI]
        repeat (first
          | (apply axJ; (focus ((with_reducible constructor) <;> rfl)))
          | (apply awT mixedOK hΓ (by kernel_rfl); (simp (disch := omega) only [go_sem, ↓reduceIte, dk, ↓lk, Int.reduceBEq, Int.reduceBNe, Bool.true_bne, Bool.false_bne, Bool.not_true, Bool.not_false, hz, k1] <;> with_reducible rfl))
          | ((first | apply awR hΓ | apply awG | apply awH mixedOK hΓ rfl (by kernel_rfl) | apply ovE rfl); (simp (disch := omega) only [go_sem, ↓reduceIte, dk, ↓lk, Int.reduceBEq, Int.reduceBNe, Bool.true_bne, Bool.false_bne, Bool.not_true, Bool.not_false, hz, k1] <;> with_reducible rfl); exact trivial)
          | rfl)
        exact ⟨j + 1, by omega, by omega, by (try simp only [k1, if_true, hfx, atI]); exact Weak.w⟩
      | none =>
        rw [hc] at hfx
        simp only [atI]
        dsimp only at hfx
        cases k2 : (z == y2)
        · rw [k2] at hfx
          simp only [Bool.false_eq_true, if_false] at hfx
          repeat (first
            | (apply axJ; (focus ((with_reducible constructor) <;> rfl)))
            | (apply awT mixedOK hΓ (by kernel_rfl); (simp (disch := omega) only [go_sem, ↓reduceIte, dk, ↓lk, Int.reduceBEq, Int.reduceBNe, Bool.true_bne, Bool.false_bne, Bool.not_true, Bool.not_false, hz, k1, k2] <;> with_reducible rfl))
            | ((first | apply awR hΓ | apply awG | apply awH mixedOK hΓ rfl (by kernel_rfl) | apply ovE rfl); (simp (disch := omega) only [go_sem, ↓reduceIte, dk, ↓lk, Int.reduceBEq, Int.reduceBNe, Bool.true_bne, Bool.false_bne, Bool.not_true, Bool.not_false, hz, k1, k2] <;> with_reducible rfl); exact trivial)
            | rfl)
          exact ⟨j + 1, by omega, by omega, by (try simp only [k1, if_true, hfx, atI]); exact Weak.w⟩
        · rw [k2] at hfx
          simp only [if_true] at hfx
          repeat (first
            | (apply axJ; (focus ((with_reducible constructor) <;> rfl)))
            | (apply awT mixedOK hΓ (by kernel_rfl); (simp (disch := omega) only [go_sem, ↓reduceIte, dk, ↓lk, Int.reduceBEq, Int.reduceBNe, Bool.true_bne, Bool.false_bne, Bool.not_true, Bool.not_false, hz, k1, k2] <;> with_reducible rfl))
            | ((first | apply awR hΓ | apply awG | apply awH mixedOK hΓ rfl (by kernel_rfl) | apply ovE rfl); (simp (disch := omega) only [go_sem, ↓reduceIte, dk, ↓lk, Int.reduceBEq, Int.reduceBNe, Bool.true_bne, Bool.false_bne, Bool.not_true, Bool.not_false, hz, k1, k2] <;> with_reducible rfl); exact trivial)
            | rfl)
          exact ⟨j + 1, by omega, by omega, by (try simp only [k1, if_true, hfx, atI]); exact Weak.w⟩
  have hj3 : j = mp.length := by omega
  subst hj3
  rw [List.take_length]
  have hat : atG M (y1, y2) = if y1 == 1 then mp.findIdx? (fun p => p == y2) else none := by unfold atG; rw [hMp]
  rw [← hat]
  cases hk : atG M (y1, y2) with
  | none =>
    rw [hnn hk] at hft
    simp only [atI]
    repeat (first
      | (apply axJ; (focus ((with_reducible constructor) <;> rfl)))
      | (apply awT mixedOK hΓ (by kernel_rfl); (simp (disch := omega) only [go_sem, ↓reduceIte, dk, ↓lk, Int.reduceBEq, Int.reduceBNe, Bool.true_bne, Bool.false_bne, Bool.not_true, Bool.not_false, ↓ty_build87] <;> with_reducible rfl))
      | ((first | apply awR hΓ | apply awG | apply awH mixedOK hΓ rfl (by kernel_rfl) | apply ovE rfl); (simp (disch := omega) only [go_sem, ↓reduceIte, dk, ↓lk, Int.reduceBEq, Int.reduceBNe, Bool.true_bne, Bool.false_bne, Bool.not_true, Bool.not_false, ↓ty_build87] <;> with_reducible rfl); exact trivial)
      | rfl)
    exact ⟨i + 1, by omega, by omega, by rw [hft]; exact Weak.v (by (simp [ConvF, lookV, Conv, ints, List.map_append, List.length_append, eWr_eq]; done)) (by (simp (disch := omega) only [TabSub, look, if_pos, if_neg, Obj.refsOK, refsOKs, AV.refsOK, decide_eq_true_eq, Bool.and_true, Bool.and_self, List.map_append, List.length_append, eWr_eq] ) <;> ((repeat' apply And.intro) <;> first | exact True.intro | omega | (simp; done) | rfl))⟩
  | some k =>
    have hkl := at_lt hk
    rw [hMp, ← d2] at hkl
    rw [hss k hk, List.getD_eq_getElem?_getD, List.getElem?_eq_getElem hkl, Option.getD_some] at hft
    obtain ⟨da, db⟩ := d4 _ (List.getElem_mem hkl)
    simp only [atI]
    generalize hx : args[k] = x at *
    have hxd : eWrs x = .list (x.map eWr) := rfl
    repeat (first
      | (apply axJ; (focus ((with_reducible constructor) <;> rfl)))
      | (apply awT mixedOK hΓ (by kernel_rfl); (simp (disch := omega) only [go_sem, ↓reduceIte, dk, ↓lk, Int.reduceBEq, Int.reduceBNe, Bool.true_bne, Bool.false_bne, Bool.not_true, Bool.not_false, Int.toNat_natCast, List.getElem_map, hx, hxd] <;> with_reducible rfl))
      | ((first | apply awR hΓ | apply awG | apply awH mixedOK hΓ rfl (by kernel_rfl) | apply ovE rfl); (simp (disch := omega) only [go_sem, ↓reduceIte, dk, ↓lk, Int.reduceBEq, Int.reduceBNe, Bool.true_bne, Bool.false_bne, Bool.not_true, Bool.not_false, Int.toNat_natCast, List.getElem_map, hx, hxd] <;> with_reducible rfl); exact trivial)
      | rfl)
    refine awp_loop_at (X := Nat) (fun q => (frame 77 [(2, .data (.list (args.map eWrs))), (3, .data (.list (hid.map .str))), (4, .ptr 0 0), (9, .row 6 (A ++ (x.take q).map (argM hid)).length), (16, .data (.list (body.map eTk))), (17, .data (i64 body.length)), (18, .data (i64 i)), (58, .data (.list (x.map eWr))), (59, .data (i64 x.length)), (60, .data (i64 q))])) (fun q => [(0, .box [.data (.str mn), .data (.list (mp.map .str)), .data (.str m3), .data (i64 m4), .data (i64 m5)]), (6, .row 87 3 ((A ++ (x.take q).map (argM hid)).map eWr))]) 24
      (fun q => q ≤ x.length) (fun q => x.length - q) 0 (Nat.zero_le _) (Weak.v (by (simp [ConvF, lookV, Conv, ints, List.take_zero, List.map_nil, List.append_nil]; done)) (by (simp (disch := omega) only [TabSub, look, if_pos, if_neg, Obj.refsOK, refsOKs, AV.refsOK, decide_eq_true_eq, Bool.and_true, Bool.and_self, List.take_zero, List.map_nil, List.append_nil] ) <;> ((repeat' apply And.intro) <;> first | exact True.intro | omega | (simp; done) | rfl))) ?_
    rintro q hq
    (try dsimp only at hq ⊢)
    by_cases hq2 : q < x.length
    · have hmt := mapp_take (f := argM hid) hq2
      have dbq := db _ (List.getElem_mem hq2)
      have hml : ((x.take q).map (argM hid)).length = q := by rw [List.length_map, List.length_take]; omega
      generalize (x.take q).map (argM hid) = Z at *
      generalize hz : x[q] = z at *
      obtain ⟨⟨z1, z2⟩, z3⟩ := z
      have e1 := g_bothR_eq (a := hid) (b := z3) ⟨d5, dbq⟩
      have harg : argM hid ((z1, z2), z3) = ((z1, z2), bothB hid z3) := rfl
      have hAl : (A ++ Z).length = A.length + q := by rw [List.length_append, hml]
      generalize bothB hid z3 = h3 at *
      have hmm : (A ++ (Z ++ [((z1, z2), h3)])).map eWr = (A ++ Z).map eWr ++ [.agg [i64 z1, .str z2, .list (h3.map .str)]] := by rw [← List.append_assoc, List.map_append]; rfl
      have hml2 : (A ++ (Z ++ [((z1, z2), h3)])).length = (A ++ Z).length + 1 := by rw [← List.append_assoc, List.length_append]; rfl
      generalize hAZ : A ++ Z = Y at *
      repeat (first
        | (apply axJ; (focus ((with_reducible constructor) <;> rfl)))
        | (apply awT mixedOK hΓ (by kernel_rfl); (simp (disch := omega) only [go_sem, ↓reduceIte, dk, ↓lk, Int.reduceBEq, Int.reduceBNe, Bool.true_bne, Bool.false_bne, Bool.not_true, Bool.not_false, hz] <;> with_reducible rfl))
        | ((first | apply awR hΓ | apply awG | apply awH mixedOK hΓ rfl (by kernel_rfl) | apply ovE rfl); (simp (disch := omega) only [go_sem, ↓reduceIte, dk, ↓lk, Int.reduceBEq, Int.reduceBNe, Bool.true_bne, Bool.false_bne, Bool.not_true, Bool.not_false, hz] <;> with_reducible rfl); exact trivial)
        | rfl)
      (apply awp_regm (nst := false) (nst' := false) 9 mixedOK hΓ (by kernel_rfl); (simp (disch := omega) only [go_sem, ↓reduceIte, ↓lk, dk, ↓ty_build87, e1, look_upd] <;> with_reducible rfl); (simp (disch := omega) only [go_sem, ↓reduceIte] <;> with_reducible rfl); (focus rfl); (focus rfl); (simp (disch := omega) only [go_sem, ↓reduceIte, ↓lk, dk, ↓ty_build87, e1, look_upd] <;> with_reducible rfl); (focus (first | (simp (disch := omega) only [go_sem, ↓reduceIte, ↓lk, dk, ↓ty_build87, e1, look_upd]; done) | (simp (disch := omega) only [go_sem, ↓reduceIte, ↓lk, dk, ↓ty_build87, e1, look_upd]; omega))); (focus (dsimp only [List.take_succ_cons, List.take_zero]; (repeat (apply same2_cons; (focus (first | (left; decide) | (right; simp (disch := omega) only [go_sem, ↓reduceIte, ↓lk, dk, ↓ty_build87, e1, look_upd]; done))); (simp (disch := omega) only [go_sem, ↓reduceIte, ↓lk, dk, ↓ty_build87, e1, look_upd] <;> with_reducible rfl))); exact same2_nil)); (simp (disch := omega) only [go_sem, ↓reduceIte, ↓lk, dk, ↓ty_build87, e1, look_upd] <;> with_reducible rfl))
      repeat (first
        | (apply axJ; (focus ((with_reducible constructor) <;> rfl)))
        | (apply awT mixedOK hΓ (by kernel_rfl); (simp (disch := omega) only [go_sem, ↓reduceIte, dk, ↓lk, Int.reduceBEq, Int.reduceBNe, Bool.true_bne, Bool.false_bne, Bool.not_true, Bool.not_false] <;> with_reducible rfl))
        | ((first | apply awR hΓ | apply awG | apply awH mixedOK hΓ rfl (by kernel_rfl) | apply ovE rfl); (simp (disch := omega) only [go_sem, ↓reduceIte, dk, ↓lk, Int.reduceBEq, Int.reduceBNe, Bool.true_bne, Bool.false_bne, Bool.not_true, Bool.not_false] <;> with_reducible rfl); exact trivial)
        | rfl)
      exact ⟨q + 1, by omega, by omega, by rw [hmt, harg, hmm, hml2]; exact Weak.w⟩
    have hq3 : q = x.length := by omega
    subst hq3
    rw [List.take_length, ← hft]
    repeat (first
      | (apply axJ; (focus ((with_reducible constructor) <;> rfl)))
      | (apply awT mixedOK hΓ (by kernel_rfl); (simp (disch := omega) only [go_sem, ↓reduceIte, dk, ↓lk, Int.reduceBEq, Int.reduceBNe, Bool.true_bne, Bool.false_bne, Bool.not_true, Bool.not_false] <;> with_reducible rfl))
      | ((first | apply awR hΓ | apply awG | apply awH mixedOK hΓ rfl (by kernel_rfl) | apply ovE rfl); (simp (disch := omega) only [go_sem, ↓reduceIte, dk, ↓lk, Int.reduceBEq, Int.reduceBNe, Bool.true_bne, Bool.false_bne, Bool.not_true, Bool.not_false] <;> with_reducible rfl); exact trivial)
      | rfl)
    exact ⟨i + 1, by omega, by omega, Weak.w⟩
end Go.Ab
