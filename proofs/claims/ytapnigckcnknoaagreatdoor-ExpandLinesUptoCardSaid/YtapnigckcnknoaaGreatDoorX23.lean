/-
  One text of the proof (own work): contracts of functions of the program, by the abstract machine.
-/
import Derived.Test.YtapnigckcnknoaaGreatDoorX12
import Derived.Test.YtapnigckcnknoaaGreatDoorX22
set_option linter.unusedVariables false
set_option linter.unusedSimpArgs false
namespace Go.Ab
open Go Go.RowKit Go.Proofs
set_option maxRecDepth 10000
set_option maxHeartbeats 16000000
def atI : Option Nat → Int
  | none => -1
  | some k => k
theorem fidx_take {α : Type} {p : α → Bool} {l : List α} {j : Nat} (hj : j < l.length) : (l.take (j + 1)).findIdx? p = match (l.take j).findIdx? p with
    | some k => some k
    | none => if p l[j] then some j else none := by
  rw [List.take_add_one, List.getElem?_eq_getElem hj, List.findIdx?_append]
  have hl : (l.take j).length = j := by rw [List.length_take]; omega
  rw [hl]
  cases h : (l.take j).findIdx? p with
  | some k => rfl
  | none =>
    simp only [Option.toList_some, List.findIdx?_cons, List.findIdx?_nil, Option.none_or]
    cases p l[j] <;> simp
def argM (hid : List Bs) (a : Wd) : Wd := (a.1, bothB hid a.2)
theorem subst_none {m : Mc} {args : List (List Wd)} {hid : List Bs} {t : Tk} (h : atG m t = none) : substG m args hid t = [(t, hid)] := by
  unfold substG
  rw [h]
theorem subst_some {m : Mc} {args : List (List Wd)} {hid : List Bs} {t : Tk} {k : Nat} (h : atG m t = some k) : substG m args hid t = (args.getD k []).map (argM hid) := by
  unfold substG
  rw [h]
  rfl
theorem at_lt {m : Mc} {t : Tk} {k : Nat} (h : atG m t = some k) : k < m.params.length := by
  unfold atG at h
  split at h
  · obtain ⟨h1, _⟩ := List.findIdx?_eq_some_iff_getElem.1 h
    exact h1
  · cases h
theorem subst_len {m : Mc} {args : List (List Wd)} {hid : List Bs} {q : Nat} (hq : 1 ≤ q) (ha : ∀ a ∈ args, a.length ≤ q) (t : Tk) : (substG m args hid t).length ≤ q := by
  cases h : atG m t with
  | none => rw [subst_none h]; exact hq
  | some k =>
    rw [subst_some h, List.length_map, List.getD_eq_getElem?_getD]
    cases hk : args[k]? with
    | none => exact Nat.zero_le _
    | some a => exact ha a (List.mem_of_getElem? hk)
theorem flat_len {m : Mc} {args : List (List Wd)} {hid : List Bs} {q : Nat} (hq : 1 ≤ q) (ha : ∀ a ∈ args, a.length ≤ q) : ∀ l : List Tk, (l.flatMap (substG m args hid)).length ≤ l.length * q
  | [] => Nat.zero_le _
  | t :: l => by
    have h1 := subst_len hq ha (m := m) (hid := hid) t
    have h2 := flat_len hq ha (m := m) (hid := hid) l
    rw [List.flatMap_cons, List.length_append, List.length_cons, Nat.succ_mul]
    omega
theorem flatm_take {α β : Type} {f : α → List β} {l : List α} {i : Nat} (hi : i < l.length) : (l.take (i + 1)).flatMap f = (l.take i).flatMap f ++ f l[i] := by
  rw [List.take_add_one, List.getElem?_eq_getElem hi, List.flatMap_append]
  simp
theorem mapp_take {α β : Type} {f : α → β} {l : List α} {i : Nat} (hi : i < l.length) : (l.take (i + 1)).map f = (l.take i).map f ++ [f l[i]] := by
  rw [List.take_add_one, List.getElem?_eq_getElem hi, List.map_append]
  rfl
noncomputable def g_replR7 : List D → Option D := encSpec (fun x : Mc × (List Tk) × (List (List Wd)) × (List Bs) => [eMc x.1, .list (x.2.1.map eTk), .list (x.2.2.1.map eWrs), .list (x.2.2.2.map .str)]) (fun x : Mc × (List Tk) × (List (List Wd)) × (List Bs) => (x.1.params.length ≤ 1000000 ∧ x.2.2.1.length = x.1.params.length) ∧ (x.2.1.length ≤ 1000000 ∧ (∀ a ∈ x.2.2.1, a.length ≤ 1000000 ∧ ∀ w ∈ a, w.2.length ≤ 1000000000) ∧ x.2.2.2.length ≤ 1000000000)) (fun x : Mc × (List Tk) × (List (List Wd)) × (List Bs) => .list ((x.2.1.flatMap (substG x.1 x.2.2.1 x.2.2.2)).map eWr))
theorem g_replR7_eq {m : Mc} {body : List Tk} {args : List (List Wd)} {hid : List Bs} (hd : (m.params.length ≤ 1000000 ∧ args.length = m.params.length) ∧ (body.length ≤ 1000000 ∧ (∀ a ∈ args, a.length ≤ 1000000 ∧ ∀ w ∈ a, w.2.length ≤ 1000000000) ∧ hid.length ≤ 1000000000)) : g_replR7 [eMc m, .list (body.map eTk), .list (args.map eWrs), .list (hid.map .str)] = some (.list ((body.flatMap (substG m args hid)).map eWr)) := encSpec_eq (x := (m, body, args, hid)) hd fun y hy => by
    obtain ⟨y0, y1, y2, y3⟩ := y; simp only [List.cons.injEq, and_true, true_and, D.str.injEq, D.int.injEq, D.list.injEq, D.bool.injEq, D.agg.injEq, D.clo.injEq, Int.natCast_inj, inj_ie, D.ref.injEq, eU_e, eWr_e, eWr_ie, eWrs_ie, eTk_ie, eTk_e, eFl_ie, eSp_ie, eMc_e, eMc_ie] at hy
    (try obtain ⟨rfl, rfl, rfl, rfl⟩ := hy)
    (try subst_vars)
    rfl
theorem f_replR7_ok : PureOK Tryz.prog 45 false g_replR7 := by
  have hΓ := Γp f_bothR_ok (Γn)
  refine pure_enc (n := 77) (rs := [.tmp 8]) Tryz.func45 (by kernel_rfl) rfl (by kernel_rfl) (by kernel_rfl) ?_
  rintro ⟨m, body, args, hid⟩ hd
  (try dsimp only at hd ⊢)
  refine ⟨fun h => (by cases h), fun k hz0 => ?_⟩
  obtain ⟨mn, mp, m3, m4, m5⟩ := m
  obtain ⟨⟨d1, d2⟩, d3, d4, d5⟩ := hd
  dsimp only at d1 d2
  rw [eMc_eq]
  dsimp only
  generalize hM : (⟨mn, mp, m3, m4, m5⟩ : Mc) = M at *
  have hMp : M.params = mp := by rw [← hM]
  have hfl := flat_len (m := M) (args := args) (hid := hid) (q := 1000000) (by decide) (fun a ha => (d4 a ha).1)
  rw [start_frame (by simp)]; simp only [enumV, go_sem, emptyH]
  repeat (first
    | (apply axJ; (focus ((with_reducible constructor) <;> rfl)))
    | (apply awT mixedOK hΓ (by kernel_rfl); (simp (disch := omega) only [go_sem, ↓reduceIte, dk, ↓lk, Int.reduceBEq, Int.reduceBNe, Bool.true_bne, Bool.false_bne, Bool.not_true, Bool.not_false] <;> with_reducible rfl))
    | ((first | apply awR hΓ | apply awG | apply awH mixedOK hΓ rfl (by kernel_rfl) | apply ovE rfl); (simp (disch := omega) only [go_sem, ↓reduceIte, dk, ↓lk, Int.reduceBEq, Int.reduceBNe, Bool.true_bne, Bool.false_bne, Bool.not_true, Bool.not_false] <;> with_reducible rfl); exact trivial)
    | rfl)
  refine awp_weak (Weak.nilrowF (i := 9) 87 (sz := 3) (by omega) (by omega) rfl) ?_
  refine awp_loop_at (X := Nat) (fun i => (frame 77 [(2, .data (.list (args.map eWrs))), (3, .data (.list (hid.map .str))), (4, .ptr 0 0), (9, .row 6 ((body.take i).flatMap (substG M args hid)).length), (16, .data (.list (body.map eTk))), (17, .data (i64 body.length)), (18, .data (i64 i))])) (fun i => [(0, .box [.data (.str mn), .data (.list (mp.map .str)), .data (.str m3), .data (i64 m4), .data (i64 m5)]), (6, .row 87 3 (((body.take i).flatMap (substG M args hid)).map eWr))]) 7
    (fun i => i ≤ body.length) (fun i => body.length - i) 0 (Nat.zero_le _) (Weak.v (by (simp [ConvF, lookV, Conv, ints, upd, List.take_zero, List.flatMap_nil]; done)) (by (simp (disch := omega) only [TabSub, look, if_pos, if_neg, Obj.refsOK, refsOKs, AV.refsOK, decide_eq_true_eq, Bool.and_true, Bool.and_self, upd, List.take_zero, List.flatMap_nil] ) <;> ((repeat' apply And.intro) <;> first | exact True.intro | omega | (simp; done) | rfl))) ?_
  rintro i hi
  (try dsimp only at hi ⊢)
  by_cases hi2 : i < body.length
  case neg =>
    have hi3 : i = body.length := by omega
    subst hi3
    rw [List.take_length]
    repeat (first
      | (apply axJ; (focus ((with_reducible constructor) <;> rfl)))
      | (apply awT mixedOK hΓ (by kernel_rfl); (simp (disch := omega) only [go_sem, ↓reduceIte, dk, ↓lk, Int.reduceBEq, Int.reduceBNe, Bool.true_bne, Bool.false_bne, Bool.not_true, Bool.not_false] <;> with_reducible rfl))
      | ((first | apply awR hΓ | apply awG | apply awH mixedOK hΓ rfl (by kernel_rfl) | apply ovE rfl); (simp (disch := omega) only [go_sem, ↓reduceIte, dk, ↓lk, Int.reduceBEq, Int.reduceBNe, Bool.true_bne, Bool.false_bne, Bool.not_true, Bool.not_false] <;> with_reducible rfl); exact trivial)
      | rfl)
    try rfl
  have hft := flatm_take (f := substG M args hid) hi2
  have hfb := hfl (body.take i)
  rw [List.length_take] at hfb
  have hnn : atG M body[i] = none → substG M args hid body[i] = _ := fun h => subst_none h
  have hss : ∀ k, atG M body[i] = some k → substG M args hid body[i] = _ := fun k h => subst_some h
  generalize (body.take i).flatMap (substG M args hid) = A at *
  generalize hy : body[i] = y at *
  obtain ⟨y1, y2⟩ := y
  repeat (first
    | (apply axJ; (focus ((with_reducible constructor) <;> rfl)))
    | (apply awT mixedOK hΓ (by kernel_rfl); (simp (disch := omega) only [go_sem, ↓reduceIte, dk, ↓lk, Int.reduceBEq, Int.reduceBNe, Bool.true_bne, Bool.false_bne, Bool.not_true, Bool.not_false, hy] <;> with_reducible rfl))
    | ((first | apply awR hΓ | apply awG | apply awH mixedOK hΓ rfl (by kernel_rfl) | apply ovE rfl); (simp (disch := omega) only [go_sem, ↓reduceIte, dk, ↓lk, Int.reduceBEq, Int.reduceBNe, Bool.true_bne, Bool.false_bne, Bool.not_true, Bool.not_false, hy] <;> with_reducible rfl); exact trivial)
    | rfl)
  refine awp_loop_at (X := Nat) (fun j => (frame 77 [(2, .data (.list (args.map eWrs))), (3, .data (.list (hid.map .str))), (4, .ptr 0 0), (9, .row 6 A.length), (11, .ptr 10 0), (12, .data (i64 (atI (if y1 == 1 then (mp.take j).findIdx? (fun p => p == y2) else none)))), (16, .data (.list (body.map eTk))), (17, .data (i64 body.length)), (18, .data (i64 i)), (24, .data (i64 mp.length)), (25, .data (i64 j))])) (fun j => [(0, .box [.data (.str mn), .data (.list (mp.map .str)), .data (.str m3), .data (i64 m4), .data (i64 m5)]), (6, .row 87 3 (A.map eWr)), (10, .box [.data (i64 y1), .data (.str y2)])]) 17
    (fun j => j ≤ mp.length) (fun j => mp.length - j) 0 (Nat.zero_le _) (Weak.v (by (simp [ConvF, lookV, Conv, ints, List.take_zero, List.findIdx?_nil, ite_self, atI]; done)) (by (simp (disch := omega) only [TabSub, look, if_pos, if_neg, Obj.refsOK, refsOKs, AV.refsOK, decide_eq_true_eq, Bool.and_true, Bool.and_self, List.take_zero, List.findIdx?_nil, ite_self, atI] ) <;> ((repeat' apply And.intro) <;> first | exact True.intro | omega | (simp; done) | rfl))) ?_
  rintro j hj
  (try dsimp only at hj ⊢)
  by_cases hj2 : j < mp.length
  · have hfx := fidx_take (p := fun p => p == y2) hj2
    generalize hz : mp[j] = z at *
    cases k1 : (y1 == 1)
    · simp only [Bool.false_eq_true, if_false, atI]
      repeat (first
        | (apply axJ; (focus ((with_reducible constructor) <;> rfl)))
        | (apply awT mixedOK hΓ (by kernel_rfl); (simp (disch := omega) only [go_sem, ↓reduceIte, dk, ↓lk, Int.reduceBEq, Int.reduceBNe, Bool.true_bne, Bool.false_bne, Bool.not_true, Bool.not_false, hz, k1] <;> with_reducible rfl))
        | ((first | apply awR hΓ | apply awG | apply awH mixedOK hΓ rfl (by kernel_rfl) | apply ovE rfl); (simp (disch := omega) only [go_sem, ↓reduceIte, dk, ↓lk, Int.reduceBEq, Int.reduceBNe, Bool.true_bne, Bool.false_bne, Bool.not_true, Bool.not_false, hz, k1] <;> with_reducible rfl); exact trivial)
        | rfl)
      exact ⟨j + 1, by omega, by omega, by (try simp only [k1, Bool.false_eq_true, if_false, atI]); exact Weak.w⟩
    · simp only [if_true]
      cases hc : (mp.take j).findIdx? (fun p => p == y2) with
      | some k =>
        rw [hc] at hfx
        simp only [atI]
        repeat (first
          | (apply axJ; (focus ((with_reducible constructor) <;> rfl)))
          | (apply awT mixedOK hΓ (by kernel_rfl); (simp (disch := omega) only [go_sem, ↓reduceIte, dk, ↓lk, Int.reduceBEq, Int.reduceBNe, Bool.true_bne, Bool.false_bne, Bool.not_true, Bool.not_false, hz, k1] <;> with_reducible rfl))
          | ((first | apply awR hΓ | apply awG | apply awH mixedOK hΓ rfl (by kernel_rfl) | apply ovE rfl); (simp (disch := omega) only [go_sem, ↓reduceIte, dk, ↓lk, Int.reduceBEq, Int.reduceBNe, Bool.true_bne, Bool.false_bne, Bool.not_true, Bool.not_false, hz, k1] <;> with_reducible rfl); exact trivial)
          | rfl)
        exact ⟨j + 1, by omega, by omega, by (try simp only [k1, if_true, hfx, atI]); exact Weak.w⟩
      | none =>
        rw [hc] at hfx
        simp only [atI]
        dsimp only at hfx
        cases k2 : (z == y2)
        · rw [k2] at hfx
          simp only [Bool.false_eq_true, if_false] at hfx
          repeat (first
            | (apply axJ; (focus ((with_reducible constructor) <;> rfl)))
            | (apply awT mixedOK hΓ (by kernel_rfl); (simp (disch := omega) only [go_sem, ↓reduceIte, dk, ↓lk, Int.reduceBEq, Int.reduceBNe, Bool.true_bne, Bool.false_bne, Bool.not_true, Bool.not_false, hz, k1, k2] <;> with_reducible rfl))
            | ((first | apply awR hΓ | apply awG | apply awH mixedOK hΓ rfl (by kernel_rfl) | apply ovE rfl); (simp (disch := omega) only [go_sem, ↓reduceIte, dk, ↓lk, Int.reduceBEq, Int.reduceBNe, Bool.true_bne, Bool.false_bne, Bool.not_true, Bool.not_false, hz, k1, k2] <;> with_reducible rfl); exact trivial)
            | rfl)
          exact ⟨j + 1, by omega, by omega, by (try simp only [k1, if_true, hfx, atI]); exact Weak.w⟩
        · rw [k2] at hfx
          simp only [if_true] at hfx
          repeat (first
            | (apply axJ; (focus ((with_reducible constructor) <;> rfl)))
            | (apply awT mixedOK hΓ (by kernel_rfl); (simp (disch := omega) only [go_sem, ↓reduceIte, dk, ↓lk, Int.reduceBEq, Int.reduceBNe, Bool.true_bne, Bool.false_bne, Bool.not_true, Bool.not_false, hz, k1, k2] <;> with_reducible rfl))
            | ((first | apply awR hΓ | apply awG | apply awH mixedOK hΓ rfl (by kernel_rfl) | apply ovE rfl); (simp (disch := omega) only [go_sem, ↓reduceIte, dk, ↓lk, Int.reduceBEq, Int.reduceBNe, Bool.true_bne, Bool.false_bne, Bool.not_true, Bool.not_false, hz, k1, k2] <;> with_reducible rfl); exact trivial)
            | rfl)
          exact ⟨j + 1, by omega, by omega, by (try simp only [k1, if_true, hfx, atI]); exact Weak.w⟩
  have hj3 : j = mp.length := by omega
  subst hj3
  rw [List.take_length]
  have hat : atG M (y1, y2) = if y1 == 1 then mp.findIdx? (fun p => p == y2) else none := by unfold atG; rw [hMp]
  rw [← hat]
  cases hk : atG M (y1, y2) with
  | none =>
    rw [hnn hk] at hft
    simp only [atI]
    repeat (first
      | (apply axJ; (focus ((with_reducible constructor) <;> rfl)))
      | (apply awT mixedOK hΓ (by kernel_rfl); (simp (disch := omega) only [go_sem, ↓reduceIte, dk, ↓lk, Int.reduceBEq, Int.reduceBNe, Bool.true_bne, Bool.false_bne, Bool.not_true, Bool.not_false, ↓ty_build87] <;> with_reducible rfl))
      | ((first | apply awR hΓ | apply awG | apply awH mixedOK hΓ rfl (by kernel_rfl) | apply ovE rfl); (simp (disch := omega) only [go_sem, ↓reduceIte, dk, ↓lk, Int.reduceBEq, Int.reduceBNe, Bool.true_bne, Bool.false_bne, Bool.not_true, Bool.not_false, ↓ty_build87] <;> with_reducible rfl); exact trivial)
      | rfl)
    exact ⟨i + 1, by omega, by omega, by rw [hft]; exact Weak.v (by (simp [ConvF, lookV, Conv, ints, List.map_append, List.length_append, eWr_eq]; done)) (by (simp (disch := omega) only [TabSub, look, if_pos, if_neg, Obj.refsOK, refsOKs, AV.refsOK, decide_eq_true_eq, Bool.and_true, Bool.and_self, List.map_append, List.length_append, eWr_eq] ) <;> ((repeat' apply And.intro) <;> first | exact True.intro | omega | (simp; done) | rfl))⟩
  | some k =>
    have hkl := at_lt hk
    rw [hMp, ← d2] at hkl
    rw [hss k hk, List.getD_eq_getElem?_getD, List.getElem?_eq_getElem hkl, Option.getD_some] at hft
    obtain ⟨da, db⟩ := d4 _ (List.getElem_mem hkl)
    simp only [atI]
    generalize hx : args[k] = x at *
    have hxd : eWrs x = .list (x.map eWr) := rfl
    repeat (first
      | (apply axJ; (focus ((with_reducible constructor) <;> rfl)))
      | (apply awT mixedOK hΓ (by kernel_rfl); (simp (disch := omega) only [go_sem, ↓reduceIte, dk, ↓lk, Int.reduceBEq, Int.reduceBNe, Bool.true_bne, Bool.false_bne, Bool.not_true, Bool.not_false, Int.toNat_natCast, List.getElem_map, hx, hxd] <;> with_reducible rfl))
      | ((first | apply awR hΓ | apply awG | apply awH mixedOK hΓ rfl (by kernel_rfl) | apply ovE rfl); (simp (disch := omega) only [go_sem, ↓reduceIte, dk, ↓lk, Int.reduceBEq, Int.reduceBNe, Bool.true_bne, Bool.false_bne, Bool.not_true, Bool.not_false, Int.toNat_natCast, List.getElem_map, hx, hxd] <;> with_reducible rfl); exact trivial)
      | rfl)
    refine awp_loop_at (X := Nat) (fun q => (frame 77 [(2, .data (.list (args.map eWrs))), (3, .data (.list (hid.map .str))), (4, .ptr 0 0), (9, .row 6 (A ++ (x.take q).map (argM hid)).length), (16, .data (.list (body.map eTk))), (17, .data (i64 body.length)), (18, .data (i64 i)), (58, .data (.list (x.map eWr))), (59, .data (i64 x.length)), (60, .data (i64 q))])) (fun q => [(0, .box [.data (.str mn), .data (.list (mp.map .str)), .data (.str m3), .data (i64 m4), .data (i64 m5)]), (6, .row 87 3 ((A ++ (x.take q).map (argM hid)).map eWr))]) 24
      (fun q => q ≤ x.length) (fun q => x.length - q) 0 (Nat.zero_le _) (Weak.v (by (simp [ConvF, lookV, Conv, ints, List.take_zero, List.map_nil, List.append_nil]; done)) (by (simp (disch := omega) only [TabSub, look, if_pos, if_neg, Obj.refsOK, refsOKs, AV.refsOK, decide_eq_true_eq, Bool.and_true, Bool.and_self, List.take_zero, List.map_nil, List.append_nil] ) <;> ((repeat' apply And.intro) <;> first | exact True.intro | omega | (simp; done) | rfl))) ?_
    rintro q hq
    (try dsimp only at hq ⊢)
    by_cases hq2 : q < x.length
    · have hmt := mapp_take (f := argM hid) hq2
      have dbq := db _ (List.getElem_mem hq2)
      have hml : ((x.take q).map (argM hid)).length = q := by rw [List.length_map, List.length_take]; omega
      generalize (x.take q).map (argM hid) = Z at *
      generalize hz : x[q] = z at *
      obtain ⟨⟨z1, z2⟩, z3⟩ := z
      have e1 := g_bothR_eq (a := hid) (b := z3) ⟨d5, dbq⟩
      have harg : argM hid ((z1, z2), z3) = ((z1, z2), bothB hid z3) := rfl
      have hAl : (A ++ Z).length = A.length + q := by rw [List.length_append, hml]
      generalize bothB hid z3 = h3 at *
      have hmm : (A ++ (Z ++ [((z1, z2), h3)])).map eWr = (A ++ Z).map eWr ++ [.agg [i64 z1, .str z2, .list (h3.map .str)]] := by rw [← List.append_assoc, List.map_append]; rfl
      have hml2 : (A ++ (Z ++ [((z1, z2), h3)])).length = (A ++ Z).length + 1 := by rw [← List.append_assoc, List.length_append]; rfl
      generalize hAZ : A ++ Z = Y at *
      repeat (first
        | (apply axJ; (focus ((with_reducible constructor) <;> rfl)))
        | (apply awT mixedOK hΓ (by kernel_rfl); (simp (disch := omega) only [go_sem, ↓reduceIte, dk, ↓lk, Int.reduceBEq, Int.reduceBNe, Bool.true_bne, Bool.false_bne, Bool.not_true, Bool.not_false, hz] <;> with_reducible rfl))
        | ((first | apply awR hΓ | apply awG | apply awH mixedOK hΓ rfl (by kernel_rfl) | apply ovE rfl); (simp (disch := omega) only [go_sem, ↓reduceIte, dk, ↓lk, Int.reduceBEq, Int.reduceBNe, Bool.true_bne, Bool.false_bne, Bool.not_true, Bool.not_false, hz] <;> with_reducible rfl); exact trivial)
        | rfl)
      (apply awp_regm (nst := false) (nst' := false) 9 mixedOK hΓ (by kernel_rfl); (simp (disch := omega) only [go_sem, ↓reduceIte, ↓lk, dk, ↓ty_build87, e1, look_upd] <;> with_reducible rfl); (simp (disch := omega) only [go_sem, ↓reduceIte] <;> with_reducible rfl); (focus rfl); (focus rfl); (simp (disch := omega) only [go_sem, ↓reduceIte, ↓lk, dk, ↓ty_build87, e1, look_upd] <;> with_reducible rfl); (focus (first | (simp (disch := omega) only [go_sem, ↓reduceIte, ↓lk, dk, ↓ty_build87, e1, look_upd]; done) | (simp (disch := omega) only [go_sem, ↓reduceIte, ↓lk, dk, ↓ty_build87, e1, look_upd]; omega))); (focus (dsimp only [List.take_succ_cons, List.take_zero]; (repeat (apply same2_cons; (focus (first | (left; decide) | (right; simp (disch := omega) only [go_sem, ↓reduceIte, ↓lk, dk, ↓ty_build87, e1, look_upd]; done))); (simp (disch := omega) only [go_sem, ↓reduceIte, ↓lk, dk, ↓ty_build87, e1, look_upd] <;> with_reducible rfl))); exact same2_nil)); (simp (disch := omega) only [go_sem, ↓reduceIte, ↓lk, dk, ↓ty_build87, e1, look_upd] <;> with_reducible rfl))
      repeat (first
        | (apply axJ; (focus ((with_reducible constructor) <;> rfl)))
        | (apply awT mixedOK hΓ (by kernel_rfl); (simp (disch := omega) only [go_sem, ↓reduceIte, dk, ↓lk, Int.reduceBEq, Int.reduceBNe, Bool.true_bne, Bool.false_bne, Bool.not_true, Bool.not_false] <;> with_reducible rfl))
        | ((first | apply awR hΓ | apply awG | apply awH mixedOK hΓ rfl (by kernel_rfl) | apply ovE rfl); (simp (disch := omega) only [go_sem, ↓reduceIte, dk, ↓lk, Int.reduceBEq, Int.reduceBNe, Bool.true_bne, Bool.false_bne, Bool.not_true, Bool.not_false] <;> with_reducible rfl); exact trivial)
        | rfl)
      exact ⟨q + 1, by omega, by omega, by rw [hmt, harg, hmm, hml2]; exact Weak.w⟩
    have hq3 : q = x.length := by omega
    subst hq3
    rw [List.take_length, ← hft]
    repeat (first
      | (apply axJ; (focus ((with_reducible constructor) <;> rfl)))
      | (apply awT mixedOK hΓ (by kernel_rfl); (simp (disch := omega) only [go_sem, ↓reduceIte, dk, ↓lk, Int.reduceBEq, Int.reduceBNe, Bool.true_bne, Bool.false_bne, Bool.not_true, Bool.not_false] <;> with_reducible rfl))
      | ((first | apply awR hΓ | apply awG | apply awH mixedOK hΓ rfl (by kernel_rfl) | apply ovE rfl); (simp (disch := omega) only [go_sem, ↓reduceIte, dk, ↓lk, Int.reduceBEq, Int.reduceBNe, Bool.true_bne, Bool.false_bne, Bool.not_true, Bool.not_false] <;> with_reducible rfl); exact trivial)
      | rfl)
    exact ⟨i + 1, by omega, by omega, Weak.w⟩
end Go.Ab
namespace Go.Ab
open Go Go.RowKit Go.Proofs
set_option maxRecDepth 10000
set_option maxHeartbeats 16000000
def eAr (o : Option (List (List Wd) × List Wd)) (n : Nat) : D := match o with
  | some (a, r) => .tup [.list (a.map eWrs), i64 ((n : Int) - (r.length : Int)), i64 0]
  | none => .tup [.list [], i64 0, i64 4]
theorem sy_excl {w : Wd} {s t : Bs} (h : isSy w s = true) (hne : (s == t) = false) : isSy w t = false := by
  unfold isSy at h ⊢
  simp only [Bool.and_eq_true, beq_iff_eq] at h
  rw [h.2, hne, Bool.and_false]
theorem argsGo_eq (d : Nat) (one : List Wd) (out : List (List Wd)) (w : Wd) (r : List Wd) : argsGo d one out (w :: r) = if d == 0 && (isSy w [41] || isSy w [44])
    then (if one.isEmpty then none else if isSy w [41] then some (out ++ [one], r) else argsGo 0 [] (out ++ [one]) r)
    else argsGo (if isSy w [40] then d + 1 else if isSy w [41] then d - 1 else d) (one ++ [w]) out r := by
  rw [argsGo]
theorem empty_len {α : Type} (l : List α) : (((l.length : Nat) : Int) == 0) = l.isEmpty := by
  cases l with
  | nil => rfl
  | cons a l =>
    rw [List.isEmpty_cons, beq_eq_false_iff_ne, List.length_cons]
    omega
noncomputable def g_argsR7 : List D → Option D := encSpec (fun x : (List Wd) × Nat => [.list (x.1.map eWr), i64 x.2]) (fun x : (List Wd) × Nat => x.1.length ≤ 1000000 ∧ x.2 < x.1.length) (fun x : (List Wd) × Nat => eAr (argsG (x.1.drop (x.2 + 1))) x.1.length)
theorem g_argsR7_eq {l : List Wd} {p : Nat} (hd : l.length ≤ 1000000 ∧ p < l.length) : g_argsR7 [.list (l.map eWr), .int .i64 p] = some (eAr (argsG (l.drop (p + 1))) l.length) := encSpec_eq (x := (l, p)) hd fun y hy => by
    obtain ⟨y0, y1⟩ := y; simp only [List.cons.injEq, and_true, true_and, D.str.injEq, D.int.injEq, D.list.injEq, D.bool.injEq, D.agg.injEq, D.clo.injEq, Int.natCast_inj, inj_ie, D.ref.injEq, eU_e, eWr_e, eWr_ie, eWrs_ie, eTk_ie, eTk_e, eFl_ie, eSp_ie, eMc_e, eMc_ie] at hy
    (try obtain ⟨rfl, rfl⟩ := hy)
    (try subst_vars)
    rfl
theorem f_argsR7_ok : PureOK Tryz.prog 44 false g_argsR7 := by
  have hΓ := Γp f_symR7_ok (Γn)
  refine pure_enc (n := 86) (rs := [.tmp 4, .tmp 5, .tmp 6]) Tryz.func44 (by kernel_rfl) rfl (by kernel_rfl) (by kernel_rfl) ?_
  rintro ⟨l, p⟩ hd
  (try dsimp only at hd ⊢)
  refine ⟨fun h => (by cases h), fun k hz0 => ?_⟩
  obtain ⟨d1, d2⟩ := hd
  rw [start_frame (by simp)]; simp only [enumV, go_sem, emptyH]
  by_cases h1 : p + 1 < l.length
  case neg =>
    have k1 : decide ((p : Int) + 1 ≥ (l.length : Int)) = true := decide_eq_true (by omega)
    rw [List.drop_eq_nil_of_le (by omega)]
    repeat (first
      | (apply axJ; (focus ((with_reducible constructor) <;> rfl)))
      | (apply awT mixedOK hΓ (by kernel_rfl); (simp (disch := omega) only [go_sem, ↓reduceIte, dk, ↓lk, Int.reduceBEq, Int.reduceBNe, Bool.true_bne, Bool.false_bne, Bool.not_true, Bool.not_false, k1] <;> with_reducible rfl))
      | ((first | apply awR hΓ | apply awG | apply awH mixedOK hΓ rfl (by kernel_rfl) | apply ovE rfl); (simp (disch := omega) only [go_sem, ↓reduceIte, dk, ↓lk, Int.reduceBEq, Int.reduceBNe, Bool.true_bne, Bool.false_bne, Bool.not_true, Bool.not_false, k1] <;> with_reducible rfl); exact trivial)
      | rfl)
    try rfl
  have k1 : decide ((p : Int) + 1 ≥ (l.length : Int)) = false := decide_eq_false (by omega)
  have hdr := List.drop_eq_getElem_cons h1
  have e1 := g_symR7_eq (w := l[p + 1]) (s := [40]) trivial
  rw [hdr, argsG]
  have hpn : ((p : Int) + 1).toNat = p + 1 := by omega
  generalize hy : l[p + 1] = y at *
  cases k2 : isSy y [40]
  · rw [k2] at e1
    simp only [Bool.false_eq_true, if_false]
    rw [eWr_eq] at e1
    repeat (first
      | (apply axJ; (focus ((with_reducible constructor) <;> rfl)))
      | (apply awT mixedOK hΓ (by kernel_rfl); (simp (disch := omega) only [go_sem, ↓reduceIte, dk, ↓lk, Int.reduceBEq, Int.reduceBNe, Bool.true_bne, Bool.false_bne, Bool.not_true, Bool.not_false, k1, hpn, hy, e1] <;> with_reducible rfl))
      | ((first | apply awR hΓ | apply awG | apply awH mixedOK hΓ rfl (by kernel_rfl) | apply ovE rfl); (simp (disch := omega) only [go_sem, ↓reduceIte, dk, ↓lk, Int.reduceBEq, Int.reduceBNe, Bool.true_bne, Bool.false_bne, Bool.not_true, Bool.not_false, k1, hpn, hy, e1] <;> with_reducible rfl); exact trivial)
      | rfl)
    try rfl
  rw [k2, eWr_eq] at e1
  simp only [if_true]
  repeat (first
    | (apply axJ; (focus ((with_reducible constructor) <;> rfl)))
    | (apply awT mixedOK hΓ (by kernel_rfl); (simp (disch := omega) only [go_sem, ↓reduceIte, dk, ↓lk, Int.reduceBEq, Int.reduceBNe, Bool.true_bne, Bool.false_bne, Bool.not_true, Bool.not_false, k1, hpn, hy, e1] <;> with_reducible rfl))
    | ((first | apply awR hΓ | apply awG | apply awH mixedOK hΓ rfl (by kernel_rfl) | apply ovE rfl); (simp (disch := omega) only [go_sem, ↓reduceIte, dk, ↓lk, Int.reduceBEq, Int.reduceBNe, Bool.true_bne, Bool.false_bne, Bool.not_true, Bool.not_false, k1, hpn, hy, e1] <;> with_reducible rfl); exact trivial)
    | rfl)
  refine awp_weak (Weak.nilrowF (i := 7) 85 (sz := 1) (by omega) (by omega) rfl) ?_
  refine awp_weak (Weak.nilrowF (i := 8) 87 (sz := 3) (by omega) (by omega) rfl) ?_
  refine awp_loop_at (X := Nat × List Wd × List (List Wd) × Nat) (fun y => (frame 86 [(0, .data (.list (l.map eWr))), (7, .row 23 y.2.2.1.length), (8, .row 24 y.2.1.length), (9, .data (i64 y.1)), (10, .data (i64 y.2.2.2))])) (fun y => [(24, .row 87 3 (y.2.1.map eWr)), (23, .row 85 1 (y.2.2.1.map eWrs))]) 25
    (fun y => y.2.2.2 ≤ l.length ∧ argsGo 0 [] [] (l.drop (p + 1 + 1)) = argsGo y.1 y.2.1 y.2.2.1 (l.drop y.2.2.2) ∧ y.2.1.length ≤ y.2.2.2 ∧ y.2.2.1.length ≤ y.2.2.2 ∧ y.1 ≤ y.2.2.2) (fun y => l.length - y.2.2.2) (0, [], [], p + 2) ⟨by dsimp only; omega, rfl, Nat.zero_le _, Nat.zero_le _, Nat.zero_le _⟩ (Weak.v (by (simp [ConvF, lookV, Conv, ints, upd]; done)) (by (simp (disch := omega) only [TabSub, look, if_pos, if_neg, Obj.refsOK, refsOKs, AV.refsOK, decide_eq_true_eq, Bool.and_true, Bool.and_self, upd] ) <;> ((repeat' apply And.intro) <;> first | exact True.intro | omega | (simp; done) | rfl))) ?_
  rintro ⟨d, one, out, i⟩ ⟨hi, hpre, hl1, hl2, hl3⟩
  (try dsimp only at hi hpre hl1 hl2 hl3 ⊢)
  by_cases hi2 : i < l.length
  case neg =>
    have hi3 : i = l.length := by omega
    subst hi3
    rw [List.drop_length, argsGo] at hpre
    rw [hpre]
    repeat (first
      | (apply axJ; (focus ((with_reducible constructor) <;> rfl)))
      | (apply awT mixedOK hΓ (by kernel_rfl); (simp (disch := omega) only [go_sem, ↓reduceIte, dk, ↓lk, Int.reduceBEq, Int.reduceBNe, Bool.true_bne, Bool.false_bne, Bool.not_true, Bool.not_false] <;> with_reducible rfl))
      | ((first | apply awR hΓ | apply awG | apply awH mixedOK hΓ rfl (by kernel_rfl) | apply ovE rfl); (simp (disch := omega) only [go_sem, ↓reduceIte, dk, ↓lk, Int.reduceBEq, Int.reduceBNe, Bool.true_bne, Bool.false_bne, Bool.not_true, Bool.not_false] <;> with_reducible rfl); exact trivial)
      | rfl)
    try rfl
  have hdi := List.drop_eq_getElem_cons hi2
  have hlr : (l.drop (i + 1)).length = l.length - (i + 1) := List.length_drop
  have s1 := g_symR7_eq (w := l[i]) (s := [40]) trivial
  have s2 := g_symR7_eq (w := l[i]) (s := [41]) trivial
  have s3 := g_symR7_eq (w := l[i]) (s := [44]) trivial
  have x1 : isSy l[i] [40] = true → isSy l[i] [41] = false := fun h => sy_excl h rfl
  have x2 : isSy l[i] [40] = true → isSy l[i] [44] = false := fun h => sy_excl h rfl
  rw [hdi, argsGo_eq] at hpre
  generalize hz : l[i] = z at *
  rw [eWr_eq] at s1 s2 s3
  have hmz : ∀ o : List Wd, (o ++ [z]).map eWr = o.map eWr ++ [.agg [i64 z.1.1, .str z.1.2, .list (z.2.map .str)]] := fun o => by rw [List.map_append]; rfl
  have hd00 : (((0 : Nat) : Int) == 0) = true := rfl
  have hmo : (out ++ [one]).map eWrs = out.map eWrs ++ [.list (one.map eWr)] := by rw [List.map_append]; rfl
  cases c2 : isSy z [41]
  case true =>
    have c1 : isSy z [40] = false := by
      cases h : isSy z [40] with
      | false => rfl
      | true => rw [x1 h] at c2; cases c2
    rw [c2] at s2
    rw [c1] at s1
    rw [c1, c2] at hpre
    by_cases hd0 : d = 0
    · subst hd0
      simp only [Bool.true_or, Bool.and_true, beq_self_eq_true, if_true] at hpre
      cases he : one.isEmpty
      case true =>
        rw [he] at hpre
        simp only [if_true] at hpre
        have hel := empty_len one
        rw [he] at hel
        rw [hpre]
        repeat (first
          | (apply axJ; (focus ((with_reducible constructor) <;> rfl)))
          | (apply awT mixedOK hΓ (by kernel_rfl); (simp (disch := omega) only [go_sem, ↓reduceIte, dk, ↓lk, Int.reduceBEq, Int.reduceBNe, Bool.true_bne, Bool.false_bne, Bool.not_true, Bool.not_false, Int.toNat_natCast, hz, s1, s2, s3, hd00, hel] <;> with_reducible rfl))
          | ((first | apply awR hΓ | apply awG | apply awH mixedOK hΓ rfl (by kernel_rfl) | apply ovE rfl); (simp (disch := omega) only [go_sem, ↓reduceIte, dk, ↓lk, Int.reduceBEq, Int.reduceBNe, Bool.true_bne, Bool.false_bne, Bool.not_true, Bool.not_false, Int.toNat_natCast, hz, s1, s2, s3, hd00, hel] <;> with_reducible rfl); exact trivial)
          | rfl)
        try rfl
      rw [he] at hpre
      simp only [Bool.false_eq_true, if_false] at hpre
      have hel := empty_len one
      rw [he] at hel
      rw [hpre]
      repeat (first
        | (apply axJ; (focus ((with_reducible constructor) <;> rfl)))
        | (apply awT mixedOK hΓ (by kernel_rfl); (simp (disch := omega) only [go_sem, ↓reduceIte, dk, ↓lk, Int.reduceBEq, Int.reduceBNe, Bool.true_bne, Bool.false_bne, Bool.not_true, Bool.not_false, Int.toNat_natCast, hz, s1, s2, s3, hd00, hel] <;> with_reducible rfl))
        | ((first | apply awR hΓ | apply awG | apply awH mixedOK hΓ rfl (by kernel_rfl) | apply ovE rfl); (simp (disch := omega) only [go_sem, ↓reduceIte, dk, ↓lk, Int.reduceBEq, Int.reduceBNe, Bool.true_bne, Bool.false_bne, Bool.not_true, Bool.not_false, Int.toNat_natCast, hz, s1, s2, s3, hd00, hel] <;> with_reducible rfl); exact trivial)
        | rfl)
      refine awp_weak ((Weak.freeze (o := 24) rfl).trans (show Weak _ _ _ ((frame 86 [(0, .data (.list (l.map eWr))), (7, .row 23 out.length), (8, .data (.list (one.map eWr))), (9, .data (i64 ((0 : Nat) : Int))), (10, .data (i64 i))])) ⟨[(23, .row 85 1 (out.map eWrs))], 49⟩ from Weak.v (by (simp [ConvF, lookV, Conv, ints, upd, Heap.set, Heap.get, look]; done)) (by (simp (disch := omega) only [TabSub, look, if_pos, if_neg, Obj.refsOK, refsOKs, AV.refsOK, decide_eq_true_eq, Bool.and_true, Bool.and_self, upd, Heap.set, Heap.get, look] ) <;> ((repeat' apply And.intro) <;> first | exact True.intro | omega | (simp; done) | rfl)))) ?_
      unfold eAr
      dsimp only
      rw [hmo, hlr]
      have hii : ((l.length : Nat) : Int) - ((l.length - (i + 1) : Nat) : Int) = (i : Int) + 1 := by omega
      rw [hii]
      repeat (first
        | (apply axJ; (focus ((with_reducible constructor) <;> rfl)))
        | (apply awT mixedOK hΓ (by kernel_rfl); (simp (disch := omega) only [go_sem, ↓reduceIte, dk, ↓lk, Int.reduceBEq, Int.reduceBNe, Bool.true_bne, Bool.false_bne, Bool.not_true, Bool.not_false, Int.toNat_natCast, hz, s1, s2, s3] <;> with_reducible rfl))
        | ((first | apply awR hΓ | apply awG | apply awH mixedOK hΓ rfl (by kernel_rfl) | apply ovE rfl); (simp (disch := omega) only [go_sem, ↓reduceIte, dk, ↓lk, Int.reduceBEq, Int.reduceBNe, Bool.true_bne, Bool.false_bne, Bool.not_true, Bool.not_false, Int.toNat_natCast, hz, s1, s2, s3] <;> with_reducible rfl); exact trivial)
        | rfl)
      try rfl
    · have hd1 : ((d : Int) == 0) = false := by rw [beq_eq_false_iff_ne]; omega
      have hd2 : (d == 0) = false := by rw [beq_eq_false_iff_ne]; exact hd0
      rw [hd2] at hpre
      simp only [Bool.false_and, Bool.false_eq_true, if_false, if_true] at hpre
      repeat (first
        | (apply axJ; (focus ((with_reducible constructor) <;> rfl)))
        | (apply awT mixedOK hΓ (by kernel_rfl); (simp (disch := omega) only [go_sem, ↓reduceIte, dk, ↓lk, Int.reduceBEq, Int.reduceBNe, Bool.true_bne, Bool.false_bne, Bool.not_true, Bool.not_false, Int.toNat_natCast, hz, s1, s2, s3, hd1] <;> with_reducible rfl))
        | ((first | apply awR hΓ | apply awG | apply awH mixedOK hΓ rfl (by kernel_rfl) | apply ovE rfl); (simp (disch := omega) only [go_sem, ↓reduceIte, dk, ↓lk, Int.reduceBEq, Int.reduceBNe, Bool.true_bne, Bool.false_bne, Bool.not_true, Bool.not_false, Int.toNat_natCast, hz, s1, s2, s3, hd1] <;> with_reducible rfl); exact trivial)
        | rfl)
      refine ⟨(d - 1, one ++ [z], out, i + 1), ⟨by dsimp only; omega, hpre, by dsimp only; rw [List.length_append]; simp only [List.length_cons, List.length_nil]; omega, by dsimp only; omega, by dsimp only; omega⟩, by dsimp only; omega, ?_⟩
      dsimp only
      rw [hmz, show ((d - 1 : Nat) : Int) = (d : Int) - 1 by omega]
      exact Weak.v (by (simp [ConvF, lookV, Conv, ints, List.length_append]; done)) (by (simp (disch := omega) only [TabSub, look, if_pos, if_neg, Obj.refsOK, refsOKs, AV.refsOK, decide_eq_true_eq, Bool.and_true, Bool.and_self, List.length_append] ) <;> ((repeat' apply And.intro) <;> first | exact True.intro | omega | (simp; done) | rfl))
  rw [c2] at s2
  rw [c2] at hpre
  cases c3 : isSy z [44]
  case true =>
    have c1 : isSy z [40] = false := by
      cases h : isSy z [40] with
      | false => rfl
      | true => rw [x2 h] at c3; cases c3
    rw [c3] at s3
    rw [c1] at s1
    rw [c1, c3] at hpre
    by_cases hd0 : d = 0
    · subst hd0
      simp only [Bool.false_or, Bool.and_true, beq_self_eq_true, if_true, Bool.false_eq_true, if_false] at hpre
      cases he : one.isEmpty
      case true =>
        rw [he] at hpre
        simp only [if_true] at hpre
        have hel := empty_len one
        rw [he] at hel
        rw [hpre]
        repeat (first
          | (apply axJ; (focus ((with_reducible constructor) <;> rfl)))
          | (apply awT mixedOK hΓ (by kernel_rfl); (simp (disch := omega) only [go_sem, ↓reduceIte, dk, ↓lk, Int.reduceBEq, Int.reduceBNe, Bool.true_bne, Bool.false_bne, Bool.not_true, Bool.not_false, Int.toNat_natCast, hz, s1, s2, s3, hd00, hel] <;> with_reducible rfl))
          | ((first | apply awR hΓ | apply awG | apply awH mixedOK hΓ rfl (by kernel_rfl) | apply ovE rfl); (simp (disch := omega) only [go_sem, ↓reduceIte, dk, ↓lk, Int.reduceBEq, Int.reduceBNe, Bool.true_bne, Bool.false_bne, Bool.not_true, Bool.not_false, Int.toNat_natCast, hz, s1, s2, s3, hd00, hel] <;> with_reducible rfl); exact trivial)
          | rfl)
        try rfl
      rw [he] at hpre
      simp only [Bool.false_eq_true, if_false] at hpre
      have hel := empty_len one
      rw [he] at hel
      repeat (first
        | (apply axJ; (focus ((with_reducible constructor) <;> rfl)))
        | (apply awT mixedOK hΓ (by kernel_rfl); (simp (disch := omega) only [go_sem, ↓reduceIte, dk, ↓lk, Int.reduceBEq, Int.reduceBNe, Bool.true_bne, Bool.false_bne, Bool.not_true, Bool.not_false, Int.toNat_natCast, hz, s1, s2, s3, hd00, hel] <;> with_reducible rfl))
        | ((first | apply awR hΓ | apply awG | apply awH mixedOK hΓ rfl (by kernel_rfl) | apply ovE rfl); (simp (disch := omega) only [go_sem, ↓reduceIte, dk, ↓lk, Int.reduceBEq, Int.reduceBNe, Bool.true_bne, Bool.false_bne, Bool.not_true, Bool.not_false, Int.toNat_natCast, hz, s1, s2, s3, hd00, hel] <;> with_reducible rfl); exact trivial)
        | rfl)
      refine awp_weak ((Weak.freeze (o := 24) rfl).trans (show Weak _ _ _ ((frame 86 [(0, .data (.list (l.map eWr))), (7, .row 23 out.length), (8, .data (.list (one.map eWr))), (9, .data (i64 ((0 : Nat) : Int))), (10, .data (i64 i))])) ⟨[(23, .row 85 1 (out.map eWrs))], 49⟩ from Weak.v (by (simp [ConvF, lookV, Conv, ints, upd, Heap.set, Heap.get, look]; done)) (by (simp (disch := omega) only [TabSub, look, if_pos, if_neg, Obj.refsOK, refsOKs, AV.refsOK, decide_eq_true_eq, Bool.and_true, Bool.and_self, upd, Heap.set, Heap.get, look] ) <;> ((repeat' apply And.intro) <;> first | exact True.intro | omega | (simp; done) | rfl)))) ?_
      repeat (first
        | (apply axJ; (focus ((with_reducible constructor) <;> rfl)))
        | (apply awT mixedOK hΓ (by kernel_rfl); (simp (disch := omega) only [go_sem, ↓reduceIte, dk, ↓lk, Int.reduceBEq, Int.reduceBNe, Bool.true_bne, Bool.false_bne, Bool.not_true, Bool.not_false, Int.toNat_natCast, hz, s1, s2, s3] <;> with_reducible rfl))
        | ((first | apply awR hΓ | apply awG | apply awH mixedOK hΓ rfl (by kernel_rfl) | apply ovE rfl); (simp (disch := omega) only [go_sem, ↓reduceIte, dk, ↓lk, Int.reduceBEq, Int.reduceBNe, Bool.true_bne, Bool.false_bne, Bool.not_true, Bool.not_false, Int.toNat_natCast, hz, s1, s2, s3] <;> with_reducible rfl); exact trivial)
        | rfl)
      refine ⟨(0, [], out ++ [one], i + 1), ⟨by dsimp only; omega, hpre, by dsimp only; simp, by dsimp only; rw [List.length_append]; simp only [List.length_cons, List.length_nil]; omega, by dsimp only; omega⟩, by dsimp only; omega, ?_⟩
      dsimp only
      rw [hmo]
      refine Weak.trans (s2 := (frame 86 [(0, .data (.list (l.map eWr))), (7, .row 23 (out ++ [one]).length), (8, .nils), (9, .data (i64 ((0 : Nat) : Int))), (10, .data (i64 ((i + 1 : Nat) : Int)))])) (H2 := ⟨[(23, .row 85 1 (out.map eWrs ++ [.list (one.map eWr)]))], 63⟩) (Weak.v (by (simp [ConvF, lookV, Conv, ints, List.length_append]; done)) (by (simp (disch := omega) only [TabSub, look, if_pos, if_neg, Obj.refsOK, refsOKs, AV.refsOK, decide_eq_true_eq, Bool.and_true, Bool.and_self, List.length_append] ) <;> ((repeat' apply And.intro) <;> first | exact True.intro | omega | (simp; done) | rfl))) ?_
      refine Weak.trans (Weak.nilrowF (i := 8) 87 (sz := 3) (by omega) (by omega) rfl) ?_
      refine Weak.trans (s2 := (frame 86 [(8, .row 63 0), (0, .data (.list (l.map eWr))), (7, .row 23 (out ++ [one]).length), (9, .data (i64 ((0 : Nat) : Int))), (10, .data (i64 ((i + 1 : Nat) : Int)))])) (H2 := ⟨[(63, .row 87 3 []), (23, .row 85 1 (out.map eWrs ++ [.list (one.map eWr)]))], 64⟩) (Weak.v (by (simp [ConvF, lookV, Conv, ints, upd]; done)) (by (simp (disch := omega) only [TabSub, look, if_pos, if_neg, Obj.refsOK, refsOKs, AV.refsOK, decide_eq_true_eq, Bool.and_true, Bool.and_self, upd] ) <;> ((repeat' apply And.intro) <;> first | exact True.intro | omega | (simp; done) | rfl))) ?_
      refine Weak.trans (Weak.mvK (o0 := 24) (n' := 25) rfl (by omega) (by omega) (by omega) (by omega) (by omega) rfl) (Weak.w)
    · have hd1 : ((d : Int) == 0) = false := by rw [beq_eq_false_iff_ne]; omega
      have hd2 : (d == 0) = false := by rw [beq_eq_false_iff_ne]; exact hd0
      rw [hd2] at hpre
      simp only [Bool.false_and, Bool.false_eq_true, if_false] at hpre
      repeat (first
        | (apply axJ; (focus ((with_reducible constructor) <;> rfl)))
        | (apply awT mixedOK hΓ (by kernel_rfl); (simp (disch := omega) only [go_sem, ↓reduceIte, dk, ↓lk, Int.reduceBEq, Int.reduceBNe, Bool.true_bne, Bool.false_bne, Bool.not_true, Bool.not_false, Int.toNat_natCast, hz, s1, s2, s3, hd1] <;> with_reducible rfl))
        | ((first | apply awR hΓ | apply awG | apply awH mixedOK hΓ rfl (by kernel_rfl) | apply ovE rfl); (simp (disch := omega) only [go_sem, ↓reduceIte, dk, ↓lk, Int.reduceBEq, Int.reduceBNe, Bool.true_bne, Bool.false_bne, Bool.not_true, Bool.not_false, Int.toNat_natCast, hz, s1, s2, s3, hd1] <;> with_reducible rfl); exact trivial)
        | rfl)
      refine ⟨(d, one ++ [z], out, i + 1), ⟨by dsimp only; omega, hpre, by dsimp only; rw [List.length_append]; simp only [List.length_cons, List.length_nil]; omega, by dsimp only; omega, by dsimp only; omega⟩, by dsimp only; omega, ?_⟩
      dsimp only
      rw [hmz]
      exact Weak.v (by (simp [ConvF, lookV, Conv, ints, List.length_append]; done)) (by (simp (disch := omega) only [TabSub, look, if_pos, if_neg, Obj.refsOK, refsOKs, AV.refsOK, decide_eq_true_eq, Bool.and_true, Bool.and_self, List.length_append] ) <;> ((repeat' apply And.intro) <;> first | exact True.intro | omega | (simp; done) | rfl))
  rw [c3] at s3 hpre
  simp only [Bool.or_self, Bool.and_false, Bool.false_eq_true, if_false] at hpre
  cases hd2 : (d == 0)
  all_goals
    have hd1 : ((d : Int) == 0) = (d == 0) := by rw [Bool.eq_iff_iff, beq_iff_eq, beq_iff_eq]; omega
    rw [hd2] at hd1
    cases c1 : isSy z [40]
    · rw [c1] at s1 hpre
      simp only [Bool.false_eq_true, if_false] at hpre
      repeat (first
        | (apply axJ; (focus ((with_reducible constructor) <;> rfl)))
        | (apply awT mixedOK hΓ (by kernel_rfl); (simp (disch := omega) only [go_sem, ↓reduceIte, dk, ↓lk, Int.reduceBEq, Int.reduceBNe, Bool.true_bne, Bool.false_bne, Bool.not_true, Bool.not_false, Int.toNat_natCast, hz, s1, s2, s3, hd1] <;> with_reducible rfl))
        | ((first | apply awR hΓ | apply awG | apply awH mixedOK hΓ rfl (by kernel_rfl) | apply ovE rfl); (simp (disch := omega) only [go_sem, ↓reduceIte, dk, ↓lk, Int.reduceBEq, Int.reduceBNe, Bool.true_bne, Bool.false_bne, Bool.not_true, Bool.not_false, Int.toNat_natCast, hz, s1, s2, s3, hd1] <;> with_reducible rfl); exact trivial)
        | rfl)
      refine ⟨(d, one ++ [z], out, i + 1), ⟨by dsimp only; omega, hpre, by dsimp only; rw [List.length_append]; simp only [List.length_cons, List.length_nil]; omega, by dsimp only; omega, by dsimp only; omega⟩, by dsimp only; omega, ?_⟩
      dsimp only
      rw [hmz]
      exact Weak.v (by (simp [ConvF, lookV, Conv, ints, List.length_append]; done)) (by (simp (disch := omega) only [TabSub, look, if_pos, if_neg, Obj.refsOK, refsOKs, AV.refsOK, decide_eq_true_eq, Bool.and_true, Bool.and_self, List.length_append] ) <;> ((repeat' apply And.intro) <;> first | exact True.intro | omega | (simp; done) | rfl))
    · rw [c1] at s1 hpre
      simp only [if_true] at hpre
      repeat (first
        | (apply axJ; (focus ((with_reducible constructor) <;> rfl)))
        | (apply awT mixedOK hΓ (by kernel_rfl); (simp (disch := omega) only [go_sem, ↓reduceIte, dk, ↓lk, Int.reduceBEq, Int.reduceBNe, Bool.true_bne, Bool.false_bne, Bool.not_true, Bool.not_false, Int.toNat_natCast, hz, s1, s2, s3, hd1] <;> with_reducible rfl))
        | ((first | apply awR hΓ | apply awG | apply awH mixedOK hΓ rfl (by kernel_rfl) | apply ovE rfl); (simp (disch := omega) only [go_sem, ↓reduceIte, dk, ↓lk, Int.reduceBEq, Int.reduceBNe, Bool.true_bne, Bool.false_bne, Bool.not_true, Bool.not_false, Int.toNat_natCast, hz, s1, s2, s3, hd1] <;> with_reducible rfl); exact trivial)
        | rfl)
      refine ⟨(d + 1, one ++ [z], out, i + 1), ⟨by dsimp only; omega, hpre, by dsimp only; rw [List.length_append]; simp only [List.length_cons, List.length_nil]; omega, by dsimp only; omega, by dsimp only; omega⟩, by dsimp only; omega, ?_⟩
      dsimp only
      rw [hmz]
      exact Weak.v (by (simp [ConvF, lookV, Conv, ints, List.length_append]; done)) (by (simp (disch := omega) only [TabSub, look, if_pos, if_neg, Obj.refsOK, refsOKs, AV.refsOK, decide_eq_true_eq, Bool.and_true, Bool.and_self, List.length_append] ) <;> ((repeat' apply And.intro) <;> first | exact True.intro | omega | (simp; done) | rfl))
end Go.Ab
