/-
  One text of the proof (own work): contracts of functions of the program, by the abstract machine.
-/
import Derived.Test.YtapnigckcnknoaaGreatDoorX22
import Derived.Test.YtapnigckcnknoaaGreatDoorX12
import Derived.Test.YtapnigckcnknoaaGreatDoorX20
import Derived.Test.YtapnigckcnknoaaGreatDoorX15
import Derived.Test.YtapnigckcnknoaaGreatDoorX11
set_option linter.unusedVariables false
set_option linter.unusedSimpArgs false
namespace Go.Ab
open Go Go.RowKit
section
variable {P : Program} {c : Ctx} {H H' : Heap} {θ : Nat → Value} {w : World} {sl : List AV} {a : Act} {o : Oper} {Γ : FuncId → Option CSpec}
theorem y_insert (hs : St c H θ w sl a) {t : TypeId} {m i x : Operand} (ho : o.op = .insert t m i x) (h : amapUpdate P H t (aev sl m) (aev sl i) (aev sl x) = some H') : Yields P c o a w sl H θ .junk H' := by
  have h' := y_mapUpdate (o := { o with op := .mapUpdate t m i x }) hs rfl h
  have e : execOp a.eval o = execOp a.eval { o with op := .mapUpdate t m i x } := by simp only [execOp, ho]
  intro K Q hk
  have := h' K Q hk
  unfold Oper.wp at this ⊢
  rw [e]
  exact this
theorem awp_regI {ops : Array Oper} {id n k1 m1 : Nat} {nst : Bool} (i : Nat) {t : TypeId} {mm mi mx : Operand} {sl sl1 : List AV} {tab tab1 : List (Nat × Obj)} {H2 : Heap} {Q : Exit → List AV → Heap → Prop}
    (hΓ : ∀ f s, Γ f = some s → SpecOK P f s) (ho : ops.toList = ops.toList.take i ++ o :: ops.toList.drop (i + 1)) (hop : o.op = .insert t mm mi mx) (hg : o.guard = none)
    (h1 : runTill P Γ nst ops n (ops.toList.take i) sl ⟨tab, n⟩ = some (k1, sl1, ⟨tab1, m1⟩)) (h2 : amapUpdate P ⟨tab1, m1⟩ t (aev sl1 mm) (aev sl1 mi) (aev sl1 mx) = some H2)
    (hrest : ∃ sl' H', runOps P Γ nst ops (nextK k1 H2) (ops.toList.drop (i + 1)) (putA sl1 o.dst .junk) H2 = some (sl', H') ∧ Q .normal sl' H') : awp P c (.region id ops false) Q sl ⟨tab, n⟩ := by
  intro θ w a hs
  refine wp_region_list ?_
  rw [ho]
  refine runTill_sound hΓ (ops.toList.take i) n k1 sl ⟨tab, n⟩ θ w a sl1 ⟨tab1, m1⟩ h1 hs.st hs.wf (Nat.le_refl _) fun a1 w1 θ1 hs1 hb1 hn1 hkk hk1 hl1 => ?_
  refine wpList_step fun K hK => ?_
  rw [if_pos (wanted_sound hs1 (b := true) (by unfold wantedA; rw [hg]))]
  refine y_insert hs1 hop h2 K _ fun v w2 θ2 hv hs2 hk2 hl2 => hK _ _ ?_
  obtain ⟨sl', H', hrun, hQ⟩ := hrest
  have hkey := (amapUpdate_keys h2).ok hb1
  refine runOps_sound hΓ _ _ _ _ θ2 w2 _ sl' H' hrun (hs2.putA hv _) hkey.2 (nextK_ge _ _) fun a' w' θ' hs' hb hn hk hl => ?_
  exact ⟨sl', _, θ', hQ, ⟨hs', hb, Nat.le_trans hs.base (by have := nextK_gt k1 H2; show n ≤ _; omega)⟩, (hk1.trans hk2).trans hk, ((hl1.trans hl2).trans hl).evo hs.base⟩
end
end Go.Ab
namespace Go.Ab
open Go Go.RowKit Go.Proofs
set_option maxRecDepth 10000
set_option maxHeartbeats 40000000
def eRp (p : List Wd × Int) : D := .tup [.list (p.1.map eWd), i64 p.2]
theorem idx_at7 (t : Bs) (l : List Bs) : idx (fun w => w == t) l = atI (l.findIdx? (fun p => p == t)) := by
  unfold idx atI
  cases l.findIdx? (fun w => w == t) <;> rfl
theorem body_len7 (fs : List Fl) (b : Sp) : (bodyB fs b).1.length ≤ 256 := by
  unfold bodyB
  split
  · split
    · unfold bodyR
      split
      · simp
      · unfold bodyT
        split
        · split
          · simp
          · rename_i h
            simp only [decide_eq_true_eq] at h
            dsimp only
            omega
        · simp
    · simp
  · simp
@[go_sem] theorem hidMC (h : List Bs) : D.cells.match_1 (fun _ => List D) (hidD h) (fun cs => cs) (fun d => [d]) = [hidD h] := by cases h <;> rfl
theorem both_hid (nm : Bs) (h x : List Bs) : D.set (bothB (bothB [nm] h) x) = hidD (bothB (bothB [nm] h) x) := by
  cases hb : bothB (bothB [nm] h) x with
  | nil =>
    have : nm ∈ bothB (bothB [nm] h) x := (both_mem _ _ _).2 (.inl ((both_mem _ _ _).2 (.inl (by simp))))
    rw [hb] at this
    cases this
  | cons s r => rfl
theorem put_nil (s : Bs) (v : D) : mput Tryz.prog 9 [] [] (.str s) v = some ([.str s], [v]) := rfl
structure WdOK (w : Wd) : Prop where
  len : w.2.length ≤ 1000000000
  str : ∀ s ∈ w.2, s.length ≤ 1099511627776
noncomputable def g_replP : List D → Option D := encSpec (fun x : (List Fl) × Mc × (List Wd) × Nat => [.list (x.1.map eFl), eMc x.2.1, .list (x.2.2.1.map eWd), i64 x.2.2.2]) (fun x : (List Fl) × Mc × (List Wd) × Nat => ((x.1.length ≤ 1099511627776 ∧ ∀ f ∈ x.1, f.2.length ≤ 1000000000) ∧ (x.2.1.params.length ≤ 1000000 ∧ x.2.1.name.length ≤ 1099511627776)) ∧ ((x.2.2.1.length ≤ 256 ∧ x.2.2.2 < x.2.2.1.length) ∧ ∀ w ∈ x.2.2.1, WdOK w)) (fun x : (List Fl) × Mc × (List Wd) × Nat => eRp (replG x.1 x.2.1 x.2.2.1 x.2.2.2))
theorem g_replP_eq {fs : List Fl} {m : Mc} {l : List Wd} {n : Nat} (hd : ((fs.length ≤ 1099511627776 ∧ ∀ f ∈ fs, f.2.length ≤ 1000000000) ∧ (m.params.length ≤ 1000000 ∧ m.name.length ≤ 1099511627776)) ∧ ((l.length ≤ 256 ∧ n < l.length) ∧ ∀ w ∈ l, WdOK w)) : g_replP [.list (fs.map eFl), eMc m, .list (l.map eWd), .int .i64 n] = some (eRp (replG fs m l n)) := encSpec_eq (x := (fs, m, l, n)) hd fun y hy => by
    obtain ⟨y0, y1, y2, y3⟩ := y; simp only [List.cons.injEq, and_true, true_and, D.str.injEq, D.int.injEq, D.list.injEq, D.bool.injEq, D.agg.injEq, D.clo.injEq, Int.natCast_inj, inj_ie, D.ref.injEq, eU_e, eWd_e, eWd_ie, eWds_ie, eTk_ie, eTk_e, eFl_ie, eSp_ie, eSp_e, eMc_e, eMc_ie, hid_e] at hy
    (try obtain ⟨rfl, rfl, rfl, rfl⟩ := hy)
    (try subst_vars)
    rfl
theorem f_replP_ok : PureOK Tryz.prog 41 false g_replP := by
  have hΓ := Γp f_argsP_ok (Γp f_bodyP_ok (Γo f_cloW_ok (Γp f_sIdx07_ok (Γp f_with_ok (Γn)))))
  refine pure_enc (n := 121) (rs := [.tmp 8, .tmp 9]) Tryz.func41 (by kernel_rfl) rfl (by kernel_rfl) (by kernel_rfl) ?_
  rintro ⟨fs, m, l, n⟩ hd
  (try dsimp only at hd ⊢)
  refine ⟨fun h => (by cases h), fun k hz0 => ?_⟩
  obtain ⟨mn, mp, m3, m4, m5⟩ := m
  obtain ⟨⟨⟨d1, d2⟩, d3, d4⟩, ⟨d5, d6⟩, d7⟩ := hd
  dsimp only at d3 d4
  rw [eMc_eq]
  dsimp only
  have hR : replG fs ⟨mn, mp, (m3, m4, m5)⟩ l n = if (argsE ⟨mn, mp, (m3, m4, m5)⟩ (l.drop (n + 1))).2 == 0 then
      (if (bodyB fs (m3, m4, m5)).2 == 0 then
        (if decide (((nowG ⟨mn, mp, (m3, m4, m5)⟩ l n (argsE ⟨mn, mp, (m3, m4, m5)⟩ (l.drop (n + 1))).1.1 (argsE ⟨mn, mp, (m3, m4, m5)⟩ (l.drop (n + 1))).1.2 (bodyB fs (m3, m4, m5)).1).length : Int) > 256) then ([], 10)
         else (nowG ⟨mn, mp, (m3, m4, m5)⟩ l n (argsE ⟨mn, mp, (m3, m4, m5)⟩ (l.drop (n + 1))).1.1 (argsE ⟨mn, mp, (m3, m4, m5)⟩ (l.drop (n + 1))).1.2 (bodyB fs (m3, m4, m5)).1, 0))
       else ([], (bodyB fs (m3, m4, m5)).2))
      else ([], (argsE ⟨mn, mp, (m3, m4, m5)⟩ (l.drop (n + 1))).2) := rfl
  have hAE : argsE ⟨mn, mp, (m3, m4, m5)⟩ (l.drop (n + 1)) = if mp.isEmpty then (([], l.drop (n + 1)), (0 : Int)) else match argsG (l.drop (n + 1)) with
      | none => (([], []), 4)
      | some (a, r) => if a.length == mp.length then ((a, r), 0) else (([], []), 9) := rfl
  have hAO := fun h => argsE_ok (m := ⟨mn, mp, (m3, m4, m5)⟩) (l := l.drop (n + 1)) h
  have hgt : decide ((mp.length : Int) > 0) = !mp.isEmpty := by cases mp <;> simp <;> omega
  have e4 := g_argsP_eq (l := l.drop (n + 1)) (by rw [List.length_drop]; omega)
  have hn1 : ((n : Int) + 1).toNat = n + 1 := by omega
  have q2 : List.take (l.length - (n + 1)) (List.drop (n + 1) (l.map eWd)) = (l.drop (n + 1)).map eWd := by
    rw [← List.map_drop]
    exact List.take_of_length_le (by rw [List.length_map, List.length_drop]; omega)
  rw [start_frame (by simp)]; simp only [enumV, go_sem, emptyH]
  repeat (first
    | (apply axJ; (focus ((with_reducible constructor) <;> rfl)))
    | (apply awT mixedOK hΓ (by kernel_rfl); (simp (disch := omega) only [go_sem, ↓reduceIte, dk, ↓lk, Int.reduceBEq, Int.reduceBNe, Bool.true_bne, Bool.false_bne, Bool.not_true, Bool.not_false, hn1, q2] <;> with_reducible rfl))
    | ((first | apply awR hΓ | apply awG | apply awH mixedOK hΓ rfl (by kernel_rfl) | apply ovE rfl); (simp (disch := omega) only [go_sem, ↓reduceIte, dk, ↓lk, Int.reduceBEq, Int.reduceBNe, Bool.true_bne, Bool.false_bne, Bool.not_true, Bool.not_false, hn1, q2] <;> with_reducible rfl); exact trivial)
    | rfl)
  refine awp_mid (Y := List (List Wd) × List Wd) (fun y => (frame 121 [(0, .data (.list (fs.map eFl))), (2, .data (.list (l.map eWd))), (3, .data (i64 n)), (5, .ptr 0 0), (10, .data (.list (y.1.map eWds))), (11, .data (.list (y.2.map eWd)))])) (fun _ => [(0, .box [.data (.str mn), .data (.list (mp.map .str)), .data (.str m3), .data (i64 m4), .data (i64 m5)])]) 13
    (fun y => argsE ⟨mn, mp, (m3, m4, m5)⟩ (l.drop (n + 1)) = ((y.1, y.2), 0)) ?_ ?_
  · cases hmp : mp.isEmpty
    case true =>
      rw [hmp] at hgt hAE
      simp only [if_true] at hAE
      repeat (first
        | (apply axJ; (focus ((with_reducible constructor) <;> rfl)))
        | (apply awT mixedOK hΓ (by kernel_rfl); (simp (disch := omega) only [go_sem, ↓reduceIte, dk, ↓lk, Int.reduceBEq, Int.reduceBNe, Bool.true_bne, Bool.false_bne, Bool.not_true, Bool.not_false, hgt] <;> with_reducible rfl))
        | ((first | apply awR hΓ | apply awG | apply awH mixedOK hΓ rfl (by kernel_rfl) | apply ovE rfl); (simp (disch := omega) only [go_sem, ↓reduceIte, dk, ↓lk, Int.reduceBEq, Int.reduceBNe, Bool.true_bne, Bool.false_bne, Bool.not_true, Bool.not_false, hgt] <;> with_reducible rfl); exact trivial)
        | rfl)
      exact ⟨([], l.drop (n + 1)), hAE, Weak.w⟩
    rw [hmp] at hgt hAE
    simp only [Bool.false_eq_true, if_false] at hAE
    cases hag : argsG (l.drop (n + 1)) with
    | none =>
      rw [hag] at e4 hAE
      dsimp only at hAE
      replace e4 : g_argsP [.list ((l.drop (n + 1)).map eWd)] = some (.tup [.list [], .list [], .int .i64 4]) := e4
      rw [hAE] at hR
      replace hR : replG fs ⟨mn, mp, (m3, m4, m5)⟩ l n = ([], 4) := hR
      rw [hR]
      repeat (first
        | (apply axJ; (focus ((with_reducible constructor) <;> rfl)))
        | (apply awT mixedOK hΓ (by kernel_rfl); (simp (disch := omega) only [go_sem, ↓reduceIte, dk, ↓lk, Int.reduceBEq, Int.reduceBNe, Bool.true_bne, Bool.false_bne, Bool.not_true, Bool.not_false, hgt, e4] <;> with_reducible rfl))
        | ((first | apply awR hΓ | apply awG | apply awH mixedOK hΓ rfl (by kernel_rfl) | apply ovE rfl); (simp (disch := omega) only [go_sem, ↓reduceIte, dk, ↓lk, Int.reduceBEq, Int.reduceBNe, Bool.true_bne, Bool.false_bne, Bool.not_true, Bool.not_false, hgt, e4] <;> with_reducible rfl); exact trivial)
        | rfl)
      try rfl
    | some q =>
      obtain ⟨a, r⟩ := q
      rw [hag] at e4 hAE
      replace e4 : g_argsP [.list ((l.drop (n + 1)).map eWd)] = some (.tup [.list (a.map eWds), .list (r.map eWd), .int .i64 0]) := e4
      dsimp only at hAE
      cases hal : (a.length == mp.length)
      · have hal2 : (((a.length : Nat) : Int) != (mp.length : Int)) = true := by
          simp only [beq_eq_false_iff_ne] at hal
          simp only [bne_iff_ne, ne_eq]
          omega
        rw [hal] at hAE
        simp only [Bool.false_eq_true, if_false] at hAE
        rw [hAE] at hR
        replace hR : replG fs ⟨mn, mp, (m3, m4, m5)⟩ l n = ([], 9) := hR
        rw [hR]
        repeat (first
          | (apply axJ; (focus ((with_reducible constructor) <;> rfl)))
          | (apply awT mixedOK hΓ (by kernel_rfl); (simp (disch := omega) only [go_sem, ↓reduceIte, dk, ↓lk, Int.reduceBEq, Int.reduceBNe, Bool.true_bne, Bool.false_bne, Bool.not_true, Bool.not_false, hgt, e4, hal2] <;> with_reducible rfl))
          | ((first | apply awR hΓ | apply awG | apply awH mixedOK hΓ rfl (by kernel_rfl) | apply ovE rfl); (simp (disch := omega) only [go_sem, ↓reduceIte, dk, ↓lk, Int.reduceBEq, Int.reduceBNe, Bool.true_bne, Bool.false_bne, Bool.not_true, Bool.not_false, hgt, e4, hal2] <;> with_reducible rfl); exact trivial)
          | rfl)
        try rfl
      · have hal2 : (((a.length : Nat) : Int) != (mp.length : Int)) = false := by
          simp only [beq_iff_eq] at hal
          simp [hal]
        rw [hal] at hAE
        simp only [if_true] at hAE
        repeat (first
          | (apply axJ; (focus ((with_reducible constructor) <;> rfl)))
          | (apply awT mixedOK hΓ (by kernel_rfl); (simp (disch := omega) only [go_sem, ↓reduceIte, dk, ↓lk, Int.reduceBEq, Int.reduceBNe, Bool.true_bne, Bool.false_bne, Bool.not_true, Bool.not_false, hgt, e4, hal2] <;> with_reducible rfl))
          | ((first | apply awR hΓ | apply awG | apply awH mixedOK hΓ rfl (by kernel_rfl) | apply ovE rfl); (simp (disch := omega) only [go_sem, ↓reduceIte, dk, ↓lk, Int.reduceBEq, Int.reduceBNe, Bool.true_bne, Bool.false_bne, Bool.not_true, Bool.not_false, hgt, e4, hal2] <;> with_reducible rfl); exact trivial)
          | rfl)
        exact ⟨(a, r), hAE, Weak.w⟩
  rintro ⟨a, r⟩ hA
  dsimp only at hA ⊢
  obtain ⟨v1, v2, v3⟩ := hAO (by rw [hA])
  rw [hA] at hR v1 v2 v3
  clear hAO hAE hA e4 hgt
  dsimp only at hR v1 v2 v3
  simp only [beq_self_eq_true, if_true] at hR
  have e3 := g_bodyP_eq (fs := fs) (m := ⟨mn, mp, (m3, m4, m5)⟩) ⟨d1, d2⟩
  have hbl := body_len7 fs (m3, m4, m5)
  dsimp only at e3
  generalize bodyB fs (m3, m4, m5) = B at *
  obtain ⟨b, be⟩ := B
  replace e3 : g_bodyP [.list (fs.map eFl), .agg [.str mn, .list (mp.map .str), .str m3, .int .i64 m4, .int .i64 m5]] = some (.tup [.list (b.map eTk), .int .i64 be]) := e3
  dsimp only at hR hbl
  by_cases hbe : be = 0
  case neg =>
    have hbe2 : (be != 0) = true := by simpa using hbe
    have hbe3 : (be == 0) = false := by simpa using hbe
    rw [hbe3] at hR
    simp only [Bool.false_eq_true, if_false] at hR
    rw [hR]
    repeat (first
      | (apply axJ; (focus ((with_reducible constructor) <;> rfl)))
      | (apply awT mixedOK hΓ (by kernel_rfl); (simp (disch := omega) only [go_sem, ↓reduceIte, dk, ↓lk, Int.reduceBEq, Int.reduceBNe, Bool.true_bne, Bool.false_bne, Bool.not_true, Bool.not_false, e3, hbe2] <;> with_reducible rfl))
      | ((first | apply awR hΓ | apply awG | apply awH mixedOK hΓ rfl (by kernel_rfl) | apply ovE rfl); (simp (disch := omega) only [go_sem, ↓reduceIte, dk, ↓lk, Int.reduceBEq, Int.reduceBNe, Bool.true_bne, Bool.false_bne, Bool.not_true, Bool.not_false, e3, hbe2] <;> with_reducible rfl); exact trivial)
      | rfl)
    try rfl
  subst hbe
  simp only [beq_self_eq_true, if_true] at hR
  have e5 := g_cloW_eq (l := l.take n) (by rw [List.length_take]; omega)
  have q3 : List.take n (l.map eWd) = (l.take n).map eWd := by rw [List.map_take]
  have htl : (l.take n).length = n := by rw [List.length_take]; omega
  repeat (first
    | (apply axJ; (focus ((with_reducible constructor) <;> rfl)))
    | (apply awT mixedOK hΓ (by kernel_rfl); (simp (disch := omega) only [go_sem, ↓reduceIte, dk, ↓lk, Int.reduceBEq, Int.reduceBNe, Bool.true_bne, Bool.false_bne, Bool.not_true, Bool.not_false, Int.toNat_natCast, Nat.sub_zero, List.drop_zero, List.all_nil, Bool.and_self, lk_key, put_nil, e3, e5, q3, List.length_map, htl] <;> with_reducible rfl))
    | ((first | apply awR hΓ | apply awG | apply awH mixedOK hΓ rfl (by kernel_rfl) | apply ovE rfl); (simp (disch := omega) only [go_sem, ↓reduceIte, dk, ↓lk, Int.reduceBEq, Int.reduceBNe, Bool.true_bne, Bool.false_bne, Bool.not_true, Bool.not_false, Int.toNat_natCast, Nat.sub_zero, List.drop_zero, List.all_nil, Bool.and_self, lk_key, put_nil, e3, e5, q3, List.length_map, htl] <;> with_reducible rfl); exact trivial)
    | rfl)
  refine awp_regI (nst := false) 3 hΓ rfl rfl rfl (by simp only [runTill, List.take_succ_cons, List.take_zero, go_sem, ↓reduceIte]; rfl) (by simp only [go_sem, List.all_nil, Bool.and_self, lk_key, put_nil, ↓reduceIte]; rfl) ⟨_, ⟨_, _⟩, by simp only [List.drop_succ_cons, List.drop_zero, go_sem, ↓reduceIte]; rfl, ?_⟩
  repeat (first
    | (apply axJ; (focus ((with_reducible constructor) <;> rfl)))
    | (apply awT mixedOK hΓ (by kernel_rfl); (simp (disch := omega) only [go_sem, ↓reduceIte, dk, ↓lk, Int.reduceBEq, Int.reduceBNe, Bool.true_bne, Bool.false_bne, Bool.not_true, Bool.not_false, Int.toNat_natCast, Nat.sub_zero, List.drop_zero, e3, e5, q3, List.length_map, htl] <;> with_reducible rfl))
    | ((first | apply awR hΓ | apply awG | apply awH mixedOK hΓ rfl (by kernel_rfl) | apply ovE rfl); (simp (disch := omega) only [go_sem, ↓reduceIte, dk, ↓lk, Int.reduceBEq, Int.reduceBNe, Bool.true_bne, Bool.false_bne, Bool.not_true, Bool.not_false, Int.toNat_natCast, Nat.sub_zero, List.drop_zero, e3, e5, q3, List.length_map, htl] <;> with_reducible rfl); exact trivial)
    | rfl)
  have hgd : (l.getD n ((0, []), [])).2 = l[n].2 := by rw [List.getD_eq_getElem?_getD, List.getElem?_eq_getElem d6]; rfl
  have hnow : nowG ⟨mn, mp, (m3, m4, m5)⟩ l n a r b = l.take n ++ (b.flatMap (substG ⟨mn, mp, (m3, m4, m5)⟩ a (bothB [mn] l[n].2)) ++ r) := by
    unfold nowG
    rw [hgd]
  have hzo := d7 _ (List.getElem_mem d6)
  generalize hz : l[n] = z at *
  obtain ⟨⟨z1, z2⟩, z3⟩ := z
  obtain ⟨o1, o2⟩ := hzo
  dsimp only at hnow o1 o2
  rw [hnow] at hR
  clear hnow hgd e3 e5
  have hSl := fun c => flat_len (m := ⟨mn, mp, (m3, m4, m5)⟩) (args := a) (hid := bothB [mn] z3) (q := 257) (by decide) (fun x hx => by have := (v3 x hx).1; rw [List.length_drop] at this; omega) (b.take c)
  have hst : D.set (bothB [mn] z3) = hidD (bothB [mn] z3) := both_hid mn z3 []
  refine awp_weak (Weak.trans (s2 := (frame 121 [(2, .data (.list (l.map eWd))), (3, .data (i64 n)), (5, .ptr 0 0), (10, .data (.list (a.map eWds))), (11, .data (.list (r.map eWd))), (15, .mref 23), (16, .row 32 n), (62, .data (.list (b.map eTk))), (63, .data (i64 b.length)), (64, .data (i64 0))])) (H2 := ⟨[(0, .box [.data (.str mn), .data (.list (mp.map .str)), .data (.str m3), .data (i64 m4), .data (i64 m5)]), (23, .map [.str mn] [.bool true]), (32, .row 79 3 ((l.take n).map eWd))], 37⟩) (Weak.w) (Weak.mapF (i := 15) (by omega) rfl rfl)) ?_
  refine awp_loop_at (X := Nat) (fun j => (frame 121 [(2, .data (.list (l.map eWd))), (3, .data (i64 n)), (5, .ptr 0 0), (10, .data (.list (a.map eWds))), (11, .data (.list (r.map eWd))), (15, .data (.map [.str mn] [.bool true])), (16, .row 32 (l.take n ++ (b.take j).flatMap (substG ⟨mn, mp, (m3, m4, m5)⟩ a (bothB [mn] z3))).length), (62, .data (.list (b.map eTk))), (63, .data (i64 b.length)), (64, .data (i64 j))])) (fun j => [(0, .box [.data (.str mn), .data (.list (mp.map .str)), .data (.str m3), .data (i64 m4), .data (i64 m5)]), (32, .row 79 3 ((l.take n ++ (b.take j).flatMap (substG ⟨mn, mp, (m3, m4, m5)⟩ a (bothB [mn] z3))).map eWd))]) 37
    (fun j => j ≤ b.length) (fun j => b.length - j) 0 (Nat.zero_le _) (Weak.v (by (simp [ConvF, lookV, Conv, ints, upd, List.take_zero, List.flatMap_nil, List.append_nil, htl]; done)) (by (simp (disch := omega) only [TabSub, look, if_pos, if_neg, Obj.refsOK, refsOKs, AV.refsOK, decide_eq_true_eq, Bool.and_true, Bool.and_self, upd, List.take_zero, List.flatMap_nil, List.append_nil, htl] ) <;> ((repeat' apply And.intro) <;> first | exact True.intro | omega | (simp; done) | rfl))) ?_
  rintro j hj
  (try dsimp only at hj ⊢)
  by_cases hj2 : j < b.length
  case neg =>
    have hj3 : j = b.length := by omega
    subst hj3
    have hSl2 := hSl b.length
    rw [List.take_length] at hSl2 ⊢
    generalize b.flatMap (substG ⟨mn, mp, (m3, m4, m5)⟩ a (bothB [mn] z3)) = S at *
    have hrl : r.length ≤ l.length := by have := v1.length_le; rw [List.length_drop] at this; omega
    have hAl : (l.take n ++ S).length = n + S.length := by rw [List.length_append, htl]
    have hnl : ((l.take n ++ (S ++ r)).length : Int) = (((l.take n ++ S).length + r.length : Nat) : Int) := by
      rw [List.length_append, List.length_append, List.length_append]
      omega
    rw [hnl] at hR
    have hmS : (l.take n ++ (S ++ r)).map eWd = (l.take n ++ S).map eWd ++ r.map eWd := by simp
    generalize hA : l.take n ++ S = A at *
    cases hbig : decide (((A.length + r.length : Nat) : Int) > 256)
    · rw [hbig] at hR
      simp only [Bool.false_eq_true, if_false] at hR
      rw [hR]
      unfold eRp
      dsimp only
      rw [hmS]
      repeat (first
        | (apply axJ; (focus ((with_reducible constructor) <;> rfl)))
        | (apply awT mixedOK hΓ (by kernel_rfl); (simp (disch := omega) only [go_sem, ↓reduceIte, dk, ↓lk, Int.reduceBEq, Int.reduceBNe, Bool.true_bne, Bool.false_bne, Bool.not_true, Bool.not_false, hbig, List.length_map] <;> with_reducible rfl))
        | ((first | apply awR hΓ | apply awG | apply awH mixedOK hΓ rfl (by kernel_rfl) | apply ovE rfl); (simp (disch := omega) only [go_sem, ↓reduceIte, dk, ↓lk, Int.reduceBEq, Int.reduceBNe, Bool.true_bne, Bool.false_bne, Bool.not_true, Bool.not_false, hbig, List.length_map] <;> with_reducible rfl); exact trivial)
        | rfl)
      try rfl
    · rw [hbig] at hR
      simp only [if_true] at hR
      rw [hR]
      repeat (first
        | (apply axJ; (focus ((with_reducible constructor) <;> rfl)))
        | (apply awT mixedOK hΓ (by kernel_rfl); (simp (disch := omega) only [go_sem, ↓reduceIte, dk, ↓lk, Int.reduceBEq, Int.reduceBNe, Bool.true_bne, Bool.false_bne, Bool.not_true, Bool.not_false, hbig, List.length_map] <;> with_reducible rfl))
        | ((first | apply awR hΓ | apply awG | apply awH mixedOK hΓ rfl (by kernel_rfl) | apply ovE rfl); (simp (disch := omega) only [go_sem, ↓reduceIte, dk, ↓lk, Int.reduceBEq, Int.reduceBNe, Bool.true_bne, Bool.false_bne, Bool.not_true, Bool.not_false, hbig, List.length_map] <;> with_reducible rfl); exact trivial)
        | rfl)
      try rfl
  have hft := flatm_take (f := substG ⟨mn, mp, (m3, m4, m5)⟩ a (bothB [mn] z3)) hj2
  have hfb := hSl j
  rw [List.length_take] at hfb
  have hnn : atG ⟨mn, mp, (m3, m4, m5)⟩ b[j] = none → substG ⟨mn, mp, (m3, m4, m5)⟩ a (bothB [mn] z3) b[j] = _ := fun h => subst_none h
  have hss : ∀ k, atG ⟨mn, mp, (m3, m4, m5)⟩ b[j] = some k → substG ⟨mn, mp, (m3, m4, m5)⟩ a (bothB [mn] z3) b[j] = _ := fun k h => subst_some h
  generalize (b.take j).flatMap (substG ⟨mn, mp, (m3, m4, m5)⟩ a (bothB [mn] z3)) = S at *
  have hAl : (l.take n ++ S).length = n + S.length := by rw [List.length_append, htl]
  have has : ∀ u : List Wd, l.take n ++ (S ++ u) = (l.take n ++ S) ++ u := fun u => (List.append_assoc _ _ _).symm
  generalize l.take n ++ S = A at *
  generalize hy : b[j] = y at *
  obtain ⟨y1, y2⟩ := y
  have hat : atG ⟨mn, mp, (m3, m4, m5)⟩ (y1, y2) = if y1 == 1 then mp.findIdx? (fun p => p == y2) else none := rfl
  have e6 := g_with_eq (k := y1) (t := y2) (hw := []) (h := z3) (nm := mn) (fun s hs => by cases hs) (Nat.zero_le _) d4 o2 (by omega)
  replace e6 : g_with [.agg [.int .i64 y1, .str y2, .map [] []], .list [.map [.str mn] [.bool true], hidD z3]] = some (.agg [.int .i64 y1, .str y2, hidD (bothB [mn] z3)]) := by rw [← hst]; exact e6
  have hmn : (A ++ [((y1, y2), bothB [mn] z3)]).map eWd = A.map eWd ++ [.agg [i64 y1, .str y2, hidD (bothB [mn] z3)]] := by rw [List.map_append]; rfl
  have hml1 : (A ++ [((y1, y2), bothB [mn] z3)]).length = A.length + 1 := by rw [List.length_append]; rfl
  cases k1 : (y1 == 1)
  · rw [k1] at hat
    simp only [Bool.false_eq_true, if_false] at hat
    have hk := hat
    repeat (first
      | (apply axJ; (focus ((with_reducible constructor) <;> rfl)))
      | (apply awT mixedOK hΓ (by kernel_rfl); (simp (disch := omega) only [go_sem, ↓reduceIte, dk, ↓lk, Int.reduceBEq, Int.reduceBNe, Bool.true_bne, Bool.false_bne, Bool.not_true, Bool.not_false, hy, k1] <;> with_reducible rfl))
      | ((first | apply awR hΓ | apply awG | apply awH mixedOK hΓ rfl (by kernel_rfl) | apply ovE rfl); (simp (disch := omega) only [go_sem, ↓reduceIte, dk, ↓lk, Int.reduceBEq, Int.reduceBNe, Bool.true_bne, Bool.false_bne, Bool.not_true, Bool.not_false, hy, k1] <;> with_reducible rfl); exact trivial)
      | rfl)
    (apply awp_regm (nst := false) (nst' := false) 12 mixedOK hΓ (by kernel_rfl); (simp (disch := omega) only [go_sem, ↓reduceIte, ↓lk, dk, ↓ty_build79, hz, e6, look_upd] <;> with_reducible rfl); (simp (disch := omega) only [go_sem, ↓reduceIte] <;> with_reducible rfl); (focus rfl); (focus rfl); (simp (disch := omega) only [go_sem, ↓reduceIte, ↓lk, dk, ↓ty_build79, hz, e6, look_upd] <;> with_reducible rfl); (focus (first | (simp (disch := omega) only [go_sem, ↓reduceIte, ↓lk, dk, ↓ty_build79, hz, e6, look_upd]; done) | (simp (disch := omega) only [go_sem, ↓reduceIte, ↓lk, dk, ↓ty_build79, hz, e6, look_upd]; omega))); (focus (dsimp only [List.take_succ_cons, List.take_zero]; (repeat (apply same2_cons; (focus (first | (left; decide) | (right; simp (disch := omega) only [go_sem, ↓reduceIte, ↓lk, dk, ↓ty_build79, hz, e6, look_upd]; done))); (simp (disch := omega) only [go_sem, ↓reduceIte, ↓lk, dk, ↓ty_build79, hz, e6, look_upd] <;> with_reducible rfl))); exact same2_nil)); (simp (disch := omega) only [go_sem, ↓reduceIte, ↓lk, dk, ↓ty_build79, hz, e6, look_upd] <;> with_reducible rfl))
    repeat (first
      | (apply axJ; (focus ((with_reducible constructor) <;> rfl)))
      | (apply awT mixedOK hΓ (by kernel_rfl); (simp (disch := omega) only [go_sem, ↓reduceIte, dk, ↓lk, Int.reduceBEq, Int.reduceBNe, Bool.true_bne, Bool.false_bne, Bool.not_true, Bool.not_false] <;> with_reducible rfl))
      | ((first | apply awR hΓ | apply awG | apply awH mixedOK hΓ rfl (by kernel_rfl) | apply ovE rfl); (simp (disch := omega) only [go_sem, ↓reduceIte, dk, ↓lk, Int.reduceBEq, Int.reduceBNe, Bool.true_bne, Bool.false_bne, Bool.not_true, Bool.not_false] <;> with_reducible rfl); exact trivial)
      | rfl)
    exact ⟨j + 1, by omega, by omega, by rw [hft, hnn hk, has, hmn, hml1]; exact Weak.w⟩
  rw [k1] at hat
  simp only [if_true] at hat
  have e8 := g_sIdx07_eq (l := mp) (s := y2) (by omega)
  rw [idx_at7, ← hat] at e8
  cases hk : atG ⟨mn, mp, (m3, m4, m5)⟩ (y1, y2) with
  | none =>
    rw [hk] at e8
    replace e8 : g_sIdx07 [.list (mp.map .str), .str y2] = some (.int .i64 (-1)) := e8
    repeat (first
      | (apply axJ; (focus ((with_reducible constructor) <;> rfl)))
      | (apply awT mixedOK hΓ (by kernel_rfl); (simp (disch := omega) only [go_sem, ↓reduceIte, dk, ↓lk, Int.reduceBEq, Int.reduceBNe, Bool.true_bne, Bool.false_bne, Bool.not_true, Bool.not_false, hy, k1, e8] <;> with_reducible rfl))
      | ((first | apply awR hΓ | apply awG | apply awH mixedOK hΓ rfl (by kernel_rfl) | apply ovE rfl); (simp (disch := omega) only [go_sem, ↓reduceIte, dk, ↓lk, Int.reduceBEq, Int.reduceBNe, Bool.true_bne, Bool.false_bne, Bool.not_true, Bool.not_false, hy, k1, e8] <;> with_reducible rfl); exact trivial)
      | rfl)
    (apply awp_regm (nst := false) (nst' := false) 12 mixedOK hΓ (by kernel_rfl); (simp (disch := omega) only [go_sem, ↓reduceIte, ↓lk, dk, ↓ty_build79, hz, e6, look_upd] <;> with_reducible rfl); (simp (disch := omega) only [go_sem, ↓reduceIte] <;> with_reducible rfl); (focus rfl); (focus rfl); (simp (disch := omega) only [go_sem, ↓reduceIte, ↓lk, dk, ↓ty_build79, hz, e6, look_upd] <;> with_reducible rfl); (focus (first | (simp (disch := omega) only [go_sem, ↓reduceIte, ↓lk, dk, ↓ty_build79, hz, e6, look_upd]; done) | (simp (disch := omega) only [go_sem, ↓reduceIte, ↓lk, dk, ↓ty_build79, hz, e6, look_upd]; omega))); (focus (dsimp only [List.take_succ_cons, List.take_zero]; (repeat (apply same2_cons; (focus (first | (left; decide) | (right; simp (disch := omega) only [go_sem, ↓reduceIte, ↓lk, dk, ↓ty_build79, hz, e6, look_upd]; done))); (simp (disch := omega) only [go_sem, ↓reduceIte, ↓lk, dk, ↓ty_build79, hz, e6, look_upd] <;> with_reducible rfl))); exact same2_nil)); (simp (disch := omega) only [go_sem, ↓reduceIte, ↓lk, dk, ↓ty_build79, hz, e6, look_upd] <;> with_reducible rfl))
    repeat (first
      | (apply axJ; (focus ((with_reducible constructor) <;> rfl)))
      | (apply awT mixedOK hΓ (by kernel_rfl); (simp (disch := omega) only [go_sem, ↓reduceIte, dk, ↓lk, Int.reduceBEq, Int.reduceBNe, Bool.true_bne, Bool.false_bne, Bool.not_true, Bool.not_false] <;> with_reducible rfl))
      | ((first | apply awR hΓ | apply awG | apply awH mixedOK hΓ rfl (by kernel_rfl) | apply ovE rfl); (simp (disch := omega) only [go_sem, ↓reduceIte, dk, ↓lk, Int.reduceBEq, Int.reduceBNe, Bool.true_bne, Bool.false_bne, Bool.not_true, Bool.not_false] <;> with_reducible rfl); exact trivial)
      | rfl)
    exact ⟨j + 1, by omega, by omega, by rw [hft, hnn hk, has, hmn, hml1]; exact Weak.w⟩
  | some k =>
    rw [hk] at e8
    replace e8 : g_sIdx07 [.list (mp.map .str), .str y2] = some (.int .i64 (k : Int)) := e8
    have hkl := at_lt hk
    dsimp only at hkl v2
    rw [← v2] at hkl
    rw [hss k hk, List.getD_eq_getElem?_getD, List.getElem?_eq_getElem hkl, Option.getD_some] at hft
    obtain ⟨w1, w2⟩ := v3 _ (List.getElem_mem hkl)
    generalize hx : a[k] = x at *
    have hxd : eWds x = .list (x.map eWd) := rfl
    rw [List.length_drop] at w1
    repeat (first
      | (apply axJ; (focus ((with_reducible constructor) <;> rfl)))
      | (apply awT mixedOK hΓ (by kernel_rfl); (simp (disch := omega) only [go_sem, ↓reduceIte, dk, ↓lk, Int.reduceBEq, Int.reduceBNe, Bool.true_bne, Bool.false_bne, Bool.not_true, Bool.not_false, Int.toNat_natCast, List.getElem_map, hy, k1, e8, hx, hxd] <;> with_reducible rfl))
      | ((first | apply awR hΓ | apply awG | apply awH mixedOK hΓ rfl (by kernel_rfl) | apply ovE rfl); (simp (disch := omega) only [go_sem, ↓reduceIte, dk, ↓lk, Int.reduceBEq, Int.reduceBNe, Bool.true_bne, Bool.false_bne, Bool.not_true, Bool.not_false, Int.toNat_natCast, List.getElem_map, hy, k1, e8, hx, hxd] <;> with_reducible rfl); exact trivial)
      | rfl)
    refine awp_loop_at (X := Nat) (fun q => (frame 121 [(2, .data (.list (l.map eWd))), (3, .data (i64 n)), (5, .ptr 0 0), (10, .data (.list (a.map eWds))), (11, .data (.list (r.map eWd))), (15, .data (.map [.str mn] [.bool true])), (16, .row 32 (A ++ (x.take q).map (argM (bothB [mn] z3))).length), (62, .data (.list (b.map eTk))), (63, .data (i64 b.length)), (64, .data (i64 j)), (94, .data (.list (x.map eWd))), (95, .data (i64 x.length)), (96, .data (i64 q))])) (fun q => [(0, .box [.data (.str mn), .data (.list (mp.map .str)), .data (.str m3), .data (i64 m4), .data (i64 m5)]), (32, .row 79 3 ((A ++ (x.take q).map (argM (bothB [mn] z3))).map eWd))]) 42
      (fun q => q ≤ x.length) (fun q => x.length - q) 0 (Nat.zero_le _) (Weak.v (by (simp [ConvF, lookV, Conv, ints, List.take_zero, List.map_nil, List.append_nil]; done)) (by (simp (disch := omega) only [TabSub, look, if_pos, if_neg, Obj.refsOK, refsOKs, AV.refsOK, decide_eq_true_eq, Bool.and_true, Bool.and_self, List.take_zero, List.map_nil, List.append_nil] ) <;> ((repeat' apply And.intro) <;> first | exact True.intro | omega | (simp; done) | rfl))) ?_
    rintro q hq
    (try dsimp only at hq ⊢)
    by_cases hq2 : q < x.length
    · have hmt := mapp_take (f := argM (bothB [mn] z3)) hq2
      have hwo := d7 _ (List.drop_subset _ _ (w2 _ (List.getElem_mem hq2)))
      have hml : ((x.take q).map (argM (bothB [mn] z3))).length = q := by rw [List.length_map, List.length_take]; omega
      generalize (x.take q).map (argM (bothB [mn] z3)) = Z at *
      generalize hw : x[q] = w at *
      obtain ⟨⟨x1, x2⟩, x3⟩ := w
      obtain ⟨o3, o4⟩ := hwo
      dsimp only at o3 o4
      have e9 := g_with_eq (k := x1) (t := x2) (hw := x3) (h := z3) (nm := mn) o4 (by omega) d4 o2 (by omega)
      rw [both_hid] at e9
      have harg : argM (bothB [mn] z3) ((x1, x2), x3) = ((x1, x2), bothB (bothB [mn] z3) x3) := rfl
      have hAl2 : (A ++ Z).length = A.length + q := by rw [List.length_append, hml]
      generalize bothB (bothB [mn] z3) x3 = h3 at *
      have hmm : (A ++ (Z ++ [((x1, x2), h3)])).map eWd = (A ++ Z).map eWd ++ [.agg [i64 x1, .str x2, hidD h3]] := by rw [← List.append_assoc, List.map_append]; rfl
      have hml2 : (A ++ (Z ++ [((x1, x2), h3)])).length = (A ++ Z).length + 1 := by rw [← List.append_assoc, List.length_append]; rfl
      generalize hAZ : A ++ Z = Y at *
      repeat (first
        | (apply axJ; (focus ((with_reducible constructor) <;> rfl)))
        | (apply awT mixedOK hΓ (by kernel_rfl); (simp (disch := omega) only [go_sem, ↓reduceIte, dk, ↓lk, Int.reduceBEq, Int.reduceBNe, Bool.true_bne, Bool.false_bne, Bool.not_true, Bool.not_false, hw] <;> with_reducible rfl))
        | ((first | apply awR hΓ | apply awG | apply awH mixedOK hΓ rfl (by kernel_rfl) | apply ovE rfl); (simp (disch := omega) only [go_sem, ↓reduceIte, dk, ↓lk, Int.reduceBEq, Int.reduceBNe, Bool.true_bne, Bool.false_bne, Bool.not_true, Bool.not_false, hw] <;> with_reducible rfl); exact trivial)
        | rfl)
      (apply awp_regm (nst := false) (nst' := false) 11 mixedOK hΓ (by kernel_rfl); (simp (disch := omega) only [go_sem, ↓reduceIte, ↓lk, dk, ↓ty_build79, hz, hw, e9, look_upd] <;> with_reducible rfl); (simp (disch := omega) only [go_sem, ↓reduceIte] <;> with_reducible rfl); (focus rfl); (focus rfl); (simp (disch := omega) only [go_sem, ↓reduceIte, ↓lk, dk, ↓ty_build79, hz, hw, e9, look_upd] <;> with_reducible rfl); (focus (first | (simp (disch := omega) only [go_sem, ↓reduceIte, ↓lk, dk, ↓ty_build79, hz, hw, e9, look_upd]; done) | (simp (disch := omega) only [go_sem, ↓reduceIte, ↓lk, dk, ↓ty_build79, hz, hw, e9, look_upd]; omega))); (focus (dsimp only [List.take_succ_cons, List.take_zero]; (repeat (apply same2_cons; (focus (first | (left; decide) | (right; simp (disch := omega) only [go_sem, ↓reduceIte, ↓lk, dk, ↓ty_build79, hz, hw, e9, look_upd]; done))); (simp (disch := omega) only [go_sem, ↓reduceIte, ↓lk, dk, ↓ty_build79, hz, hw, e9, look_upd] <;> with_reducible rfl))); exact same2_nil)); (simp (disch := omega) only [go_sem, ↓reduceIte, ↓lk, dk, ↓ty_build79, hz, hw, e9, look_upd] <;> with_reducible rfl))
      repeat (first
        | (apply axJ; (focus ((with_reducible constructor) <;> rfl)))
        | (apply awT mixedOK hΓ (by kernel_rfl); (simp (disch := omega) only [go_sem, ↓reduceIte, dk, ↓lk, Int.reduceBEq, Int.reduceBNe, Bool.true_bne, Bool.false_bne, Bool.not_true, Bool.not_false] <;> with_reducible rfl))
        | ((first | apply awR hΓ | apply awG | apply awH mixedOK hΓ rfl (by kernel_rfl) | apply ovE rfl); (simp (disch := omega) only [go_sem, ↓reduceIte, dk, ↓lk, Int.reduceBEq, Int.reduceBNe, Bool.true_bne, Bool.false_bne, Bool.not_true, Bool.not_false] <;> with_reducible rfl); exact trivial)
        | rfl)
      exact ⟨q + 1, by omega, by omega, by rw [hmt, harg, hmm, hml2]; exact Weak.w⟩
    have hq3 : q = x.length := by omega
    subst hq3
    rw [List.take_length]
    repeat (first
      | (apply axJ; (focus ((with_reducible constructor) <;> rfl)))
      | (apply awT mixedOK hΓ (by kernel_rfl); (simp (disch := omega) only [go_sem, ↓reduceIte, dk, ↓lk, Int.reduceBEq, Int.reduceBNe, Bool.true_bne, Bool.false_bne, Bool.not_true, Bool.not_false] <;> with_reducible rfl))
      | ((first | apply awR hΓ | apply awG | apply awH mixedOK hΓ rfl (by kernel_rfl) | apply ovE rfl); (simp (disch := omega) only [go_sem, ↓reduceIte, dk, ↓lk, Int.reduceBEq, Int.reduceBNe, Bool.true_bne, Bool.false_bne, Bool.not_true, Bool.not_false] <;> with_reducible rfl); exact trivial)
      | rfl)
    exact ⟨j + 1, by omega, by omega, by rw [hft, has]; exact Weak.w⟩
end Go.Ab
namespace Go.Ab
open Go Go.RowKit Go.Proofs
set_option maxRecDepth 100000
set_option maxHeartbeats 40000000
def emptyS (s : Sp) : Bool := decide (s.2.1 ≥ s.2.2)
noncomputable def g_set1 : List D → Option D := encSpec (fun x : Sp => [eSp x]) (fun x : Sp => True) (fun x : Sp => .bool (emptyS x))
theorem g_set1_eq {s : Sp} (hd : True) : g_set1 [eSp s] = some (.bool (emptyS s)) := encSpec_eq (x := s) hd fun y hy => by
    simp only [List.cons.injEq, and_true, true_and, D.str.injEq, D.int.injEq, D.list.injEq, D.bool.injEq, D.agg.injEq, D.clo.injEq, Int.natCast_inj, inj_ie, eSp_e, eSp_ie] at hy
    rw [hy]
theorem f_set1_ok : PureOK Tryz.prog 68 true g_set1 := by
  have hΓ := Γ0_ok
  refine pure_enc (n := 8) (rs := [.tmp 2]) Tryz.func68 (by kernel_rfl) rfl (by kernel_rfl) (by kernel_rfl) ?_
  rintro s hd
  (try dsimp only at hd ⊢)
  refine ⟨fun _ => by (repeat (first | exact .int _ _ | exact .bool _ | exact .str _ | (refine .tup _ (fun d hd => ?_); simp only [List.mem_cons, List.not_mem_nil, or_false] at hd; rcases hd with rfl | hd))), fun k hz0 => ?_⟩
  obtain ⟨s1, s2, s3⟩ := s
  unfold emptyS
  dsimp only
  rw [eSp_eq]
  dsimp only
  generalize hc : decide (s2 ≥ s3) = c
  rw [start_frame (by simp)]; simp only [enumV, go_sem, emptyH]
  repeat (first
    | (apply axJ; (focus ((with_reducible constructor) <;> rfl)))
    | (apply awT mixedOK hΓ (by kernel_rfl); (simp (disch := omega) only [go_sem, ↓reduceIte, dk, ↓lk, Int.reduceBEq, Int.reduceBNe, Bool.true_bne, Bool.false_bne, Bool.not_true, Bool.not_false, hc] <;> with_reducible rfl))
    | ((first | apply awR hΓ | apply awG | apply awH mixedOK hΓ rfl (by kernel_rfl) | apply ovE rfl); (simp (disch := omega) only [go_sem, ↓reduceIte, dk, ↓lk, Int.reduceBEq, Int.reduceBNe, Bool.true_bne, Bool.false_bne, Bool.not_true, Bool.not_false, hc] <;> with_reducible rfl); exact trivial)
    | rfl)
  try rfl
noncomputable def g_dix := gIdxD eSp (fun _ => True) 68 [] emptyS
theorem f_dix_ok : PureOK Tryz.prog 99 true g_dix := f_idxSp_ok f_set1_ok fun x _ => g_set1_eq trivial
end Go.Ab
namespace Go.Ab
open Go Go.RowKit Go.Proofs
set_option maxRecDepth 100000
set_option maxHeartbeats 40000000
def dlA (l : List Sp) : List AV := [.row 0 l.length, .data (.clo 68 [])]
def dlO (l : List Sp) : List Obj := [.row 26 3 (l.map eSp)]
def keptS (l : List Sp) : List Sp := l.filter fun y => !emptyS y
def DlG (l : List Sp) (r : AV) (os : List Obj) : Prop := (keptS l = l ∧ r = .row 0 l.length ∧ os = dlO l) ∨ (r = .row 1 (keptS l).length ∧ os = [.dead, .row 26 3 ((keptS l).map eSp)])
theorem dl_inj (x y : List Sp) (h : dlA x = dlA y) (h2 : dlO x = dlO y) : x = y := by
  simp only [dlO, List.cons.injEq, Obj.row.injEq, true_and, and_true, eSp_ie] at h2
  exact h2
theorem keep_step {α : Type} {p : α → Bool} {l m : List α} {i j : Nat} (hj : j < l.length) (hm : m.length = l.length) (hij : i < j) (h1 : m.take i = (l.take j).filter fun y => !p y) (h2 : m.drop j = l.drop j) (hp : p l[j] = false) :
    (m.set i l[j]).take (i + 1) = (l.take (j + 1)).filter (fun y => !p y) ∧ (m.set i l[j]).drop (j + 1) = l.drop (j + 1) := by
  constructor
  · rw [List.take_add_one, List.take_set_of_le (Nat.le_refl _), h1, List.take_add_one (l := l), List.filter_append, List.getElem?_eq_getElem hj]
    simp [hp, show i < m.length by omega]
  · rw [List.drop_set_of_lt (by omega), ← List.drop_drop (i := 1) (j := j), h2, List.drop_drop]
theorem keep_skip {α : Type} {p : α → Bool} {l m : List α} {i j : Nat} (hj : j < l.length) (h1 : m.take i = (l.take j).filter fun y => !p y) (h2 : m.drop j = l.drop j) (hp : p l[j] = true) :
    m.take i = (l.take (j + 1)).filter (fun y => !p y) ∧ m.drop (j + 1) = l.drop (j + 1) := by
  constructor
  · rw [h1, List.take_add_one (l := l), List.filter_append, List.getElem?_eq_getElem hj]
    simp [hp]
  · rw [← List.drop_drop (i := 1) (j := j), h2, List.drop_drop]
theorem get_of_drop {α : Type} {l m : List α} {j : Nat} (h : m.drop j = l.drop j) (hj : j < l.length) (hm : j < m.length) : m[j] = l[j] := by
  have := congrArg (·[0]?) h
  simpa [hj, hm] using this
theorem idx_cases7 {α : Type} (p : α → Bool) (l : List α) : (idx p l = -1 ∧ l.filter (fun y => !p y) = l) ∨ ∃ (i : Nat) (h : i < l.length), idx p l = i ∧ p l[i] = true ∧ (l.take i).filter (fun y => !p y) = l.take i := by
  unfold idx
  cases hf : l.findIdx? p with
  | none =>
    left
    rw [List.findIdx?_eq_none_iff] at hf
    exact ⟨rfl, List.filter_eq_self.2 fun x hx => by simp [hf x hx]⟩
  | some i =>
    right
    obtain ⟨h1, h2, h3⟩ := List.findIdx?_eq_some_iff_getElem.1 hf
    refine ⟨i, h1, rfl, h2, List.filter_eq_self.2 fun x hx => ?_⟩
    obtain ⟨j, hj, rfl⟩ := List.mem_iff_getElem.1 hx
    rw [List.length_take] at hj
    have := h3 j (by omega)
    simp only [List.getElem_take]
    simpa using this
theorem set1_eq (s : Sp) : g_set1 [.agg [.str s.1, .int .i64 s.2.1, .int .i64 s.2.2]] = some (.bool (emptyS s)) := g_set1_eq (s := s) trivial
theorem f_del_ex : ∃ g, LocOK Tryz.prog 66 g ∧ ∀ l : List Sp, l.length ≤ 1000000 → ∃ r os, DlG l r os ∧ g (dlA l) (dlO l) = some (r, os) := by
  refine loc_ex (enc := dlA) (eno := dlO) (dom := fun l => l.length ≤ 1000000) (good := DlG) (n := 42) (rs := [.tmp 4]) Tryz.func66 (by kernel_rfl) rfl (by kernel_rfl) (by kernel_rfl) dl_inj ?_
  intro l hn
  have hΓ := (Γp f_set1_ok (Γp f_dix_ok (Γn)))
  unfold dlA dlO
  have e77 : g_dix [.list (l.map eSp), .clo 68 []] = some (.int .i64 (idx emptyS l)) := gIdxD_eq (e := eSp) (dm := fun _ => True) eSp_inj (by omega) (fun _ _ => trivial)
  rw [start_frameA (by simp)]; simp only [enumA, enumO, List.length_cons, List.length_nil, Nat.reduceAdd, go_sem]
  rcases idx_cases7 emptyS l with ⟨h1, h2⟩ | ⟨i, hi, h1, hp, h2⟩
  · rw [h1] at e77
    (repeat (first | (apply axJ; (focus ((with_reducible constructor) <;> rfl))) | ((first | apply axR hΓ | apply axG | apply ovX rfl | apply ovE rfl); (simp (disch := omega) only [go_sem, ↓reduceIte, ↓lk, dk, Int.reduceBEq, Int.reduceBNe, Bool.true_bne, Bool.false_bne, Bool.not_true, Bool.not_false, e77] <;> with_reducible rfl); exact trivial) | rfl))
    exact retl_x (r := .row 0 l.length) (os := [.row 26 3 (l.map eSp)]) rfl (by simp (disch := omega) only [go_sem, ↓reduceIte, dk] <;> rfl) (Weak.of (by simp) ⟨rfl, trivial⟩ ⟨rfl, by simp, rfl, trivial⟩ rfl) (.inl ⟨h2, rfl, rfl⟩)
  · rw [h1] at e77
    have hz : ((i : Int) == -1) = false := by rw [beq_eq_false_iff_ne]; omega
    (repeat (first | (refine axA ?_; first | (apply axR hΓ; (simp (disch := omega) only [go_sem, ↓reduceIte, ↓lk, dk, Int.reduceBEq, Int.reduceBNe, Bool.true_bne, Bool.false_bne, Bool.not_true, Bool.not_false, e77, hz] <;> with_reducible rfl); exact trivial) | refine axA ?_ | refine axB ?_) | refine axB ?_ | (apply axK; (focus ((with_reducible constructor) <;> rfl))) | ((first | apply axR hΓ | apply axG | apply ovX rfl | apply ovE rfl); (simp (disch := omega) only [go_sem, ↓reduceIte, ↓lk, dk, Int.reduceBEq, Int.reduceBNe, Bool.true_bne, Bool.false_bne, Bool.not_true, Bool.not_false, e77, hz] <;> with_reducible rfl); exact trivial) | rfl))
    refine axp_loop_at (X := Nat × Nat × List Sp) (fun x => (frame 42 [(0, .row 0 l.length), (1, .data (.clo 68 [])), (5, .data (i64 x.2.1)), (6, .data (i64 x.1))])) (fun x => [(0, .row 26 3 (x.2.2.map eSp))]) 1
      (fun x => x.2.1 < x.1 ∧ x.1 ≤ l.length ∧ x.2.2.length = l.length ∧ x.2.2.take x.2.1 = (l.take x.1).filter (fun y => !emptyS y) ∧ x.2.2.drop x.1 = l.drop x.1) (fun x => l.length - x.1) (i + 1, i, l) ⟨by simp, hi, rfl, by
        rw [List.take_add_one, List.filter_append, h2, List.getElem?_eq_getElem hi]; (try simp [hp]), rfl⟩ (Weak.w (h3 := by simp [refsF, AV.refsOK, refsOKs])) ?_
    rintro ⟨j, i, m⟩ ⟨hij, hj, hml, ht, hd⟩
    dsimp only at hij hj hml ht hd ⊢
    by_cases hjl : j < l.length
    · have hjm : j < m.length := by omega
      have hmj := get_of_drop hd hjl hjm
      have e51 := set1_eq l[j]
      generalize hy : l[j] = y at *
      generalize hb : emptyS y = b at e51
      cases b with
      | true =>
        obtain ⟨k1, k2⟩ := keep_skip (p := emptyS) hjl ht hd (by rw [hy]; exact hb)
        (repeat (first | (apply axJ; (focus ((with_reducible constructor) <;> rfl))) | ((first | apply axR hΓ | apply axG | apply ovX rfl | apply ovE rfl); (simp (disch := omega) only [go_sem, ↓reduceIte, ↓lk, dk, hmj, e51] <;> with_reducible rfl); exact trivial) | rfl))
        exact ⟨(j + 1, i, m), ⟨by dsimp only; omega, hjl, hml, k1, k2⟩, by dsimp only; omega, (Weak.w (h3 := by simp [refsF, AV.refsOK, refsOKs]))⟩
      | false =>
        obtain ⟨k1, k2⟩ := keep_step (p := emptyS) hjl hml hij ht hd (by rw [hy]; exact hb)
        rw [hy] at k1 k2
        have hs : (m.map eSp).set i (.agg [.str y.1, .int .i64 y.2.1, .int .i64 y.2.2]) = (m.set i y).map eSp := by rw [List.map_set]; rfl
        (repeat (first | (apply axJ; (focus ((with_reducible constructor) <;> rfl))) | ((first | apply axR hΓ | apply axG | apply ovX rfl | apply ovE rfl); (simp (disch := omega) only [go_sem, ↓reduceIte, ↓lk, dk, hmj, e51, hs] <;> with_reducible rfl); exact trivial) | rfl))
        exact ⟨(j + 1, i + 1, m.set i y), ⟨by dsimp only; omega, hjl, by simp [hml], k1, k2⟩, by dsimp only; omega, (Weak.w (h3 := by simp [refsF, AV.refsOK, refsOKs]))⟩
    · obtain rfl : j = l.length := by omega
      rw [List.take_length] at ht
      have hkl : (l.filter fun y => !emptyS y).length = i := by rw [← ht, List.length_take]; omega
      have hmt : (m.map eSp).take i = (l.filter fun y => !emptyS y).map eSp := by rw [← ht, List.map_take]
      refine axA ?_
      refine axA ?_
      (repeat (first | refine axB ?_ | (apply axK; (focus ((with_reducible constructor) <;> rfl))) | ((first | apply axR hΓ | apply axG | apply ovX rfl | apply ovE rfl); (simp (disch := omega) only [go_sem, ↓reduceIte, dk] <;> with_reducible rfl); exact trivial) | rfl))
      refine axp_cut (x := 0) (y := 5) (ob := 0) (i := i) (l := m.map eSp) (n := l.length) rfl rfl ⟨rfl, rfl, rfl⟩ ⟨rfl, rfl, rfl⟩ ⟨rfl, rfl, rfl⟩ ⟨rfl, rfl, rfl⟩ ⟨rfl, rfl, rfl⟩ ⟨rfl, rfl, rfl⟩ ⟨rfl, rfl, rfl⟩ ⟨rfl, rfl, rfl⟩ (by decide) ?_ ?_ ?_ ?_ ?_ ?_ ty_und34 ty_size26 ty_zero26 rfl (by decide) ?_
      · simp [frame]
      · simp (disch := omega) only [go_sem, ↓reduceIte, dk]
      · simp (disch := omega) only [go_sem, ↓reduceIte, dk]
      · rfl
      · simp [hml]
      · omega
      rw [hmt]
      (repeat (first | (apply axJ; (focus ((with_reducible constructor) <;> rfl))) | ((first | apply axR hΓ | apply axG | apply ovX rfl | apply ovE rfl); (simp (disch := omega) only [go_sem, ↓reduceIte, dk] <;> with_reducible rfl); exact trivial) | rfl))
      refine retl_x (r := .row 1 i) (os := [.dead, .row 26 3 ((l.filter fun y => !emptyS y).map eSp)]) rfl (by simp (disch := omega) only [go_sem, ↓reduceIte, dk] <;> rfl) (Weak.packd (objs := [.dead, .row 26 3 ((l.filter fun y => !emptyS y).map eSp)]) (fp := [0, 5]) rfl rfl (by decide) rfl rfl) (.inr ⟨by simp only [keptS]; rw [hkl], rfl⟩)
noncomputable def g_delS := f_del_ex.choose
theorem f_delS_ok : LocOK Tryz.prog 66 g_delS := f_del_ex.choose_spec.1
theorem g_delS_eq {l : List Sp} (h : l.length ≤ 1000000) : ∃ r os, DlG l r os ∧ g_delS (dlA l) (dlO l) = some (r, os) := f_del_ex.choose_spec.2 l h
end Go.Ab
namespace Go.Ab
open Go Go.RowKit
noncomputable def locSpec {X : Type} (enc : X → List AV) (eno : X → List Obj) (dom : X → Prop) (out : X → AV × List Obj) (xs : List AV) (os : List Obj) : Option (AV × List Obj) :=
  open Classical in if h : ∃ x, enc x = xs ∧ eno x = os ∧ dom x then some (out h.choose) else none
theorem locSpec_eq {X : Type} {enc : X → List AV} {eno : X → List Obj} {dom : X → Prop} {out : X → AV × List Obj} {x : X} (hx : dom x) (inj : ∀ y, enc y = enc x → eno y = eno x → out y = out x) : locSpec enc eno dom out (enc x) (eno x) = some (out x) := by
  have h : ∃ y, enc y = enc x ∧ eno y = eno x ∧ dom y := ⟨x, rfl, rfl, hx⟩
  unfold locSpec
  rw [dif_pos h, inj _ h.choose_spec.1 h.choose_spec.2.1]
end Go.Ab
namespace Go.Ab
open Go Go.RowKit
theorem scalar_one {l : List D} (h : l.all D.scalar = true) : (∀ d ∈ l, d.cells.length = 1) ∧ ∀ d ∈ l, d.one = true := by
  rw [List.all_eq_true] at h
  refine ⟨fun d hd => ?_, fun d hd => ?_⟩
  · have := h d hd
    cases d <;> first | rfl | (exact absurd this (by simp [D.scalar]))
  · have := h d hd
    cases d <;> first | rfl | (exact absurd this (by simp [D.scalar]))
structure RowTurn (w w' : World) (e : TypeId) (v v' : Value) (xs : List Value) : Prop where
  own : ownsM w' 0 e 1 v' xs.length xs
  os : w'.os = w.os
  tape : w'.tape = w.tape
  output : w'.output = w.output
  size : w.heap.size ≤ w'.heap.size
  blk' : ∀ b, blk v' = some b → blk v = some b
  block : ∀ b, b < w.heap.size → blk v ≠ some b → w'.heap[b]? = w.heap[b]?
section
variable {P : Program} {f : FuncId} {fn : Func} {e : TypeId} {dom : List D → Prop} {out : List D → List D}
end
end Go.Ab
namespace Go.Ab
open Go Go.RowKit
def D.wide (k : Nat) (d : D) : Prop := d.cells.length = k ∧ d.cells.all D.scalar = true
theorem wide_flat {k : Nat} {l : List D} (h : ∀ d ∈ l, d.wide k) : (flat l).all D.scalar = true ∧ (∀ d ∈ l, d.cells.length = k) ∧ ∀ d ∈ flat l, d.one = true := by
  have h1 : (flat l).all D.scalar = true := by
    rw [List.all_eq_true]
    intro d hd
    unfold flat at hd
    rw [List.mem_flatMap] at hd
    obtain ⟨x, hx, hdx⟩ := hd
    exact List.all_eq_true.1 (h x hx).2 d hdx
  exact ⟨h1, fun d hd => (h d hd).1, (scalar_one h1).2⟩
structure RowTurnK (w w' : World) (e : TypeId) (k : Nat) (v v' : Value) (n : Nat) (xs : List Value) : Prop where
  own : ownsM w' 0 e k v' n xs
  os : w'.os = w.os
  tape : w'.tape = w.tape
  output : w'.output = w.output
  size : w.heap.size ≤ w'.heap.size
  blk' : ∀ b, blk v' = some b → blk v = some b
  block : ∀ b, b < w.heap.size → blk v ≠ some b → w'.heap[b]? = w.heap[b]?
section
variable {P : Program} {f : FuncId} {fn : Func} {e : TypeId} {k : Nat} {dom : List D → Prop} {out : List D → List D}
theorem rowK_arg {c : Ctx} {l : List D} {q : FuncId} {θ : Nat → Value} {w : World} {vs : Array Value} (hsc : ∀ d ∈ l, d.wide k) (hsim : HSim c ⟨enumO 0 [.row e k l], 1⟩ θ w) (hvs : vs.size = 2)
    (hv : ∀ i (hi : i < [AV.row 0 l.length, .data (.clo q [])].length) u, vs[i]? = some u → VR ⟨enumO 0 [.row e k l], 1⟩ θ w (vis c ⟨enumO 0 [.row e k l], 1⟩ θ w) ([AV.row 0 l.length, .data (.clo q [])][i]) u) :
    vs = #[θ 0, .func (.func q) #[] #[]] ∧ ownsM w 0 e k (θ 0) l.length ((flat l).map D.val) ∧ (∀ b, blk (θ 0) = some b → c.n0 ≤ b ∨ c.Init b) := by
  have hg : (⟨enumO 0 [.row e k l], 1⟩ : Heap).get 0 = some (.row e k l) := rfl
  have h0 := hv 0 (by simp) (vs[0]'(by omega)) (Array.getElem?_eq_getElem _)
  obtain ⟨he, _⟩ := row_val hsim h0 hg rfl
  have h1 : vs[1]'(by omega) = .func (.func q) #[] #[] := by
    have := hv 1 (by simp) (vs[1]'(by omega)) (Array.getElem?_eq_getElem _)
    generalize vs[1]'(by omega) = v at this
    cases this with
    | data d v h =>
      cases h with
      | clo _ _ us _ hz => rw [Array.eq_empty_of_size_eq_zero hz]
  obtain ⟨w1, w2, w3⟩ := wide_flat hsc
  obtain ⟨_, h2, h3, us, h4, h5, h6⟩ := hsim.objs 0 _ hg
  have hfl : (flat l).length = l.length * k := flat_length w2
  have hus : us = (flat l).map D.val := by
    have hlen := h4.1
    apply List.ext_getElem?
    intro i
    by_cases hi : i < (flat l).length
    · have hi2 : i < us.length := by omega
      have := h6 i hi us[i] (List.getElem?_eq_getElem hi2)
      rw [List.getElem?_eq_getElem hi2, scalar_val (List.all_eq_true.1 w1 _ (List.getElem_mem _)) this, List.getElem?_map, List.getElem?_eq_getElem hi]
      simp only [Option.map_some]
    · rw [List.getElem?_eq_none (by omega), List.getElem?_eq_none (by simp; omega)]
  rw [hus] at h4
  refine ⟨Array.ext hvs fun n i1 i2 => ?_, h4, h5⟩
  match n, i2 with
  | 0, _ => exact he
  | 1, _ => exact h1
theorem loc_rowK {q : FuncId} (hk : 0 < k) (hf : P.funcs[f]? = some fn) (hname : (fn.name == "runtime.NumGoroutine") = false) (hb : fn.body.isNone = false)
    (hd : ∀ l, dom l → (∀ d ∈ l, d.wide k) ∧ (∀ d ∈ out l, d.wide k) ∧ (out l).length = l.length)
    (h : ∀ l, dom l → ∀ (w : World) (v : Value), ownsM w 0 e k v l.length ((flat l).map D.val) → Calls P f #[v, .func (.func q) #[] #[]] w fun ex w' => (∃ u, ex = .returned u) ∧ RowTurnK w w' e k v v l.length ((flat (out l)).map D.val)) :
    LocOK P f (locSpec (fun l => [.row 0 l.length, .data (.clo q [])]) (fun l => [.row e k l]) dom (fun l => (.junk, [.row e k (out l)]))) := by
  intro xs os r os' hg _ c θ w vs hbase hsim hvs hvals
  unfold locSpec at hg
  split at hg
  · rename_i hh
    obtain ⟨h1, h2, h3⟩ := hh.choose_spec
    generalize hh.choose = l at h1 h2 h3 hg
    simp only [Option.some.injEq, Prod.mk.injEq] at hg
    obtain ⟨rfl, rfl⟩ := hg
    subst h1 h2
    obtain ⟨s1, s2, s3⟩ := hd l h3
    obtain ⟨e1, e2, e3⟩ := rowK_arg s1 hsim hvs hvals
    rw [e1]
    refine ⟨⟨fn, hf, hname, hb⟩, (h l h3 w (θ 0) e2).mono ?_⟩
    rintro ex w' ⟨⟨u, rfl⟩, ht⟩
    obtain ⟨o0, o1, o2⟩ := wide_flat s2
    have hg' : ∀ o x, (⟨enumO 0 [.row e k (out l)], 1⟩ : Heap).get o = some x → o = 0 ∧ x = .row e k (out l) := fun o x hx => by
      rw [get_enumO] at hx
      match o, hx with
      | 0, hx => exact ⟨rfl, by simpa using hx.symm⟩
      | n + 1, hx => simp at hx
    refine ⟨u, rfl, θ, ⟨Nat.le_trans hsim.size ht.size, fun o x hx => ?_, fun o o' x x' hx hx' _ _ hne => ?_⟩, .junk _, ⟨ht.os, ht.tape, ht.output, ht.size, fun b b1 b2 => ht.block b (Nat.lt_of_lt_of_le b1 hsim.size) fun hbl => ?_⟩, ?_⟩
    · obtain ⟨rfl, rfl⟩ := hg' o x hx
      refine ⟨hk, o1, o2, (flat (out l)).map D.val, by rw [s3]; exact ht.own, e3, fun i hi u hu => ?_⟩
      rw [List.getElem?_map, List.getElem?_eq_getElem hi] at hu
      simp only [Option.map_some, Option.some.injEq] at hu
      subst hu
      exact scalar_reads (List.all_eq_true.1 o0 _ (List.getElem_mem hi))
    · exact absurd ((hg' o x hx).1.trans (hg' o' x' hx').1.symm) hne
    · rcases e3 b hbl with h4 | h4
      · omega
      · exact b2 h4
    · intro o x' _ hx
      obtain ⟨rfl, rfl⟩ := hg' o x' hx
      exact ⟨.row e k l, rfl, by simp [Obj.evo, s3], fun _ => rfl⟩
  · cases hg
end
end Go.Ab
