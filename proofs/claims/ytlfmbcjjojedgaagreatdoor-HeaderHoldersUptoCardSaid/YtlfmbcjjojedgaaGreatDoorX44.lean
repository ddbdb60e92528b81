/-
  One text of the proof (own work): contracts of functions of the program, by the abstract machine.
-/
import Derived.Test.YtlfmbcjjojedgaaGreatDoorX19
import Derived.Test.YtlfmbcjjojedgaaGreatDoorX43
import Derived.Test.YtlfmbcjjojedgaaGreatDoorX40
import Derived.Test.YtlfmbcjjojedgaaGreatDoorX18
import Derived.Test.YtlfmbcjjojedgaaGreatDoorX29
set_option linter.unusedVariables false
set_option linter.unusedSimpArgs false
namespace Go.Ab
open Go Go.RowKit Go.Proofs
set_option maxRecDepth 10000
set_option maxHeartbeats 16000000
theorem scanB_len (s : Bs) : (scanB s).length ≤ s.length + 1 := Nat.le_trans (scanGo_len _ _) (splitB_len 10 s)
noncomputable def g_law36a : List D → Option D := encSpec (fun x : Bs => [.str x]) (fun x : Bs => x.length ≤ 1099511627776) (fun x : Bs => .bool true)
theorem f_law36a_ok : PureOK Tryz.prog 3 true g_law36a := by
  have hΓ := Γp f_wk36_ok (Γo f_scan_ok (Γp f_scanR36_ok (Γp f_equalH_ok (Γp f_stripP_ok (Γp f_stripR36_ok (Γn))))))
  refine pure_enc (n := 22) (rs := [.tmp 2]) Tryz.func3 (by kernel_rfl) rfl (by kernel_rfl) (by kernel_rfl) ?_
  rintro s hd
  (try dsimp only at hd ⊢)
  refine ⟨fun _ => by (repeat (first | exact .int _ _ | exact .bool _ | exact .str _ | (refine .tup _ (fun d hd => ?_); simp only [List.mem_cons, List.not_mem_nil, or_false] at hd; rcases hd with rfl | hd))), fun k hz0 => ?_⟩
  have e0 := g_wk36_eq
  rw [start_frame (by simp)]; simp only [enumV, go_sem, emptyH]
  by_cases hl : (s.length : Int) > 4000
  · have h1 : decide ((s.length : Int) > 4000) = true := decide_eq_true hl
    repeat (first
      | (apply axJ; (focus ((with_reducible constructor) <;> rfl)))
      | (apply awT mixedOK hΓ (by kernel_rfl); (simp (disch := omega) only [go_sem, ↓reduceIte, dk, ↓lk, Int.reduceBEq, Int.reduceBNe, Bool.true_bne, Bool.false_bne, Bool.not_true, Bool.not_false, e0, h1] <;> with_reducible rfl))
      | ((first | apply awR hΓ | apply awG | apply awH mixedOK hΓ rfl (by kernel_rfl) | apply ovE rfl); (simp (disch := omega) only [go_sem, ↓reduceIte, dk, ↓lk, Int.reduceBEq, Int.reduceBNe, Bool.true_bne, Bool.false_bne, Bool.not_true, Bool.not_false, e0, h1] <;> with_reducible rfl); exact trivial)
      | rfl)
    try rfl
  · have h1 : decide ((s.length : Int) > 4000) = false := decide_eq_false hl
    have hs : s.length ≤ 1000000000 := by omega
    have hsl := scanB_len s
    have e1 := g_scan_eq hs
    have e2 := g_scanR36_eq hs
    have e3 := g_equalH_eq (a := scanB s) (b := scanB s) ⟨by omega, by omega⟩
    rw [decide_eq_true rfl] at e3
    have e4 := g_stripP_eq hs
    have e5 := g_stripR36_eq hs
    generalize scanB s = l at *
    generalize stripB s = t at *
    repeat (first
      | (apply axJ; (focus ((with_reducible constructor) <;> rfl)))
      | (apply awT mixedOK hΓ (by kernel_rfl); (simp (disch := omega) only [go_sem, ↓reduceIte, dk, ↓lk, Int.reduceBEq, Int.reduceBNe, Bool.true_bne, Bool.false_bne, Bool.not_true, Bool.not_false, BEq.rfl, e0, h1, e1, e2, e3, e4, e5] <;> with_reducible rfl))
      | ((first | apply awR hΓ | apply awG | apply awH mixedOK hΓ rfl (by kernel_rfl) | apply ovE rfl); (simp (disch := omega) only [go_sem, ↓reduceIte, dk, ↓lk, Int.reduceBEq, Int.reduceBNe, Bool.true_bne, Bool.false_bne, Bool.not_true, Bool.not_false, BEq.rfl, e0, h1, e1, e2, e3, e4, e5] <;> with_reducible rfl); exact trivial)
      | rfl)
    try rfl
noncomputable def g_law36c : List D → Option D := encSpec (fun x : Bs × Int × Bs => [.str x.1, i64 x.2.1, .str x.2.2]) (fun x : Bs × Int × Bs => x.1.length ≤ 1099511627776 ∧ x.2.2.length ≤ 1099511627776) (fun x : Bs × Int × Bs => .bool true)
theorem f_law36c_ok : PureOK Tryz.prog 5 true g_law36c := by
  have hΓ := Γp f_wk36_ok (Γp f_writeP_ok (Γp f_writeR36_ok (Γp f_putP_ok (Γp f_putR36_ok (Γn)))))
  refine pure_enc (n := 69) (rs := [.tmp 6]) Tryz.func5 (by kernel_rfl) rfl (by kernel_rfl) (by kernel_rfl) ?_
  rintro ⟨s, m, u⟩ hd
  (try dsimp only at hd ⊢)
  refine ⟨fun _ => by (repeat (first | exact .int _ _ | exact .bool _ | exact .str _ | (refine .tup _ (fun d hd => ?_); simp only [List.mem_cons, List.not_mem_nil, or_false] at hd; rcases hd with rfl | hd))), fun k hz0 => ?_⟩
  obtain ⟨d1, d2⟩ := hd
  have e0 := g_wk36_eq
  rw [start_frame (by simp)]; simp only [enumV, go_sem, emptyH]
  by_cases hl : (s.length : Int) > 3000
  · have h1 : decide ((s.length : Int) > 3000) = true := decide_eq_true hl
    repeat (first
      | (apply axJ; (focus ((with_reducible constructor) <;> rfl)))
      | (apply awT mixedOK hΓ (by kernel_rfl); (simp (disch := omega) only [go_sem, ↓reduceIte, dk, ↓lk, Int.reduceBEq, Int.reduceBNe, Bool.true_bne, Bool.false_bne, Bool.not_true, Bool.not_false, e0, h1] <;> with_reducible rfl))
      | ((first | apply awR hΓ | apply awG | apply awH mixedOK hΓ rfl (by kernel_rfl) | apply ovE rfl); (simp (disch := omega) only [go_sem, ↓reduceIte, dk, ↓lk, Int.reduceBEq, Int.reduceBNe, Bool.true_bne, Bool.false_bne, Bool.not_true, Bool.not_false, e0, h1] <;> with_reducible rfl); exact trivial)
      | rfl)
    try rfl
  have h1 : decide ((s.length : Int) > 3000) = false := decide_eq_false hl
  by_cases hu : (u.length : Int) > 400
  · have h2 : decide ((u.length : Int) > 400) = true := decide_eq_true hu
    repeat (first
      | (apply axJ; (focus ((with_reducible constructor) <;> rfl)))
      | (apply awT mixedOK hΓ (by kernel_rfl); (simp (disch := omega) only [go_sem, ↓reduceIte, dk, ↓lk, Int.reduceBEq, Int.reduceBNe, Bool.true_bne, Bool.false_bne, Bool.not_true, Bool.not_false, e0, h1, h2] <;> with_reducible rfl))
      | ((first | apply awR hΓ | apply awG | apply awH mixedOK hΓ rfl (by kernel_rfl) | apply ovE rfl); (simp (disch := omega) only [go_sem, ↓reduceIte, dk, ↓lk, Int.reduceBEq, Int.reduceBNe, Bool.true_bne, Bool.false_bne, Bool.not_true, Bool.not_false, e0, h1, h2] <;> with_reducible rfl); exact trivial)
      | rfl)
    try rfl
  have h2 : decide ((u.length : Int) > 400) = false := decide_eq_false hu
  have e1 := g_writeP_eq (m := m) (s := u) d2
  have e2 := g_writeR36_eq (m := m) (s := u) d2
  have e3 := g_putP_eq (s := s) (m := m) (u := u) ⟨by omega, by omega⟩
  have e4 := g_putR36_eq (s := s) (m := m) (u := u) ⟨by omega, by omega⟩
  generalize writeB m u = p at *
  generalize putB s m u = q at *
  obtain ⟨p1, p2⟩ := p
  obtain ⟨q1, q2⟩ := q
  dsimp only at e1 e2 e3 e4
  repeat (first
    | (apply axJ; (focus ((with_reducible constructor) <;> rfl)))
    | (apply awT mixedOK hΓ (by kernel_rfl); (simp (disch := omega) only [go_sem, ↓reduceIte, dk, ↓lk, Int.reduceBEq, Int.reduceBNe, Bool.true_bne, Bool.false_bne, Bool.not_true, Bool.not_false, BEq.rfl, e0, h1, h2, e1, e2, e3, e4] <;> with_reducible rfl))
    | ((first | apply awR hΓ | apply awG | apply awH mixedOK hΓ rfl (by kernel_rfl) | apply ovE rfl); (simp (disch := omega) only [go_sem, ↓reduceIte, dk, ↓lk, Int.reduceBEq, Int.reduceBNe, Bool.true_bne, Bool.false_bne, Bool.not_true, Bool.not_false, BEq.rfl, e0, h1, h2, e1, e2, e3, e4] <;> with_reducible rfl); exact trivial)
    | rfl)
  try rfl
theorem fewH_len {l : List Hd} (h : fewH l = true) : l.length ≤ 30 ∧ sumT l ≤ 1500 := by
  unfold fewH at h
  simp only [Bool.and_eq_true, Bool.not_eq_true', decide_eq_false_iff_not, decide_eq_true_eq] at h
  omega
theorem holdP_len (l : List Hd) : (holdP l).length ≤ l.length := by
  unfold holdP
  have h1 := comp_len (sortB (holdT l))
  have h2 := sortB_len (holdT l)
  have h3 := holdT_len l
  omega
end Go.Ab
namespace Go.Ab
open Go Go.RowKit Go.Proofs
set_option maxRecDepth 100000
set_option maxHeartbeats 40000000
theorem eq_nilH (ao : Option Addr) (n cap : Nat) (w : World) : (binOp BinOp.eql 24 (.slice ao n cap) (.slice none 0 0)).run Tryz.prog w = .ok (.bool ao.isNone) w := by
  have heq : ∀ k, (Op.equalIn (k + 1) 24 (.slice ao n cap) (.slice none 0 0)).run Tryz.prog w = .ok ao.isNone w := fun k => by
    simp only [Op.equalIn, Sem.run_bind, run_underlying ty_und24, Result.andThen_ok, Sem.run_pure]
    cases ao <;> simp
  have h2 : (Op.equal 24 (.slice ao n cap) (.slice none 0 0)).run Tryz.prog w = .ok ao.isNone w := heq 9999
  simp only [binOp, Sem.run_bind, h2, Result.andThen_ok, Sem.run_pure]
theorem callCloH (ao : Option Addr) (cap : Nat) (w : World) :
    Calls Tryz.prog 36 #[.slice ao 0 cap] w fun e w' => ∃ v, e = .returned v ∧ ownsM w' w.heap.size 26 3 v 0 [] ∧ Below w.heap.size w w' := by
  cases ao with
  | none =>
    go_enter Tryz.func36, Tryz.ntmps36
    go_wp2
    rw [eq_nilH]
    simp only [Result.andThen]
    rw [Oper.upon_value]
    go_wp2
    go_ret
    exact ⟨_, rfl, ⟨rfl, .inl ⟨rfl, rfl⟩⟩, Below.refl _ _⟩
  | some a =>
    go_enter Tryz.func36, Tryz.ntmps36
    go_wp2
    rw [eq_nilH]
    simp only [Result.andThen]
    rw [Oper.upon_value]
    go_wp2
    go_ret
    exact ⟨_, rfl, ownsM_lit w #[] 0 (Nat.le_refl _) (Nat.zero_le _) rfl, (Below.refl _ _).alloc (Nat.le_refl _) _⟩
theorem f_cloH_ex : ∃ g, OwnOK Tryz.prog 36 g ∧ ∀ l : List Hd, l.length ≤ 1099511627776 ∧ l ≠ [] → ∃ m, m = l.map eHd ∧ g [.list (l.map eHd)] = some (26, 3, m) := by
  have hΓ := Γ0_ok
  refine own_ex (enc := fun l : List Hd => [.list (l.map eHd)]) (dom := fun l => l.length ≤ 1099511627776 ∧ l ≠ []) (good := fun l m => m = l.map eHd) (t := 26) (sz := 3) (n := 8) (rs := [.tmp 2]) (by omega) Tryz.func36 (by kernel_rfl) rfl (by kernel_rfl) (by kernel_rfl) (fun a b h => by
    simp only [List.cons.injEq, and_true, D.list.injEq] at h
    exact cast (eHd_ie _ _) h) ?_
  rintro l ⟨hl, hne⟩
  obtain ⟨x, l, rfl⟩ := List.exists_cons_of_ne_nil hne
  refine ⟨fun l' hm => hm ▸ elemsOK_map (f := eHd) (sz := 3) (fun _ => ⟨rfl, rfl⟩) _, ?_⟩
  rw [List.map_cons, eHd_eq]
  rw [start_frame (by simp)]; simp only [enumV, go_sem, emptyH]
  have hem : elemsOK 3 (l.map eHd) = true := elemsOK_map (f := eHd) (sz := 3) (fun _ => ⟨rfl, rfl⟩) l
  have hml : (l.map eHd).length + 1 ≤ 1099511627776 := by simpa using hl
  generalize l.map eHd = m at *
  (repeat (first | (apply axJ; (focus ((with_reducible constructor) <;> rfl))) | ((first | apply axR hΓ | apply axG | apply ovX rfl | apply ovE rfl); (simp (disch := omega) only [go_sem, ↓reduceIte, ↓lk, dk, hem] <;> with_reducible rfl); exact trivial) | rfl))
  exact reto_x (o := 3) (l := eHd x :: m) rfl (by simp [go_sem]) rfl rfl
open Classical in
noncomputable def g_cloH : List D → Option (TypeId × Nat × List D) := fun ds => if ds = [.list []] then some (26, 3, []) else f_cloH_ex.choose ds
theorem g_cloH_eq {l : List Hd} (h : l.length ≤ 1099511627776) : g_cloH [.list (l.map eHd)] = some (26, 3, l.map eHd) := by
  cases l with
  | nil => rw [List.map_nil]; exact if_pos rfl
  | cons x l =>
    obtain ⟨m, rfl, h2⟩ := f_cloH_ex.choose_spec.2 (x :: l) ⟨h, by simp⟩
    rw [← h2]
    exact if_neg (by simp)
theorem f_cloH_ok : OwnOK Tryz.prog 36 g_cloH := by
  intro ds e sz l hd
  unfold g_cloH at hd
  by_cases hds : ds = [.list []]
  · rw [if_pos hds] at hd
    cases hd
    subst hds
    refine ⟨by omega, by simp, by simp [flat], fun w B vs hB hz hvs => ⟨⟨_, Tryz.func36, rfl, rfl⟩, ?_⟩⟩
    obtain ⟨u, hu⟩ : ∃ u, vs[0]? = some u := ⟨_, Array.getElem?_eq_getElem (by simp at hz; omega)⟩
    obtain ⟨ao, cap, hv, _⟩ := (hvs 0 (by simp) u hu).list_inv
    have hvs2 : vs = #[.slice ao 0 cap] := by
      apply Array.ext_getElem?
      intro i
      match i with
      | 0 => rw [hu, hv]; rfl
      | i + 1 => rw [Array.getElem?_eq_none (by simp at hz; omega), Array.getElem?_eq_none (by simp)]
    rw [hvs2]
    refine (callCloH ao cap w).mono ?_
    rintro e w' ⟨v, rfl, ho, hb⟩
    exact ⟨_, rfl, ⟨[], ho, fun i hi => by simp [flat] at hi⟩, hb⟩
  · rw [if_neg hds] at hd
    exact f_cloH_ex.choose_spec.1 ds e sz l hd
end Go.Ab
namespace Go.Ab
open Go Go.RowKit Go.Proofs
set_option maxRecDepth 100000
set_option maxHeartbeats 16000000
def rv (L : List D) (i : Nat) : List D := List.ofFn fun k : Fin L.length => if k.1 < i ∨ L.length ≤ k.1 + i then L[L.length - 1 - k.1]'(by have := k.2; omega) else L[k.1]
theorem rv_len (L : List D) (i : Nat) : (rv L i).length = L.length := by simp [rv]
theorem rv_get (L : List D) (i k : Nat) (h : k < L.length) : (rv L i)[k]'(by rw [rv_len]; exact h) = if k < i ∨ L.length ≤ k + i then L[L.length - 1 - k]'(by omega) else L[k] := by
  simp [rv]
theorem rv_zero (L : List D) : rv L 0 = L := by
  apply List.ext_getElem (rv_len L 0)
  intro k h1 h2
  rw [rv_get L 0 k h2, if_neg (by omega)]
theorem rv_end (L : List D) (i : Nat) (h : L.length ≤ 2 * i + 1) : rv L i = L.reverse := by
  apply List.ext_getElem (by rw [rv_len]; simp)
  intro k h1 h2
  have h3 : k < L.length := by rw [rv_len] at h1; exact h1
  rw [rv_get L i k h3, List.getElem_reverse]
  split
  · rfl
  · congr 1; omega
theorem rv_step (L : List D) (i : Nat) (h : 2 * i + 1 < L.length) (a b : D) (ha : a = L[i]'(by omega)) (hb : b = L[L.length - 1 - i]'(by omega)) : ((rv L i).set i b).set (L.length - 1 - i) a = rv L (i + 1) := by
  subst ha hb
  apply List.ext_getElem (by simp [rv_len])
  intro k h1 h2
  have h3 : k < L.length := by rw [rv_len] at h2; exact h2
  rw [List.getElem_set, List.getElem_set, rv_get L i k h3, rv_get L (i + 1) k h3]
  by_cases c1 : L.length - 1 - i = k
  · rw [if_pos c1, if_pos (by omega)]
    congr 1; omega
  · rw [if_neg c1]
    by_cases c2 : i = k
    · rw [if_pos c2, if_pos (by omega)]
      congr 1; omega
    · rw [if_neg c2]
      by_cases c3 : k < i ∨ L.length ≤ k + i
      · rw [if_pos c3, if_pos (by omega)]
      · rw [if_neg c3, if_neg (by omega)]
noncomputable def g_revH := locSpec (fun l : List Hd => [.row 0 l.length]) (fun l => [.row 26 3 (l.map eHd)]) (fun l => l.length ≤ 1000000) (fun l => (.tup [], [.row 26 3 (l.reverse.map eHd)]))
theorem g_revH_eq {l : List Hd} (h : l.length ≤ 1000000) : g_revH [.row 0 l.length] [.row 26 3 (l.map eHd)] = some (.tup [], [.row 26 3 (l.reverse.map eHd)]) := locSpec_eq (x := l) h fun y _ hy => by
  simp only [List.cons.injEq, Obj.row.injEq, and_true, true_and, eHd_ie] at hy
  rw [hy]
theorem f_revH_ok : LocOK Tryz.prog 37 g_revH := by
  have hΓ := Γ0_ok
  refine loc_enc (n := 28) (rs := []) Tryz.func37 (by kernel_rfl) rfl (by kernel_rfl) (by kernel_rfl) ?_
  intro l hl k hbase
  replace hbase : k.base = 1 := hbase
  have hem := elemsOK_hd l
  have hL : (l.map eHd).length = l.length := by simp
  rw [start_frameA (by simp)]; simp only [enumA, enumO, List.length_cons, List.length_nil, Nat.reduceAdd, go_sem]
  repeat (first
    | (apply axJ; (focus ((with_reducible constructor) <;> rfl)))
    | (apply awT mixedOK hΓ (by kernel_rfl); (simp (disch := omega) only [go_sem, ↓reduceIte, dk, ↓lk] <;> with_reducible rfl))
    | ((first | apply awR hΓ | apply awG | apply awH mixedOK hΓ rfl (by kernel_rfl) | apply ovE rfl); (simp (disch := omega) only [go_sem, ↓reduceIte, dk, ↓lk] <;> with_reducible rfl); exact trivial)
    | rfl)
  refine awp_loop_at (X := Nat) (fun i => (frame 28 [(0, .row 0 l.length), (2, .data (i64 i)), (3, .data (i64 ((l.length : Int) - 1 - i)))])) (fun i => [(0, .row 26 3 (rv (l.map eHd) i))]) 9
    (fun i => 2 * i ≤ l.length + 1) (fun i => l.length - i) 0 (by omega) (by rw [rv_zero]; exact Weak.w) ?_
  intro i hi
  (try dsimp only at hi ⊢)
  have hRl : (rv (l.map eHd) i).length = l.length := by rw [rv_len, hL]
  by_cases hij : (i : Int) < (l.length : Int) - 1 - i
  · obtain ⟨j, hj⟩ : ∃ j : Nat, (l.length : Int) - 1 - i = j := ⟨l.length - 1 - i, by omega⟩
    rw [hj] at hij ⊢
    have hil : i < l.length := by omega
    have hjl : j < l.length := by omega
    have hjd : l.length - 1 - i = j := by omega
    have r1 : ∀ h, (rv (l.map eHd) i)[i]'h = eHd l[i] := fun h => by
      rw [rv_get _ _ _ (by rw [hL]; exact hil), if_neg (by rw [hL]; omega), List.getElem_map]
    have r2 : ∀ h, (rv (l.map eHd) i)[j]'h = eHd l[j] := fun h => by
      rw [rv_get _ _ _ (by rw [hL]; exact hjl), if_neg (by rw [hL]; omega), List.getElem_map]
    have hset := rv_step (l.map eHd) i (by rw [hL]; omega) (eHd l[i]) (eHd l[j]) (by rw [List.getElem_map]) (by simp only [hL, hjd]; rw [List.getElem_map])
    rw [hL, hjd] at hset
    generalize l[i] = y at *
    generalize l[j] = z at *
    generalize hR2 : rv (l.map eHd) (i + 1) = R2 at *
    generalize hR1 : rv (l.map eHd) i = R at *
    have hlt : decide ((i : Int) < (j : Int)) = true := decide_eq_true hij
    simp only [eHd_eq] at r1 r2 hset
    have r3 : ∀ v, (R.set i v)[j]? = some (.agg [.int .i64 z.kind, .int .i64 z.line, .str z.text]) := fun v => by
      rw [List.getElem?_set_ne (by omega), List.getElem?_eq_getElem (by omega), r2]
    (repeat (first | (apply axJ; (focus ((with_reducible constructor) <;> rfl))) | ((first | apply awR hΓ | apply awG | apply ovE rfl); (simp (disch := omega) only [go_sem, ↓reduceIte, dk, ↓lk, hlt] <;> with_reducible rfl); exact trivial) | rfl))
    (apply awp_regm (nst := false) (nst' := false) 13 mixedOK hΓ (by kernel_rfl); (simp (disch := omega) only [go_sem, ↓reduceIte, dk, ↓lk, hRl, r1, r2, r3, List.length_set, hset, look_upd] <;> with_reducible rfl); (simp (disch := omega) only [go_sem, ↓reduceIte] <;> with_reducible rfl); (focus rfl); (focus rfl); (simp (disch := omega) only [go_sem, ↓reduceIte, dk, ↓lk, hRl, r1, r2, r3, List.length_set, hset, look_upd] <;> with_reducible rfl); (focus (first | (simp (disch := omega) only [go_sem, ↓reduceIte, dk, ↓lk, hRl, r1, r2, r3, List.length_set, hset, look_upd]; done) | (simp (disch := omega) only [go_sem, ↓reduceIte, dk, ↓lk, hRl, r1, r2, r3, List.length_set, hset, look_upd]; omega))); (focus (dsimp only [List.take_succ_cons, List.take_zero]; (repeat (apply same2_cons; (focus (first | (left; decide) | (right; simp (disch := omega) only [go_sem, ↓reduceIte, dk, ↓lk, hRl, r1, r2, r3, List.length_set, hset, look_upd]; done))); (simp (disch := omega) only [go_sem, ↓reduceIte, dk, ↓lk, hRl, r1, r2, r3, List.length_set, hset, look_upd] <;> with_reducible rfl))); exact same2_nil)); (simp (disch := omega) only [go_sem, ↓reduceIte, dk, ↓lk, hRl, r1, r2, r3, List.length_set, hset, look_upd] <;> with_reducible rfl))
    repeat (first
      | (apply axJ; (focus ((with_reducible constructor) <;> rfl)))
      | (apply awT mixedOK hΓ (by kernel_rfl); (simp (disch := omega) only [go_sem, ↓reduceIte, dk, ↓lk, hRl, List.length_set, hset] <;> with_reducible rfl))
      | ((first | apply awR hΓ | apply awG | apply awH mixedOK hΓ rfl (by kernel_rfl) | apply ovE rfl); (simp (disch := omega) only [go_sem, ↓reduceIte, dk, ↓lk, hRl, List.length_set, hset] <;> with_reducible rfl); exact trivial)
      | rfl)
    have hj2 : (l.length : Int) - 1 - ((i + 1 : Nat) : Int) = (j : Int) - 1 := by omega
    exact ⟨i + 1, by omega, by omega, by rw [hR2, hj2]; exact Weak.w⟩
  · have hlt : decide ((i : Int) < (l.length : Int) - 1 - i) = false := decide_eq_false hij
    have he := rv_end (l.map eHd) i (by rw [hL]; omega)
    repeat (first
      | (apply axJ; (focus ((with_reducible constructor) <;> rfl)))
      | (apply awT mixedOK hΓ (by kernel_rfl); (simp (disch := omega) only [go_sem, ↓reduceIte, dk, ↓lk, hlt] <;> with_reducible rfl))
      | ((first | apply awR hΓ | apply awG | apply awH mixedOK hΓ rfl (by kernel_rfl) | apply ovE rfl); (simp (disch := omega) only [go_sem, ↓reduceIte, dk, ↓lk, hlt] <;> with_reducible rfl); exact trivial)
      | rfl)
    rw [he, ← List.map_reverse]
    refine retL_x (x := .tup []) ?_ ?_ ?_
    · rfl
    · rfl
    · exact Weak.of (by simp) ⟨rfl, trivial⟩ (by simp [TabSub, enumO, look, Obj.refsOK, refsOKs, AV.refsOK]) rfl
end Go.Ab
