/-
  One text of the proof (own work): contracts of functions of the program, by the abstract machine.
-/
import Derived.Test.YtdodjhiofpiaaaaGreatDoorX19
import Derived.Test.YtdodjhiofpiaaaaGreatDoorX26
set_option linter.unusedVariables false
set_option linter.unusedSimpArgs false
namespace Go.Ab
open Go Go.RowKit Go.Proofs
set_option maxRecDepth 10000
set_option maxHeartbeats 8000000
def WL (l : List Bs) : Prop := l.length ≤ 1099511627776 ∧ ∀ w ∈ l, w.length ≤ 1099511627776
theorem splitB_no (c : UInt8) (s : Bs) : ∀ w ∈ splitB c s, ∀ b ∈ w, b ≠ c := by
  induction s with
  | nil => intro w hw; simp [splitB] at hw; simp [hw]
  | cons x r ih =>
    intro w hw
    rw [splitB] at hw
    split at hw
    · rcases List.mem_cons.1 hw with rfl | hw
      · simp
      · exact ih w hw
    · rename_i hx
      cases hs : splitB c r with
      | nil => exact absurd hs (splitB_ne c r)
      | cons y l =>
        rw [hs] at hw ih
        rcases List.mem_cons.1 hw with rfl | hw
        · intro b hb
          rcases List.mem_append.1 hb with hb | hb
          · rw [List.mem_singleton.1 hb]; intro h; exact hx (by rw [h]; exact BEq.rfl)
          · exact ih y (by simp) b hb
        · exact ih w (by simp [hw])
theorem gAll_all {P : Bs → Prop} (l : List Bs) (hl : ∀ w ∈ l, P w) : ∀ (p : List Gp × Gp), (∀ g ∈ p.1, P g.name ∧ ∀ w ∈ g.words, P w) → (P p.2.name ∧ ∀ w ∈ p.2.words, P w) →
    (∀ g ∈ (l.foldl gstep p).1, P g.name ∧ ∀ w ∈ g.words, P w) ∧ (P (l.foldl gstep p).2.name ∧ ∀ w ∈ (l.foldl gstep p).2.words, P w) := by
  induction l with
  | nil => intro p h1 h2; exact ⟨h1, h2⟩
  | cons w l ih =>
    intro p h1 h2
    rw [List.foldl_cons]
    have hw := hl w (by simp)
    refine ih (fun v hv => hl v (by simp [hv])) _ ?_ ?_
    · unfold gstep
      split
      · intro g hg
        rcases List.mem_append.1 hg with hg | hg
        · exact h1 g hg
        · rw [List.mem_singleton.1 hg]; exact h2
      · exact h1
    · unfold gstep
      split
      · exact ⟨hw, fun v hv => by simp at hv⟩
      · refine ⟨h2.1, fun v hv => ?_⟩
        rcases List.mem_append.1 hv with hv | hv
        · exact h2.2 v hv
        · rw [List.mem_singleton.1 hv]; exact hw
theorem gList_all {P : Bs → Prop} {nm : Bs} {l : List Bs} (hn : P nm) (hl : ∀ w ∈ l, P w) : ∀ g ∈ gList nm l, P g.name ∧ ∀ w ∈ g.words, P w := by
  have h := gAll_all l hl ([], ⟨nm, []⟩) (fun g hg => by simp at hg) ⟨hn, fun v hv => by simp at hv⟩
  intro g hg
  rcases List.mem_append.1 hg with hg | hg
  · exact h.1 g hg
  · rw [List.mem_singleton.1 hg]; exact h.2
theorem gAll_wl (N : Nat) (l : List Bs) : ∀ (p : List Gp × Gp), (∀ g ∈ p.1, g.words.length ≤ N) → p.2.words.length + l.length ≤ N →
    (∀ g ∈ (l.foldl gstep p).1, g.words.length ≤ N) ∧ (l.foldl gstep p).2.words.length ≤ N := by
  induction l with
  | nil => intro p h1 h2; exact ⟨h1, h2⟩
  | cons w l ih =>
    intro p h1 h2
    rw [List.foldl_cons]
    simp only [List.length_cons] at h2
    refine ih _ ?_ ?_
    · unfold gstep
      split
      · intro g hg
        rcases List.mem_append.1 hg with hg | hg
        · exact h1 g hg
        · rw [List.mem_singleton.1 hg]; omega
      · exact h1
    · unfold gstep
      split
      · simp only [List.length_nil]; omega
      · simp only [List.length_append, List.length_cons, List.length_nil]; omega
theorem gList_wl (nm : Bs) (l : List Bs) : ∀ g ∈ gList nm l, g.words.length ≤ l.length := by
  have h := gAll_wl l.length l ([], ⟨nm, []⟩) (fun g hg => by simp at hg) (by simp)
  intro g hg
  rcases List.mem_append.1 hg with hg | hg
  · exact h.1 g hg
  · rw [List.mem_singleton.1 hg]; exact h.2
theorem gList_len (nm : Bs) (l : List Bs) : (gList nm l).length ≤ l.length + 1 := by
  have := (gAll_bd nm l).1
  unfold gList
  rw [List.length_append, List.length_singleton]
  omega
theorem gList_ne (nm : Bs) (l : List Bs) : gList nm l ≠ [] := by unfold gList; simp
theorem formS_bd (M : Nat) : ∀ (l : List Gp), (∀ g ∈ l, g.name.length ≤ M) → (formS l).length ≤ (M + 2) * l.length
  | [], _ => by simp [formS]
  | g :: l, h => by
    have h1 := h g (by simp)
    have h2 := formS_bd M l (fun x hx => h x (by simp [hx]))
    rw [formS]
    simp only [List.length_append, List.length_cons, List.length_nil, Nat.mul_add]
    omega
theorem gAt_wl {l : List Gp} (h : ∀ g ∈ l, WL g.words) (i : Nat) : WL (gAt l i) := by
  unfold gAt
  rw [List.getD_eq_getElem?_getD]
  cases he : l[i]? with
  | none => exact ⟨by simp, fun w hw => by simp at hw⟩
  | some g => exact h g (List.mem_of_getElem? he)
theorem headD_bd {l : List Bs} (h : WL l) : (l.headD []).length ≤ 1099511627776 := by
  cases l with
  | nil => simp
  | cons w r => exact h.2 w (by simp)
theorem wl_nil : WL [] := ⟨by simp, fun w hw => by simp at hw⟩
theorem wl_two {a b : Bs} (ha : a.length ≤ 1099511627776) (hb : b.length ≤ 1099511627776) : WL [a, b] := ⟨by simp, fun w hw => by
  rcases List.mem_cons.1 hw with rfl | hw
  · exact ha
  · rw [List.mem_singleton.1 hw]; exact hb⟩
theorem wl_drop {l : List Bs} (h : WL l) (n : Nat) : WL (l.drop n) := ⟨by have := h.1; rw [List.length_drop]; omega, fun w hw => h.2 w (List.mem_of_mem_drop hw)⟩
theorem wl_take {l : List Bs} (h : WL l) (n : Nat) : WL (l.take n) := ⟨by have := h.1; rw [List.length_take]; omega, fun w hw => h.2 w (List.mem_of_mem_take hw)⟩
theorem step_ok {l : List Gp} (h : ∀ g ∈ l, WL g.words) : StOK (stepR l).1 := by
  have g := gAt_wl h
  have ho : (outR l).length ≤ 1099511627776 := by
    unfold outR
    split
    · exact headD_bd (g _)
    · simp
  unfold stepR stepG
  repeat' split
  all_goals first
    | exact ⟨g _, wl_nil, wl_nil, ho⟩
    | exact ⟨g _, wl_nil, g _, headD_bd (g _)⟩
    | exact ⟨wl_drop (g _) _, wl_nil, wl_take (g _) _, ho⟩
    | exact ⟨wl_drop (g _) _, g _, wl_take (g _) _, ho⟩
    | exact ⟨wl_two (headD_bd (g _)) (headD_bd (g _)), wl_nil, wl_nil, ho⟩
    | exact ⟨wl_two (headD_bd (g _)) (headD_bd (g _)), g _, wl_nil, ho⟩
    | exact ⟨wl_nil, wl_nil, wl_nil, by simp⟩
def dupB (pre : List Bs) : List Bs → Bool
  | [] => false
  | w :: r => hasB pre w || dupB (pre ++ [w]) r
theorem dup_next {l : List Bs} {i : Nat} (hi : i < l.length) : dupB (l.take i) (l.drop i) = (hasB (l.take i) l[i] || dupB (l.take (i + 1)) (l.drop (i + 1))) := by
  rw [List.drop_eq_getElem_cons hi, dupB, List.take_add_one, List.getElem?_eq_getElem hi]
  rfl
def zStp : Stp := ⟨0, 0, [], [], [], []⟩
def lineS (x : Stp) : Stp × Int := if namedB x then (if x.kind == 1 && dupB [] x.wds then (zStp, 6) else (x, 0)) else (zStp, 2)
def lineP (p : Stp × Bool) : Stp × Int := if p.2 then lineS p.1 else (zStp, 4)
def lineR (s : Bs) : Stp × Int := if (splitB 32 s).any (· == []) then (zStp, 4) else lineP (stepR (gList ((splitB 32 s).headD []) (splitB 32 s).tail))
def eLn (p : Stp × Int) : D := .tup [eSt p.1, i64 p.2]
noncomputable def g_line14 : List D → Option D := encSpec (fun x : Bs => [.str x]) (fun x : Bs => x.length ≤ 1000000) (fun x : Bs => eLn (lineR x))
theorem g_line14_eq {s : Bs} (hd : s.length ≤ 1000000) : g_line14 [.str s] = some (eLn (lineR s)) := encSpec_eq (x := s) hd fun y hy => by
    simp only [List.cons.injEq, and_true, true_and, D.str.injEq, D.int.injEq, D.list.injEq, D.bool.injEq, D.agg.injEq, D.clo.injEq, Int.natCast_inj, inj_ie] at hy
    rw [hy]
theorem f_line14_ok : PureOK Tryz.prog 28 false g_line14 := by
  have hΓ := Γp f_splitR_ok (Γp f_partsR_ok (Γp f_step14_ok (Γp f_named_ok (Γp f_has_ok (Γn)))))
  refine pure_enc (n := 56) (rs := [.cell 2 31, .tmp 3]) Tryz.func28 (by kernel_rfl) rfl (by kernel_rfl) (by kernel_rfl) ?_
  rintro s hd
  (try dsimp only at hd ⊢)
  refine ⟨fun h => (by cases h), fun k hz0 => ?_⟩
  have e1 := g_splitR_eq (s := s) (c := 32) (Nat.le_trans hd (by decide))
  have h1 := splitB_len 32 s
  have h2 : ∀ w ∈ splitB 32 s, w.length ≤ 1000000 := fun w hw => Nat.le_trans (splitB_mem_len 32 s w hw) hd
  have h3 := splitB_no 32 s
  have h4 := splitB_ne 32 s
  unfold lineR
  generalize splitB 32 s = ws at *
  have hws : ws.length ≤ 1000001 := by omega
  have e2 := g_partsR_eq (l := ws) ⟨h4, by omega, fun w hw => Nat.le_trans (h2 w hw) (by decide)⟩
  have hhd : ws.headD [] ∈ ws := by
    cases ws with
    | nil => exact absurd rfl h4
    | cons w r => simp
  have htl : ∀ w ∈ ws.tail, w ∈ ws := fun w hw => List.mem_of_mem_tail hw
  have g1 := gList_all (P := fun w => w.length ≤ 1000000) (nm := ws.headD []) (l := ws.tail) (h2 _ hhd) (fun w hw => h2 _ (htl w hw))
  have g2 := gList_all (P := fun w => ∀ b ∈ w, b ≠ 32) (nm := ws.headD []) (l := ws.tail) (h3 _ hhd) (fun w hw => h3 _ (htl w hw))
  have g3 := gList_wl (ws.headD []) ws.tail
  have g4 := gList_len (ws.headD []) ws.tail
  have g5 := gList_ne (ws.headD []) ws.tail
  rw [List.length_tail] at g3 g4
  generalize gList (ws.headD []) ws.tail = gl at *
  have g6 := formS_bd 1000000 gl (fun g hg => (g1 g hg).1)
  have g7 : (formS gl).length ≤ 1099511627776 := by omega
  have e3 := g_step14_eq (l := gl) ⟨g5, by omega, g7, fun g hg => Nat.le_trans (g3 g hg) (by omega), fun g hg => (g2 g hg).1⟩
  have hx := step_ok (l := gl) (fun g hg => ⟨Nat.le_trans (g3 g hg) (by omega), fun w hw => Nat.le_trans ((g1 g hg).2 w hw) (by decide)⟩)
  unfold lineP
  rcases hst : stepR gl with ⟨x, b⟩
  rw [hst] at e3 hx
  replace e3 : g_step14 [.list (gl.map eGp)] = some (.tup [.agg [.int .i64 x.line, .int .i64 x.kind, .list (x.inn.map .str), .list (x.usg.map .str), .list (x.wds.map .str), .str x.out], .bool b]) := e3
  replace e1 : g_splitR [.str s, .int .u8 32] = some (.list (ws.map .str)) := e1
  clear g1 g2 g3 g4 g5 g6 g7 h1 hhd htl hst h3 h4
  rw [start_frame (by simp)]; simp only [enumV, go_sem, emptyH]
  repeat (first
    | (apply axJ; (focus ((with_reducible constructor) <;> rfl)))
    | (apply awT mixedOK hΓ (by kernel_rfl); (simp (disch := omega) only [go_sem, ↓reduceIte, dk, ↓lk, e1] <;> with_reducible rfl))
    | ((first | apply awR hΓ | apply awG | apply awH mixedOK hΓ rfl (by kernel_rfl) | apply ovE rfl); (simp (disch := omega) only [go_sem, ↓reduceIte, dk, ↓lk, e1] <;> with_reducible rfl); exact trivial)
    | rfl)
  refine awp_loop_at (X := Nat) (fun i => (frame 56 [(2, .ptr 0 0), (4, .data (.list (ws.map .str))), (13, .data (.list (ws.map .str))), (14, .data (i64 ws.length)), (15, .data (i64 i))])) (fun _ => [(0, .box [.data (.int .i64 0), .data (.int .i64 0), .nils, .nils, .nils, .data (.str [])])]) 10
    (fun i => i ≤ ws.length ∧ (ws.take i).any (· == []) = false) (fun i => ws.length - i) 0 ⟨Nat.zero_le _, rfl⟩ (Weak.w) ?_
  rintro i ⟨hi, hp⟩
  by_cases hi2 : i < ws.length
  · have hno := fun h => any_next (p := (· == [])) hi2 hp h
    have hyes := fun h => any_yes (p := (· == [])) hi2 h
    generalize hy : ws[i] = y at *
    generalize hc : (y == []) = c at *
    cases c
    · repeat (first
      | (apply axJ; (focus ((with_reducible constructor) <;> rfl)))
      | (apply awT mixedOK hΓ (by kernel_rfl); (simp (disch := omega) only [go_sem, ↓reduceIte, dk, ↓lk, hy, hc] <;> with_reducible rfl))
      | ((first | apply awR hΓ | apply awG | apply awH mixedOK hΓ rfl (by kernel_rfl) | apply ovE rfl); (simp (disch := omega) only [go_sem, ↓reduceIte, dk, ↓lk, hy, hc] <;> with_reducible rfl); exact trivial)
      | rfl)
      exact ⟨i + 1, ⟨by omega, hno rfl⟩, by omega, Weak.w⟩
    · rw [hyes rfl]
      repeat (first
        | (apply axJ; (focus ((with_reducible constructor) <;> rfl)))
        | (apply awT mixedOK hΓ (by kernel_rfl); (simp (disch := omega) only [go_sem, ↓reduceIte, dk, ↓lk, ↓ty_build31, hy, hc] <;> with_reducible rfl))
        | ((first | apply awR hΓ | apply awG | apply awH mixedOK hΓ rfl (by kernel_rfl) | apply ovE rfl); (simp (disch := omega) only [go_sem, ↓reduceIte, dk, ↓lk, ↓ty_build31, hy, hc] <;> with_reducible rfl); exact trivial)
        | rfl)
      try rfl
  · have hi3 : i = ws.length := by omega
    subst hi3
    rw [List.take_length] at hp
    rw [hp]
    obtain ⟨xl, xk, xi, xu, xw, xo⟩ := x
    have e4 := g_named_eq hx
    obtain ⟨⟨hi1, hi2⟩, ⟨hu1, hu2⟩, ⟨hw1, hw2⟩, ho⟩ := hx
    unfold lineS
    generalize namedB ⟨xl, xk, xi, xu, xw, xo⟩ = nb at *
    simp only at e3 e4 hw1 hw2
    cases b
    · repeat (first
      | (apply axJ; (focus ((with_reducible constructor) <;> rfl)))
      | (apply awT mixedOK hΓ (by kernel_rfl); (simp (disch := omega) only [go_sem, ↓reduceIte, dk, ↓lk, ↓ty_build31, e2, e3] <;> with_reducible rfl))
      | ((first | apply awR hΓ | apply awG | apply awH mixedOK hΓ rfl (by kernel_rfl) | apply ovE rfl); (simp (disch := omega) only [go_sem, ↓reduceIte, dk, ↓lk, ↓ty_build31, e2, e3] <;> with_reducible rfl); exact trivial)
      | rfl)
      try rfl
    cases nb
    · repeat (first
      | (apply axJ; (focus ((with_reducible constructor) <;> rfl)))
      | (apply awT mixedOK hΓ (by kernel_rfl); (simp (disch := omega) only [go_sem, ↓reduceIte, dk, ↓lk, ↓ty_build31, e2, e3, e4] <;> with_reducible rfl))
      | ((first | apply awR hΓ | apply awG | apply awH mixedOK hΓ rfl (by kernel_rfl) | apply ovE rfl); (simp (disch := omega) only [go_sem, ↓reduceIte, dk, ↓lk, ↓ty_build31, e2, e3, e4] <;> with_reducible rfl); exact trivial)
      | rfl)
      try rfl
    generalize hk : (xk == 1) = kb
    cases kb
    · repeat (first
      | (apply axJ; (focus ((with_reducible constructor) <;> rfl)))
      | (apply awT mixedOK hΓ (by kernel_rfl); (simp (disch := omega) only [go_sem, ↓reduceIte, dk, ↓lk, ↓ty_build31, e2, e3, e4, hk] <;> with_reducible rfl))
      | ((first | apply awR hΓ | apply awG | apply awH mixedOK hΓ rfl (by kernel_rfl) | apply ovE rfl); (simp (disch := omega) only [go_sem, ↓reduceIte, dk, ↓lk, ↓ty_build31, e2, e3, e4, hk] <;> with_reducible rfl); exact trivial)
      | rfl)
      try rfl
    repeat (first
      | (apply axJ; (focus ((with_reducible constructor) <;> rfl)))
      | (apply awT mixedOK hΓ (by kernel_rfl); (simp (disch := omega) only [go_sem, ↓reduceIte, dk, ↓lk, ↓ty_build31, e2, e3, e4, hk] <;> with_reducible rfl))
      | ((first | apply awR hΓ | apply awG | apply awH mixedOK hΓ rfl (by kernel_rfl) | apply ovE rfl); (simp (disch := omega) only [go_sem, ↓reduceIte, dk, ↓lk, ↓ty_build31, e2, e3, e4, hk] <;> with_reducible rfl); exact trivial)
      | rfl)
    refine awp_loop_at (X := Nat) (fun i => (frame 56 [(2, .ptr 0 0), (7, .ptr 17 0), (40, .data (.list (xw.map .str))), (41, .data (i64 xw.length)), (42, .data (i64 i))])) (fun _ => [(0, .box [.data (.int .i64 0), .data (.int .i64 0), .nils, .nils, .nils, .data (.str [])]), (17, .box [.data (.int .i64 xl), .data (.int .i64 xk), .data (.list (xi.map .str)), .data (.list (xu.map .str)), .data (.list (xw.map .str)), .data (.str xo)])]) 40
      (fun i => i ≤ xw.length ∧ dupB [] xw = dupB (xw.take i) (xw.drop i)) (fun i => xw.length - i) 0 ⟨Nat.zero_le _, rfl⟩ (Weak.w) ?_
    rintro i ⟨h1, hdu⟩
    by_cases hi2 : i < xw.length
    · rw [dup_next hi2] at hdu
      have e5 := g_has_eq (l := xw.take i) (s := xw[i]) (by rw [List.length_take]; omega)
      rw [List.map_take] at e5
      generalize hy : xw[i] = y at *
      generalize hasB (xw.take i) y = hb at *
      cases hb
      · repeat (first
        | (apply axJ; (focus ((with_reducible constructor) <;> rfl)))
        | (apply awT mixedOK hΓ (by kernel_rfl); (simp (disch := omega) only [go_sem, ↓reduceIte, dk, ↓lk, hy, e5, Nat.sub_zero, List.drop_zero] <;> with_reducible rfl))
        | ((first | apply awR hΓ | apply awG | apply awH mixedOK hΓ rfl (by kernel_rfl) | apply ovE rfl); (simp (disch := omega) only [go_sem, ↓reduceIte, dk, ↓lk, hy, e5, Nat.sub_zero, List.drop_zero] <;> with_reducible rfl); exact trivial)
        | rfl)
        exact ⟨i + 1, ⟨by omega, by rw [hdu]; rfl⟩, by omega, Weak.w⟩
      · rw [hdu]
        repeat (first
          | (apply axJ; (focus ((with_reducible constructor) <;> rfl)))
          | (apply awT mixedOK hΓ (by kernel_rfl); (simp (disch := omega) only [go_sem, ↓reduceIte, dk, ↓lk, ↓ty_build31, hy, e5, Nat.sub_zero, List.drop_zero] <;> with_reducible rfl))
          | ((first | apply awR hΓ | apply awG | apply awH mixedOK hΓ rfl (by kernel_rfl) | apply ovE rfl); (simp (disch := omega) only [go_sem, ↓reduceIte, dk, ↓lk, ↓ty_build31, hy, e5, Nat.sub_zero, List.drop_zero] <;> with_reducible rfl); exact trivial)
          | rfl)
        try rfl
    · have hi3 : i = xw.length := by omega
      subst hi3
      rw [List.drop_length] at hdu
      rw [hdu]
      repeat (first
        | (apply axJ; (focus ((with_reducible constructor) <;> rfl)))
        | (apply awT mixedOK hΓ (by kernel_rfl); (simp (disch := omega) only [go_sem, ↓reduceIte, dk, ↓lk] <;> with_reducible rfl))
        | ((first | apply awR hΓ | apply awG | apply awH mixedOK hΓ rfl (by kernel_rfl) | apply ovE rfl); (simp (disch := omega) only [go_sem, ↓reduceIte, dk, ↓lk] <;> with_reducible rfl); exact trivial)
        | rfl)
      try rfl
end Go.Ab
namespace Go.Ab
open Go Go.RowKit Go.Proofs
set_option maxRecDepth 10000
set_option maxHeartbeats 8000000
def atL (x : Stp) (i : Int) : Stp := ⟨i, x.kind, x.inn, x.usg, x.wds, x.out⟩
def addE (n : Nat) (e : Int) : Int := if e == 0 then (if decide ((n : Int) ≥ 64) then 10 else 0) else e
def parseGo : Nat → List Stp → List Bs → List Stp × Int × Int
  | _, acc, [] => (acc, -1, 0)
  | i, acc, w :: r => if w == [] then parseGo (i + 1) acc r else if addE acc.length (lineR w).2 == 0 then parseGo (i + 1) (acc ++ [atL (lineR w).1 i]) r else ([], i, addE acc.length (lineR w).2)
def parseR (s : Bs) : List Stp × Int × Int := if (linesE s).2 == 0 then parseGo 0 [] (linesE s).1 else ([], -1, (linesE s).2)
def ePs (p : List Stp × Int × Int) : D := .tup [.list (p.1.map eSt), i64 p.2.1, i64 p.2.2]
theorem parseGo_drop {l : List Bs} {i : Nat} {acc : List Stp} (hi : i < l.length) : parseGo i acc (l.drop i) =
    if l[i] == [] then parseGo (i + 1) acc (l.drop (i + 1)) else if addE acc.length (lineR l[i]).2 == 0 then parseGo (i + 1) (acc ++ [atL (lineR l[i]).1 i]) (l.drop (i + 1)) else ([], i, addE acc.length (lineR l[i]).2) := by
  rw [List.drop_eq_getElem_cons hi, parseGo]
theorem lines_bd (s : Bs) : (linesE s).1.length ≤ 1024 ∧ ∀ w ∈ (linesE s).1, w.length ≤ s.length := by
  unfold linesE
  split
  · exact ⟨by simp, fun w hw => by simp at hw⟩
  · split
    · exact ⟨by simp, fun w hw => by simp at hw⟩
    · rename_i h
      exact ⟨by show (splitB 10 s).length ≤ 1024; simp only [decide_eq_true_eq] at h; omega, splitB_mem_len 10 s⟩
noncomputable def g_parse14 : List D → Option D := encSpec (fun x : Bs => [.str x]) (fun x : Bs => x.length ≤ 1000000) (fun x : Bs => ePs (parseR x))
theorem g_parse14_eq {s : Bs} (hd : s.length ≤ 1000000) : g_parse14 [.str s] = some (ePs (parseR s)) := encSpec_eq (x := s) hd fun y hy => by
    simp only [List.cons.injEq, and_true, true_and, D.str.injEq, D.int.injEq, D.list.injEq, D.bool.injEq, D.agg.injEq, D.clo.injEq, Int.natCast_inj, inj_ie] at hy
    rw [hy]
theorem f_parse14_ok : PureOK Tryz.prog 9 false g_parse14 := by
  have hΓ := Γp f_linesR_ok (Γp f_line14_ok (Γn))
  refine pure_enc (n := 53) (rs := [.tmp 2, .tmp 3, .tmp 4]) Tryz.func9 (by kernel_rfl) rfl (by kernel_rfl) (by kernel_rfl) ?_
  rintro s hd
  (try dsimp only at hd ⊢)
  refine ⟨fun h => (by cases h), fun k hz0 => ?_⟩
  have e1 := g_linesR_eq (s := s) (Nat.le_trans hd (by decide))
  obtain ⟨b1, b2⟩ := lines_bd s
  unfold parseR
  generalize linesE s = p at *
  obtain ⟨ls, e⟩ := p
  replace e1 : g_linesR [.str s] = some (.tup [.list (ls.map .str), .int .i64 e]) := e1
  dsimp only at b1 b2 ⊢
  rw [start_frame (by simp)]; simp only [enumV, go_sem, emptyH]
  generalize he : (e == 0) = b
  cases b
  · have he2 : (e != 0) = true := by simp [bne, he]
    repeat (first
      | (apply axJ; (focus ((with_reducible constructor) <;> rfl)))
      | (apply awT mixedOK hΓ (by kernel_rfl); (simp (disch := omega) only [go_sem, ↓reduceIte, dk, ↓lk, e1, he2] <;> with_reducible rfl))
      | ((first | apply awR hΓ | apply awG | apply awH mixedOK hΓ rfl (by kernel_rfl) | apply ovE rfl); (simp (disch := omega) only [go_sem, ↓reduceIte, dk, ↓lk, e1, he2] <;> with_reducible rfl); exact trivial)
      | rfl)
    try rfl
  have he2 : (e != 0) = false := by simp [bne, he]
  repeat (first
    | (apply axJ; (focus ((with_reducible constructor) <;> rfl)))
    | (apply awT mixedOK hΓ (by kernel_rfl); (simp (disch := omega) only [go_sem, ↓reduceIte, dk, ↓lk, e1, he2] <;> with_reducible rfl))
    | ((first | apply awR hΓ | apply awG | apply awH mixedOK hΓ rfl (by kernel_rfl) | apply ovE rfl); (simp (disch := omega) only [go_sem, ↓reduceIte, dk, ↓lk, e1, he2] <;> with_reducible rfl); exact trivial)
    | rfl)
  refine awp_weak (Weak.nilrowF (i := 7) 31 (sz := 6) (by omega) (by omega) rfl) ?_
  refine awp_loop_at (X := Nat × List Stp) (fun y => (frame 53 [(7, .row 16 y.2.length), (20, .data (.list (ls.map .str))), (21, .data (i64 ls.length)), (22, .data (i64 y.1))])) (fun y => [(16, .row 31 6 (y.2.map eSt))]) 17
    (fun y => y.1 ≤ ls.length ∧ y.2.length ≤ y.1 ∧ parseGo 0 [] ls = parseGo y.1 y.2 (ls.drop y.1)) (fun y => ls.length - y.1) (0, [])
    ⟨Nat.zero_le _, Nat.zero_le _, rfl⟩ (Weak.v (by (simp [ConvF, lookV, Conv, ints, upd]; done)) (by (simp (disch := omega) only [TabSub, look, if_pos, if_neg, Obj.refsOK, refsOKs, AV.refsOK, decide_eq_true_eq, Bool.and_true, Bool.and_self, upd] ) <;> ((repeat' apply And.intro) <;> first | exact True.intro | omega | (simp; done) | rfl))) ?_
  rintro ⟨i, acc⟩ ⟨h1, h3, h4⟩
  dsimp only at h1 h3 h4 ⊢
  simp only [if_true]
  by_cases hi : i < ls.length
  · have e3 := g_line14_eq (s := ls[i]) (Nat.le_trans (b2 _ (List.getElem_mem hi)) hd)
    rw [parseGo_drop hi] at h4
    generalize hy : ls[i] = y at *
    generalize hc : (y == []) = c at *
    rcases hl : lineR y with ⟨x, e2⟩
    rw [hl] at e3 h4
    obtain ⟨xl, xk, xi, xu, xw, xo⟩ := x
    replace e3 : g_line14 [.str y] = some (.tup [.agg [.int .i64 xl, .int .i64 xk, .list (xi.map .str), .list (xu.map .str), .list (xw.map .str), .str xo], .int .i64 e2]) := e3
    dsimp only at h4
    cases c
    · simp only [Bool.false_eq_true, if_false] at h4
      unfold addE at h4
      generalize hz : (e2 == 0) = z at *
      generalize hq : decide ((acc.length : Int) ≥ 64) = q at *
      cases z
      · have hz2 : (e2 != 0) = true := by simp [bne, hz]
        simp only [Bool.false_eq_true, if_false, hz] at h4
        rw [h4]
        repeat (first
          | (apply axJ; (focus ((with_reducible constructor) <;> rfl)))
          | (apply awT mixedOK hΓ (by kernel_rfl); (simp (disch := omega) only [go_sem, ↓reduceIte, dk, ↓lk, hy, hc, e3, hz, hz2, Int.reduceBEq, Int.reduceBNe, Bool.true_bne, Bool.false_bne, Bool.not_true, Bool.not_false] <;> with_reducible rfl))
          | ((first | apply awR hΓ | apply awG | apply awH mixedOK hΓ rfl (by kernel_rfl) | apply ovE rfl); (simp (disch := omega) only [go_sem, ↓reduceIte, dk, ↓lk, hy, hc, e3, hz, hz2, Int.reduceBEq, Int.reduceBNe, Bool.true_bne, Bool.false_bne, Bool.not_true, Bool.not_false] <;> with_reducible rfl); exact trivial)
          | rfl)
        try rfl
      · cases q
        · have hz2 : (e2 != 0) = false := by simp [bne, hz]
          simp only [Bool.false_eq_true, if_false, if_true, Int.reduceBEq] at h4
          repeat (first
            | (apply axJ; (focus ((with_reducible constructor) <;> rfl)))
            | (apply awT mixedOK hΓ (by kernel_rfl); (simp (disch := omega) only [go_sem, ↓reduceIte, dk, ↓lk, hy, hc, e3, hz, hz2, hq, Int.reduceBEq, Int.reduceBNe, Bool.true_bne, Bool.false_bne, Bool.not_true, Bool.not_false] <;> with_reducible rfl))
            | ((first | apply awR hΓ | apply awG | apply awH mixedOK hΓ rfl (by kernel_rfl) | apply ovE rfl); (simp (disch := omega) only [go_sem, ↓reduceIte, dk, ↓lk, hy, hc, e3, hz, hz2, hq, Int.reduceBEq, Int.reduceBNe, Bool.true_bne, Bool.false_bne, Bool.not_true, Bool.not_false] <;> with_reducible rfl); exact trivial)
            | rfl)
          refine ⟨(i + 1, acc ++ [atL ⟨xl, xk, xi, xu, xw, xo⟩ i]), ⟨by dsimp only; omega, by dsimp only; rw [List.length_append]; simp only [List.length_cons, List.length_nil]; omega, h4⟩, by dsimp only; omega, ?_⟩
          have hm : (acc ++ [atL ⟨xl, xk, xi, xu, xw, xo⟩ i]).map eSt = acc.map eSt ++ [.agg [.int .i64 i, .int .i64 xk, .list (xi.map .str), .list (xu.map .str), .list (xw.map .str), .str xo]] := by rw [List.map_append]; rfl
          exact Weak.v (by (simp [ConvF, lookV, Conv, ints, hm]; done)) (by (simp (disch := omega) only [TabSub, look, if_pos, if_neg, Obj.refsOK, refsOKs, AV.refsOK, decide_eq_true_eq, Bool.and_true, Bool.and_self, hm] ) <;> ((repeat' apply And.intro) <;> first | exact True.intro | omega | (simp; done) | rfl))
        · simp only [Bool.false_eq_true, if_false, if_true, Int.reduceBEq] at h4
          rw [h4]
          repeat (first
            | (apply axJ; (focus ((with_reducible constructor) <;> rfl)))
            | (apply awT mixedOK hΓ (by kernel_rfl); (simp (disch := omega) only [go_sem, ↓reduceIte, dk, ↓lk, hy, hc, e3, hz, hq, Int.reduceBEq, Int.reduceBNe, Bool.true_bne, Bool.false_bne, Bool.not_true, Bool.not_false] <;> with_reducible rfl))
            | ((first | apply awR hΓ | apply awG | apply awH mixedOK hΓ rfl (by kernel_rfl) | apply ovE rfl); (simp (disch := omega) only [go_sem, ↓reduceIte, dk, ↓lk, hy, hc, e3, hz, hq, Int.reduceBEq, Int.reduceBNe, Bool.true_bne, Bool.false_bne, Bool.not_true, Bool.not_false] <;> with_reducible rfl); exact trivial)
            | rfl)
          try rfl
    · simp only [if_true] at h4
      repeat (first
        | (apply axJ; (focus ((with_reducible constructor) <;> rfl)))
        | (apply awT mixedOK hΓ (by kernel_rfl); (simp (disch := omega) only [go_sem, ↓reduceIte, dk, ↓lk, hy, hc] <;> with_reducible rfl))
        | ((first | apply awR hΓ | apply awG | apply awH mixedOK hΓ rfl (by kernel_rfl) | apply ovE rfl); (simp (disch := omega) only [go_sem, ↓reduceIte, dk, ↓lk, hy, hc] <;> with_reducible rfl); exact trivial)
        | rfl)
      exact ⟨(i + 1, acc), ⟨by dsimp only; omega, by dsimp only; omega, h4⟩, by dsimp only; omega, Weak.w⟩
  · have hi2 : i = ls.length := by omega
    subst hi2
    rw [List.drop_length] at h4
    rw [h4]
    repeat (first
      | (apply axJ; (focus ((with_reducible constructor) <;> rfl)))
      | (apply awT mixedOK hΓ (by kernel_rfl); (simp (disch := omega) only [go_sem, ↓reduceIte, dk, ↓lk] <;> with_reducible rfl))
      | ((first | apply awR hΓ | apply awG | apply awH mixedOK hΓ rfl (by kernel_rfl) | apply ovE rfl); (simp (disch := omega) only [go_sem, ↓reduceIte, dk, ↓lk] <;> with_reducible rfl); exact trivial)
      | rfl)
    try rfl
end Go.Ab
