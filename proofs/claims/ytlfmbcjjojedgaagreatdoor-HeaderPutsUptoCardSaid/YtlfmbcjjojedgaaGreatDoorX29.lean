/-
  One text of the proof (own work): contracts of functions of the program, by the abstract machine.
-/
import Derived.Test.YtlfmbcjjojedgaaGreatDoorX19
import Derived.Test.YtlfmbcjjojedgaaGreatDoorX28
set_option linter.unusedVariables false
set_option linter.unusedSimpArgs false
namespace Go.Ab
open Go Go.RowKit Go.Proofs
set_option maxRecDepth 4000
set_option maxHeartbeats 8000000
mutual
def eqX : LX → LX → Bool
  | .mk k n e l, .mk k' n' e' l' => (k == k') && ((n == n') && ((e == e') && eqXs l l'))
def eqXs : List LX → List LX → Bool
  | [], [] => true
  | x :: l, y :: r => eqX x y && eqXs l r
  | [], _ :: _ => false
  | _ :: _, [] => false
end
theorem eqX_eq (a b : LX) : eqX a b = ((a.kind == b.kind) && ((a.name == b.name) && ((a.exc == b.exc) && eqXs a.kids b.kids))) := by cases a; cases b; rw [eqX]; rfl
theorem eqXs_iff {l : List LX} (h : ∀ x ∈ l, ∀ y, eqX x y = true ↔ x = y) : ∀ r, eqXs l r = true ↔ l = r := by
  induction l with
  | nil => intro r; cases r <;> simp [eqXs]
  | cons x l ih =>
    intro r
    cases r with
    | nil => simp [eqXs]
    | cons y r =>
      have h1 := h x (by simp) y
      have h2 := ih (fun z hz => h z (by simp [hz])) r
      simp only [eqXs, Bool.and_eq_true, h1, h2, List.cons.injEq]
theorem eqX_iff (a : LX) : ∀ b, eqX a b = true ↔ a = b := by
  refine LX.ind (p := fun a => ∀ b, eqX a b = true ↔ a = b) (fun k n e l ih b => ?_) a
  cases b with
  | mk k' n' e' l' =>
    have h2 := eqXs_iff ih l'
    simp only [eqX, Bool.and_eq_true, beq_iff_eq, LX.mk.injEq, h2]
theorem eqXs_len {l r : List LX} (h : l.length ≠ r.length) : eqXs l r = false := by
  cases hh : eqXs l r with
  | false => rfl
  | true =>
    have := (eqXs_iff (fun x _ y => eqX_iff x y) r).1 hh
    exact absurd (congrArg List.length this) h
theorem eqXs_drop {l r : List LX} {i : Nat} (h1 : i < l.length) (h2 : i < r.length) : eqXs (l.drop i) (r.drop i) = (eqX l[i] r[i] && eqXs (l.drop (i + 1)) (r.drop (i + 1))) := by
  rw [List.drop_eq_getElem_cons h1, List.drop_eq_getElem_cons h2, eqXs]
noncomputable def g_equalR (h : Nat) : List D → Option D := encSpec (fun x : LX × LX => [eX x.1, eX x.2]) (fun x : LX × LX => x.1.hgt ≤ h ∧ x.1.Bd 1099511627776 ∧ x.2.Bd 1099511627776) (fun x : LX × LX => .bool (eqX x.1 x.2))
theorem g_equalR_eq {h : Nat} {a : LX} {b : LX} (hd : a.hgt ≤ h ∧ a.Bd 1099511627776 ∧ b.Bd 1099511627776) : g_equalR h [.agg [.int .i64 a.kind, .str a.name, .str a.exc, .list (a.kids.map eX)], .agg [.int .i64 b.kind, .str b.name, .str b.exc, .list (b.kids.map eX)]] = some (.bool (eqX a b)) := by
  have e : g_equalR h [eX a, eX b] = some (.bool (eqX a b)) := encSpec_eq (x := (a, b)) hd fun y hy => by
    obtain ⟨y0, y1⟩ := y; simp only [List.cons.injEq, and_true, true_and, D.str.injEq, D.int.injEq, D.list.injEq, D.bool.injEq, D.agg.injEq, D.clo.injEq, Int.natCast_inj, inj_ie, lx_ie] at hy
    (try obtain ⟨rfl, rfl⟩ := hy)
    (try subst_vars)
    rfl
  exact (congrArg (g_equalR h) (by rw [← eX_eq a, ← eX_eq b])).trans e
theorem f_equalR_ok : ∀ h : Nat, PureOK Tryz.prog 20 true (g_equalR h)
 | 0 => pure_void (by
    rintro ⟨a, b⟩ ⟨hx, _⟩
    (try dsimp only at hx)
    have := a.hgt_pos
    omega)
 | h + 1 => by
  have ih := f_equalR_ok h
  have hΓ := Γp ih (Γn)
  refine pure_enc (n := 53) (rs := [.tmp 4]) Tryz.func20 (by kernel_rfl) rfl (by kernel_rfl) (by kernel_rfl) ?_
  rintro ⟨a, b⟩ hd
  (try dsimp only at hd ⊢)
  refine ⟨fun _ => by (repeat (first | exact .int _ _ | exact .bool _ | exact .str _ | (refine .tup _ (fun d hd => ?_); simp only [List.mem_cons, List.not_mem_nil, or_false] at hd; rcases hd with rfl | hd))), fun k hz0 => ?_⟩
  obtain ⟨hh, ha, hb⟩ := hd
  have hz1 := ha.z
  have hl1 := a.len_le
  have hz2 := hb.z
  have hl2 := b.len_le
  have hne := fun h => eqXs_len (l := a.kids) (r := b.kids) h
  rw [eqX_eq]
  rw [start_frame (by simp)]; simp only [enumV, go_sem, emptyH]
  generalize hc1 : (a.kind == b.kind) = c1
  generalize hc2 : (a.name == b.name) = c2
  generalize hc3 : (a.exc == b.exc) = c3
  have hk : (a.kind != b.kind) = !c1 := by rw [← hc1]; rfl
  cases c1
  · repeat (first
    | (apply axJ; (focus ((with_reducible constructor) <;> rfl)))
    | (apply awT mixedOK hΓ (by kernel_rfl); (simp (disch := omega) only [go_sem, ↓reduceIte, dk, hk, hc2, hc3] <;> with_reducible rfl))
    | ((first | apply awR hΓ | apply awG | apply awH mixedOK hΓ rfl (by kernel_rfl) | apply ovE rfl); (simp (disch := omega) only [go_sem, ↓reduceIte, dk, hk, hc2, hc3] <;> with_reducible rfl); exact trivial)
    | rfl)
    (try rfl)
  cases c2
  · repeat (first
    | (apply axJ; (focus ((with_reducible constructor) <;> rfl)))
    | (apply awT mixedOK hΓ (by kernel_rfl); (simp (disch := omega) only [go_sem, ↓reduceIte, dk, hk, hc2, hc3] <;> with_reducible rfl))
    | ((first | apply awR hΓ | apply awG | apply awH mixedOK hΓ rfl (by kernel_rfl) | apply ovE rfl); (simp (disch := omega) only [go_sem, ↓reduceIte, dk, hk, hc2, hc3] <;> with_reducible rfl); exact trivial)
    | rfl)
    (try rfl)
  cases c3
  · repeat (first
    | (apply axJ; (focus ((with_reducible constructor) <;> rfl)))
    | (apply awT mixedOK hΓ (by kernel_rfl); (simp (disch := omega) only [go_sem, ↓reduceIte, dk, hk, hc2, hc3] <;> with_reducible rfl))
    | ((first | apply awR hΓ | apply awG | apply awH mixedOK hΓ rfl (by kernel_rfl) | apply ovE rfl); (simp (disch := omega) only [go_sem, ↓reduceIte, dk, hk, hc2, hc3] <;> with_reducible rfl); exact trivial)
    | rfl)
    (try rfl)
  by_cases hlen : a.kids.length = b.kids.length
  case neg =>
    have hlb : ((a.kids.length : Int) != (b.kids.length : Int)) = true := by simp; omega
    rw [hne hlen]
    repeat (first
      | (apply axJ; (focus ((with_reducible constructor) <;> rfl)))
      | (apply awT mixedOK hΓ (by kernel_rfl); (simp (disch := omega) only [go_sem, ↓reduceIte, dk, hk, hc2, hc3, hlb] <;> with_reducible rfl))
      | ((first | apply awR hΓ | apply awG | apply awH mixedOK hΓ rfl (by kernel_rfl) | apply ovE rfl); (simp (disch := omega) only [go_sem, ↓reduceIte, dk, hk, hc2, hc3, hlb] <;> with_reducible rfl); exact trivial)
      | rfl)
    (try rfl)
  have hlb : ((a.kids.length : Int) != (b.kids.length : Int)) = false := by simp; omega
  repeat (first
    | (apply axJ; (focus ((with_reducible constructor) <;> rfl)))
    | (apply awT mixedOK hΓ (by kernel_rfl); (simp (disch := omega) only [go_sem, ↓reduceIte, dk, hk, hc2, hc3, hlb] <;> with_reducible rfl))
    | ((first | apply awR hΓ | apply awG | apply awH mixedOK hΓ rfl (by kernel_rfl) | apply ovE rfl); (simp (disch := omega) only [go_sem, ↓reduceIte, dk, hk, hc2, hc3, hlb] <;> with_reducible rfl); exact trivial)
    | rfl)
  refine awp_loop_at (X := Nat) (fun i => (frame 53 [(2, .ptr 0 0), (3, .ptr 1 0), (5, .data (i64 i))])) (fun _ => [(0, .box [.data (.int .i64 a.kind), .data (.str a.name), .data (.str a.exc), .data (.list (a.kids.map eX))]), (1, .box [.data (.int .i64 b.kind), .data (.str b.name), .data (.str b.exc), .data (.list (b.kids.map eX))])]) 4
    (fun i => i ≤ a.kids.length ∧ eqXs a.kids b.kids = eqXs (a.kids.drop i) (b.kids.drop i)) (fun i => a.kids.length - i) 0 ⟨Nat.zero_le _, rfl⟩ (Weak.w) ?_
  rintro i ⟨hi, he⟩
  by_cases hi2 : i < a.kids.length
  · have hi3 : i < b.kids.length := by omega
    have e := g_equalR_eq (h := h) (a := a.kids[i]) (b := b.kids[i]) ⟨(kid_at hi2 ⟨hh, ha⟩).1, ha.k (List.getElem_mem hi2), hb.k (List.getElem_mem hi3)⟩
    rw [eqXs_drop hi2 hi3] at he
    rw [he]
    generalize hx : a.kids[i] = x at *
    generalize hy : b.kids[i] = y at *
    cases hc : eqX x y with
    | true =>
      rw [hc] at e
      repeat (first
        | (apply axJ; (focus ((with_reducible constructor) <;> rfl)))
        | (apply awT mixedOK hΓ (by kernel_rfl); (simp (disch := omega) only [go_sem, ↓reduceIte, dk, hx, hy, e] <;> with_reducible rfl))
        | ((first | apply awR hΓ | apply awG | apply awH mixedOK hΓ rfl (by kernel_rfl) | apply ovE rfl); (simp (disch := omega) only [go_sem, ↓reduceIte, dk, hx, hy, e] <;> with_reducible rfl); exact trivial)
        | rfl)
      exact ⟨i + 1, ⟨by omega, rfl⟩, by omega, Weak.w⟩
    | false =>
      rw [hc] at e
      repeat (first
        | (apply axJ; (focus ((with_reducible constructor) <;> rfl)))
        | (apply awT mixedOK hΓ (by kernel_rfl); (simp (disch := omega) only [go_sem, ↓reduceIte, dk, hx, hy, e] <;> with_reducible rfl))
        | ((first | apply awR hΓ | apply awG | apply awH mixedOK hΓ rfl (by kernel_rfl) | apply ovE rfl); (simp (disch := omega) only [go_sem, ↓reduceIte, dk, hx, hy, e] <;> with_reducible rfl); exact trivial)
        | rfl)
      (try rfl)
  · have hi' : i = a.kids.length := by omega
    subst hi'
    rw [he, List.drop_eq_nil_of_le (Nat.le_refl _), List.drop_eq_nil_of_le (by omega)]
    repeat (first
      | (apply axJ; (focus ((with_reducible constructor) <;> rfl)))
      | (apply awT mixedOK hΓ (by kernel_rfl); (simp (disch := omega) only [go_sem, ↓reduceIte, dk] <;> with_reducible rfl))
      | ((first | apply awR hΓ | apply awG | apply awH mixedOK hΓ rfl (by kernel_rfl) | apply ovE rfl); (simp (disch := omega) only [go_sem, ↓reduceIte, dk] <;> with_reducible rfl); exact trivial)
      | rfl)
    (try rfl)
noncomputable def g_equalP (h : Nat) : List D → Option D := encSpec (fun x : LX × LX => [eX x.1, eX x.2]) (fun x => x.1.hgt ≤ h ∧ x.1.Bd 1099511627776 ∧ x.2.Bd 1099511627776) (fun x => .bool (eqX x.1 x.2))
theorem g_equalP_eq {h : Nat} {a b : LX} (hd : a.hgt ≤ h ∧ a.Bd 1099511627776 ∧ b.Bd 1099511627776) : g_equalP h [.agg [.int .i64 a.kind, .str a.name, .str a.exc, .list (a.kids.map eX)], .agg [.int .i64 b.kind, .str b.name, .str b.exc, .list (b.kids.map eX)]] = some (.bool (eqX a b)) := by
  have e : g_equalP h [eX a, eX b] = some (.bool (eqX a b)) := encSpec_eq (x := (a, b)) hd fun y hy => by
    obtain ⟨y0, y1⟩ := y
    simp only [List.cons.injEq, and_true, lx_ie, inj_ie] at hy
    obtain ⟨rfl, rfl⟩ := hy
    (try rfl)
  exact (congrArg (g_equalP h) (by rw [← eX_eq a, ← eX_eq b])).trans e
def XsOK (h : Nat) (l r : List LX) : Prop := l.length ≤ 1099511627776 ∧ r.length ≤ 1099511627776 ∧ (∀ x ∈ l, x.hgt ≤ h ∧ x.Bd 1099511627776) ∧ ∀ x ∈ r, x.Bd 1099511627776
noncomputable def g_equalF (h : Nat) : List D → Option D := encSpec (fun x : List LX × List LX => [.list (x.1.map eX), .list (x.2.map eX), .clo 34 []]) (fun x => XsOK h x.1 x.2) (fun x => .bool (eqXs x.1 x.2))
theorem g_equalF_eq {h : Nat} {l r : List LX} (hd : XsOK h l r) : g_equalF h [.list (l.map eX), .list (r.map eX), .clo 34 []] = some (.bool (eqXs l r)) := encSpec_eq (x := (l, r)) hd fun y hy => by
  obtain ⟨y0, y1⟩ := y
  simp only [List.cons.injEq, and_true, D.list.injEq, lx_ie, inj_ie] at hy
  obtain ⟨rfl, rfl⟩ := hy
  (try rfl)
theorem f_equalF_ok (h : Nat) (ih : PureOK Tryz.prog 34 true (g_equalP h)) : PureOK Tryz.prog 69 true (g_equalF h) := by
  have hΓ := (Γp ih (Γn))
  refine pure_enc (n := 32) (rs := [.tmp 6]) Tryz.func69 (by kernel_rfl) rfl (by kernel_rfl) (by kernel_rfl) ?_
  rintro ⟨l, r⟩ ⟨hn1, hn2, hb1, hb2⟩
  dsimp only at hn1 hn2 hb1 hb2 ⊢
  refine ⟨fun _ => .bool _, fun k hz0 => ?_⟩
  have hne := fun h => eqXs_len (l := l) (r := r) h
  rw [start_frame (by simp)]; simp only [enumV, go_sem, emptyH]
  by_cases hlen : l.length = r.length
  case neg =>
    have hlb : ((l.length : Int) != (r.length : Int)) = true := by simp; omega
    rw [hne hlen]
    repeat (first
      | (apply axJ; (focus ((with_reducible constructor) <;> rfl)))
      | (apply awT mixedOK hΓ (by kernel_rfl); (simp (disch := omega) only [go_sem, ↓reduceIte, dk, hlb] <;> with_reducible rfl))
      | ((first | apply awR hΓ | apply awG | apply awH mixedOK hΓ rfl (by kernel_rfl) | apply ovE rfl); (simp (disch := omega) only [go_sem, ↓reduceIte, dk, hlb] <;> with_reducible rfl); exact trivial)
      | rfl)
  have hlb : ((l.length : Int) != (r.length : Int)) = false := by simp; omega
  repeat (first
    | (apply axJ; (focus ((with_reducible constructor) <;> rfl)))
    | (apply awT mixedOK hΓ (by kernel_rfl); (simp (disch := omega) only [go_sem, ↓reduceIte, dk, hlb] <;> with_reducible rfl))
    | ((first | apply awR hΓ | apply awG | apply awH mixedOK hΓ rfl (by kernel_rfl) | apply ovE rfl); (simp (disch := omega) only [go_sem, ↓reduceIte, dk, hlb] <;> with_reducible rfl); exact trivial)
    | rfl)
  refine awp_loop_at (X := Nat) (fun i => (frame 32 [(1, .data (.list (r.map eX))), (2, .data (.clo 34 [])), (15, .data (.list (l.map eX))), (16, .data (i64 l.length)), (17, .data (i64 i))])) (fun _ => []) 0
    (fun i => i ≤ l.length ∧ eqXs l r = eqXs (l.drop i) (r.drop i)) (fun i => l.length - i) 0 ⟨Nat.zero_le _, rfl⟩ (Weak.w) ?_
  rintro i ⟨hi, he⟩
  by_cases hi2 : i < l.length
  · have hi3 : i < r.length := by omega
    have e := g_equalP_eq (h := h) (a := l[i]) (b := r[i]) ⟨(hb1 _ (List.getElem_mem hi2)).1, (hb1 _ (List.getElem_mem hi2)).2, hb2 _ (List.getElem_mem hi3)⟩
    rw [eqXs_drop hi2 hi3] at he
    rw [he]
    generalize hx : l[i] = x at *
    generalize hy : r[i] = y at *
    cases hc : eqX x y with
    | true =>
      rw [hc] at e
      repeat (first
        | (apply axJ; (focus ((with_reducible constructor) <;> rfl)))
        | (apply awT mixedOK hΓ (by kernel_rfl); (simp (disch := omega) only [go_sem, ↓reduceIte, dk, hx, hy, e] <;> with_reducible rfl))
        | ((first | apply awR hΓ | apply awG | apply awH mixedOK hΓ rfl (by kernel_rfl) | apply ovE rfl); (simp (disch := omega) only [go_sem, ↓reduceIte, dk, hx, hy, e] <;> with_reducible rfl); exact trivial)
        | rfl)
      exact ⟨i + 1, ⟨by omega, rfl⟩, by omega, Weak.w⟩
    | false =>
      rw [hc] at e
      repeat (first
        | (apply axJ; (focus ((with_reducible constructor) <;> rfl)))
        | (apply awT mixedOK hΓ (by kernel_rfl); (simp (disch := omega) only [go_sem, ↓reduceIte, dk, hx, hy, e] <;> with_reducible rfl))
        | ((first | apply awR hΓ | apply awG | apply awH mixedOK hΓ rfl (by kernel_rfl) | apply ovE rfl); (simp (disch := omega) only [go_sem, ↓reduceIte, dk, hx, hy, e] <;> with_reducible rfl); exact trivial)
        | rfl)
      (try rfl)
  · have hi' : i = l.length := by omega
    subst hi'
    rw [he, List.drop_eq_nil_of_le (Nat.le_refl _), List.drop_eq_nil_of_le (by omega)]
    repeat (first
      | (apply axJ; (focus ((with_reducible constructor) <;> rfl)))
      | (apply awT mixedOK hΓ (by kernel_rfl); (simp (disch := omega) only [go_sem, ↓reduceIte, dk] <;> with_reducible rfl))
      | ((first | apply awR hΓ | apply awG | apply awH mixedOK hΓ rfl (by kernel_rfl) | apply ovE rfl); (simp (disch := omega) only [go_sem, ↓reduceIte, dk] <;> with_reducible rfl); exact trivial)
      | rfl)
    (try rfl)
theorem f_equalP_ok : ∀ h : Nat, PureOK Tryz.prog 34 true (g_equalP h)
 | 0 => pure_void (by
    rintro ⟨a, b⟩ ⟨hx, _⟩
    dsimp only at hx
    have := a.hgt_pos
    omega)
 | h + 1 => by
  have ih := f_equalF_ok h (f_equalP_ok h)
  have hΓ := (Γp ih (Γn))
  refine pure_enc (n := 31) (rs := [.tmp 4]) Tryz.func34 (by kernel_rfl) rfl (by kernel_rfl) (by kernel_rfl) ?_
  rintro ⟨a, b⟩ ⟨hh, ha, hb⟩
  dsimp only at hh ha hb ⊢
  refine ⟨fun _ => .bool _, fun k hz0 => ?_⟩
  have hz1 := ha.z
  have hl1 := a.len_le
  have hz2 := hb.z
  have hl2 := b.len_le
  have e := g_equalF_eq (h := h) (l := a.kids) (r := b.kids) ⟨by omega, by omega, fun x hx => ⟨by have := LX.hgt_kid hx; omega, ha.k hx⟩, fun x hx => hb.k hx⟩
  rw [eqX_eq]
  rw [start_frame (by simp)]; simp only [enumV, go_sem, emptyH]
  generalize hc1 : (a.kind == b.kind) = c1
  generalize hc2 : (a.name == b.name) = c2
  generalize hc3 : (a.exc == b.exc) = c3
  cases c1
  · repeat (first
    | (apply axJ; (focus ((with_reducible constructor) <;> rfl)))
    | (apply awT mixedOK hΓ (by kernel_rfl); (simp (disch := omega) only [go_sem, ↓reduceIte, dk, hc1, hc2, hc3] <;> with_reducible rfl))
    | ((first | apply awR hΓ | apply awG | apply awH mixedOK hΓ rfl (by kernel_rfl) | apply ovE rfl); (simp (disch := omega) only [go_sem, ↓reduceIte, dk, hc1, hc2, hc3] <;> with_reducible rfl); exact trivial)
    | rfl)
    (try rfl)
  cases c2
  · repeat (first
    | (apply axJ; (focus ((with_reducible constructor) <;> rfl)))
    | (apply awT mixedOK hΓ (by kernel_rfl); (simp (disch := omega) only [go_sem, ↓reduceIte, dk, hc1, hc2, hc3] <;> with_reducible rfl))
    | ((first | apply awR hΓ | apply awG | apply awH mixedOK hΓ rfl (by kernel_rfl) | apply ovE rfl); (simp (disch := omega) only [go_sem, ↓reduceIte, dk, hc1, hc2, hc3] <;> with_reducible rfl); exact trivial)
    | rfl)
    (try rfl)
  cases c3
  · repeat (first
    | (apply axJ; (focus ((with_reducible constructor) <;> rfl)))
    | (apply awT mixedOK hΓ (by kernel_rfl); (simp (disch := omega) only [go_sem, ↓reduceIte, dk, hc1, hc2, hc3] <;> with_reducible rfl))
    | ((first | apply awR hΓ | apply awG | apply awH mixedOK hΓ rfl (by kernel_rfl) | apply ovE rfl); (simp (disch := omega) only [go_sem, ↓reduceIte, dk, hc1, hc2, hc3] <;> with_reducible rfl); exact trivial)
    | rfl)
    (try rfl)
  repeat (first
    | (apply axJ; (focus ((with_reducible constructor) <;> rfl)))
    | (apply awT mixedOK hΓ (by kernel_rfl); (simp (disch := omega) only [go_sem, ↓reduceIte, dk, hc1, hc2, hc3, e] <;> with_reducible rfl))
    | ((first | apply awR hΓ | apply awG | apply awH mixedOK hΓ rfl (by kernel_rfl) | apply ovE rfl); (simp (disch := omega) only [go_sem, ↓reduceIte, dk, hc1, hc2, hc3, e] <;> with_reducible rfl); exact trivial)
    | rfl)
  (try rfl)
end Go.Ab
