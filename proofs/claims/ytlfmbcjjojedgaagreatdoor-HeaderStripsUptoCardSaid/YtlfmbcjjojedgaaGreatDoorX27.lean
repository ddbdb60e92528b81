/-
  One text of the proof (own work): contracts of functions of the program, by the abstract machine.
-/
import Derived.Test.YtlfmbcjjojedgaaGreatDoorX19
import Derived.Test.YtlfmbcjjojedgaaGreatDoorX26
import Derived.Test.YtlfmbcjjojedgaaGreatDoorX23
set_option linter.unusedVariables false
set_option linter.unusedSimpArgs false
namespace Go.Ab
open Go Go.RowKit Go.Proofs
set_option maxRecDepth 4000
set_option maxHeartbeats 4000000
theorem kid_at {x : LX} {i : Nat} (hi : i < x.kids.length) {h m : Nat} (hd : x.hgt ≤ h + 1 ∧ x.Bd m) : (x.kids[i]).hgt ≤ h ∧ (x.kids[i]).Bd m :=
  ⟨by have := LX.hgt_kid (List.getElem_mem hi); omega, hd.2.k (List.getElem_mem hi)⟩
theorem LX.hgts_take {l : List LX} {i : Nat} (h : i < l.length) : LX.hgt.hgts (l.take (i + 1)) = max (LX.hgt.hgts (l.take i)) (l[i]).hgt := by
  have happ : ∀ a b : List LX, LX.hgt.hgts (a ++ b) = max (LX.hgt.hgts a) (LX.hgt.hgts b) := by
    intro a b
    induction a with
    | nil => simp [LX.hgt.hgts]
    | cons x a ih => simp only [List.cons_append, LX.hgt.hgts, ih]; omega
  rw [List.take_add_one, List.getElem?_eq_getElem h, happ]
  simp [LX.hgt.hgts]
theorem LX.hgt_eq (x : LX) : x.hgt = LX.hgt.hgts x.kids + 1 := by cases x; simp [LX.hgt, LX.kids]
theorem hgts_lt {x : LX} {i : Nat} (h : i ≤ x.kids.length) : LX.hgt.hgts (x.kids.take i) < x.hgt := by
  induction i with
  | zero => have := x.hgt_pos; simp [LX.hgt.hgts]; omega
  | succ i ih =>
    have h1 := ih (by omega)
    rw [LX.hgts_take (by omega)]
    have := LX.hgt_kid (List.getElem_mem (show i < x.kids.length by omega))
    omega
noncomputable def g_depthP (h : Nat) : List D → Option D := encSpec (fun x : LX => [eX x]) (fun x : LX => x.hgt ≤ h ∧ x.Bd 1099511627776) (fun x : LX => i64 x.hgt)
theorem g_depthP_eq {h : Nat} {x : LX} (hd : x.hgt ≤ h ∧ x.Bd 1099511627776) : g_depthP h [.agg [.int .i64 x.kind, .str x.name, .str x.exc, .list (x.kids.map eX)]] = some (i64 x.hgt) := by
  have e : g_depthP h [eX x] = some (i64 x.hgt) := encSpec_eq (x := x) hd fun y hy => by
    simp only [List.cons.injEq, and_true, true_and, D.str.injEq, D.int.injEq, D.list.injEq, D.bool.injEq, D.agg.injEq, D.clo.injEq, Int.natCast_inj, inj_ie, lx_ie] at hy
    rw [hy]
  exact (congrArg (g_depthP h) (by rw [← eX_eq x])).trans e
theorem f_depthP_ok : ∀ h : Nat, PureOK Tryz.prog 70 true (g_depthP h)
 | 0 => pure_void (by
    rintro x ⟨hx, _⟩
    (try dsimp only at hx)
    have := x.hgt_pos
    omega)
 | h + 1 => by
  have ih := f_depthP_ok h
  have hΓ := Γp ih (Γn)
  refine pure_enc (n := 20) (rs := [.tmp 2]) Tryz.func70 (by kernel_rfl) rfl (by kernel_rfl) (by kernel_rfl) ?_
  rintro x hd
  (try dsimp only at hd ⊢)
  refine ⟨fun _ => by (repeat (first | exact .int _ _ | exact .bool _ | exact .str _ | (refine .tup _ (fun d hd => ?_); simp only [List.mem_cons, List.not_mem_nil, or_false] at hd; rcases hd with rfl | hd))), fun k hz0 => ?_⟩
  have hz := hd.2.z
  have hl := x.len_le
  have hle := x.hgt_le
  have hsz := x.hgt_eq
  rw [start_frame (by simp)]; simp only [enumV, go_sem, emptyH]
  repeat (first
    | (apply axJ; (focus ((with_reducible constructor) <;> rfl)))
    | (apply awT mixedOK hΓ (by kernel_rfl); (simp (disch := omega) only [go_sem, ↓reduceIte, dk] <;> with_reducible rfl))
    | ((first | apply awR hΓ | apply awG | apply awH mixedOK hΓ rfl (by kernel_rfl) | apply ovE rfl); (simp (disch := omega) only [go_sem, ↓reduceIte, dk] <;> with_reducible rfl); exact trivial)
    | rfl)
  refine awp_loop_at (X := Nat) (fun i => (frame 20 [(1, .ptr 0 0), (3, .data (i64 (LX.hgt.hgts (x.kids.take i)))), (7, .data (.list (x.kids.map eX))), (8, .data (i64 x.kids.length)), (9, .data (i64 i))])) (fun _ => []) 4
    (fun i => i ≤ x.kids.length) (fun i => x.kids.length - i) 0 (Nat.zero_le _) (Weak.v (by (simp [ConvF, lookV, Conv, ints, LX.hgt.hgts]; done)) (by (simp (disch := omega) only [TabSub, look, if_pos, if_neg, Obj.refsOK, refsOKs, AV.refsOK, decide_eq_true_eq, Bool.and_true, Bool.and_self, LX.hgt.hgts] ) <;> ((repeat' apply And.intro) <;> first | exact True.intro | omega | (simp; done) | rfl))) ?_
  intro i hi
  have hlt := hgts_lt hi
  by_cases hi2 : i < x.kids.length
  · have e := g_depthP_eq (kid_at hi2 hd)
    have h1 := LX.hgts_take hi2
    have h3 : (LX.hgt.hgts (x.kids.take (i + 1)) : Int) = max (LX.hgt.hgts (x.kids.take i) : Int) ((x.kids[i]).hgt : Int) := by omega
    generalize LX.hgt.hgts (x.kids.take i) = a at *
    generalize hy : x.kids[i] = y at *
    repeat (first
      | (apply axJ; (focus ((with_reducible constructor) <;> rfl)))
      | (apply awT mixedOK hΓ (by kernel_rfl); (simp (disch := omega) only [go_sem, ↓reduceIte, dk, hy, e] <;> with_reducible rfl))
      | ((first | apply awR hΓ | apply awG | apply awH mixedOK hΓ rfl (by kernel_rfl) | apply ovE rfl); (simp (disch := omega) only [go_sem, ↓reduceIte, dk, hy, e] <;> with_reducible rfl); exact trivial)
      | rfl)
    exact ⟨i + 1, by omega, by omega, Weak.v (by (simp [ConvF, lookV, Conv, ints, h3]; done)) (by (simp (disch := omega) only [TabSub, look, if_pos, if_neg, Obj.refsOK, refsOKs, AV.refsOK, decide_eq_true_eq, Bool.and_true, Bool.and_self, h3] ) <;> ((repeat' apply And.intro) <;> first | exact True.intro | omega | (simp; done) | rfl))⟩
  · have hi' : i = x.kids.length := by omega
    subst hi'
    rw [List.take_length] at hlt ⊢
    repeat (first
      | (apply axJ; (focus ((with_reducible constructor) <;> rfl)))
      | (apply awT mixedOK hΓ (by kernel_rfl); (simp (disch := omega) only [go_sem, ↓reduceIte, dk] <;> with_reducible rfl))
      | ((first | apply awR hΓ | apply awG | apply awH mixedOK hΓ rfl (by kernel_rfl) | apply ovE rfl); (simp (disch := omega) only [go_sem, ↓reduceIte, dk] <;> with_reducible rfl); exact trivial)
      | rfl)
    rw [hsz]; rfl
end Go.Ab
namespace Go.Ab
open Go Go.RowKit Go.Proofs
set_option maxRecDepth 4000
set_option maxHeartbeats 8000000
mutual
def eqX : LX → LX → Bool
  | .mk k n e l, .mk k' n' e' l' => (k == k') && ((n == n') && ((e == e') && eqXs l l'))
def eqXs : List LX → List LX → Bool
  | [], [] => true
  | x :: l, y :: r => eqX x y && eqXs l r
  | [], _ :: _ => false
  | _ :: _, [] => false
end
theorem eqX_eq (a b : LX) : eqX a b = ((a.kind == b.kind) && ((a.name == b.name) && ((a.exc == b.exc) && eqXs a.kids b.kids))) := by cases a; cases b; rw [eqX]; rfl
theorem eqXs_iff {l : List LX} (h : ∀ x ∈ l, ∀ y, eqX x y = true ↔ x = y) : ∀ r, eqXs l r = true ↔ l = r := by
  induction l with
  | nil => intro r; cases r <;> simp [eqXs]
  | cons x l ih =>
    intro r
    cases r with
    | nil => simp [eqXs]
    | cons y r =>
      have h1 := h x (by simp) y
      have h2 := ih (fun z hz => h z (by simp [hz])) r
      simp only [eqXs, Bool.and_eq_true, h1, h2, List.cons.injEq]
theorem eqX_iff (a : LX) : ∀ b, eqX a b = true ↔ a = b := by
  refine LX.ind (p := fun a => ∀ b, eqX a b = true ↔ a = b) (fun k n e l ih b => ?_) a
  cases b with
  | mk k' n' e' l' =>
    have h2 := eqXs_iff ih l'
    simp only [eqX, Bool.and_eq_true, beq_iff_eq, LX.mk.injEq, h2]
theorem eqXs_len {l r : List LX} (h : l.length ≠ r.length) : eqXs l r = false := by
  cases hh : eqXs l r with
  | false => rfl
  | true =>
    have := (eqXs_iff (fun x _ y => eqX_iff x y) r).1 hh
    exact absurd (congrArg List.length this) h
theorem eqXs_drop {l r : List LX} {i : Nat} (h1 : i < l.length) (h2 : i < r.length) : eqXs (l.drop i) (r.drop i) = (eqX l[i] r[i] && eqXs (l.drop (i + 1)) (r.drop (i + 1))) := by
  rw [List.drop_eq_getElem_cons h1, List.drop_eq_getElem_cons h2, eqXs]
noncomputable def g_equalP (h : Nat) : List D → Option D := encSpec (fun x : LX × LX => [eX x.1, eX x.2]) (fun x => x.1.hgt ≤ h ∧ x.1.Bd 1099511627776 ∧ x.2.Bd 1099511627776) (fun x => .bool (eqX x.1 x.2))
theorem g_equalP_eq {h : Nat} {a b : LX} (hd : a.hgt ≤ h ∧ a.Bd 1099511627776 ∧ b.Bd 1099511627776) : g_equalP h [.agg [.int .i64 a.kind, .str a.name, .str a.exc, .list (a.kids.map eX)], .agg [.int .i64 b.kind, .str b.name, .str b.exc, .list (b.kids.map eX)]] = some (.bool (eqX a b)) := by
  have e : g_equalP h [eX a, eX b] = some (.bool (eqX a b)) := encSpec_eq (x := (a, b)) hd fun y hy => by
    obtain ⟨y0, y1⟩ := y
    simp only [List.cons.injEq, and_true, lx_ie, inj_ie] at hy
    obtain ⟨rfl, rfl⟩ := hy
    (try rfl)
  exact (congrArg (g_equalP h) (by rw [← eX_eq a, ← eX_eq b])).trans e
def XsOK (h : Nat) (l r : List LX) : Prop := l.length ≤ 1099511627776 ∧ r.length ≤ 1099511627776 ∧ (∀ x ∈ l, x.hgt ≤ h ∧ x.Bd 1099511627776) ∧ ∀ x ∈ r, x.Bd 1099511627776
noncomputable def g_equalF (h : Nat) : List D → Option D := encSpec (fun x : List LX × List LX => [.list (x.1.map eX), .list (x.2.map eX), .clo 34 []]) (fun x => XsOK h x.1 x.2) (fun x => .bool (eqXs x.1 x.2))
theorem g_equalF_eq {h : Nat} {l r : List LX} (hd : XsOK h l r) : g_equalF h [.list (l.map eX), .list (r.map eX), .clo 34 []] = some (.bool (eqXs l r)) := encSpec_eq (x := (l, r)) hd fun y hy => by
  obtain ⟨y0, y1⟩ := y
  simp only [List.cons.injEq, and_true, D.list.injEq, lx_ie, inj_ie] at hy
  obtain ⟨rfl, rfl⟩ := hy
  (try rfl)
theorem f_equalF_ok (h : Nat) (ih : PureOK Tryz.prog 34 true (g_equalP h)) : PureOK Tryz.prog 69 true (g_equalF h) := by
  have hΓ := (Γp ih (Γn))
  refine pure_enc (n := 32) (rs := [.tmp 6]) Tryz.func69 (by kernel_rfl) rfl (by kernel_rfl) (by kernel_rfl) ?_
  rintro ⟨l, r⟩ ⟨hn1, hn2, hb1, hb2⟩
  dsimp only at hn1 hn2 hb1 hb2 ⊢
  refine ⟨fun _ => .bool _, fun k hz0 => ?_⟩
  have hne := fun h => eqXs_len (l := l) (r := r) h
  rw [start_frame (by simp)]; simp only [enumV, go_sem, emptyH]
  by_cases hlen : l.length = r.length
  case neg =>
    have hlb : ((l.length : Int) != (r.length : Int)) = true := by simp; omega
    rw [hne hlen]
    repeat (first
      | (apply axJ; (focus ((with_reducible constructor) <;> rfl)))
      | (apply awT mixedOK hΓ (by kernel_rfl); (simp (disch := omega) only [go_sem, ↓reduceIte, dk, hlb] <;> with_reducible rfl))
      | ((first | apply awR hΓ | apply awG | apply awH mixedOK hΓ rfl (by kernel_rfl) | apply ovE rfl); (simp (disch := omega) only [go_sem, ↓reduceIte, dk, hlb] <;> with_reducible rfl); exact trivial)
      | rfl)
  have hlb : ((l.length : Int) != (r.length : Int)) = false := by simp; omega
  repeat (first
    | (apply axJ; (focus ((with_reducible constructor) <;> rfl)))
    | (apply awT mixedOK hΓ (by kernel_rfl); (simp (disch := omega) only [go_sem, ↓reduceIte, dk, hlb] <;> with_reducible rfl))
    | ((first | apply awR hΓ | apply awG | apply awH mixedOK hΓ rfl (by kernel_rfl) | apply ovE rfl); (simp (disch := omega) only [go_sem, ↓reduceIte, dk, hlb] <;> with_reducible rfl); exact trivial)
    | rfl)
  refine awp_loop_at (X := Nat) (fun i => (frame 32 [(1, .data (.list (r.map eX))), (2, .data (.clo 34 [])), (15, .data (.list (l.map eX))), (16, .data (i64 l.length)), (17, .data (i64 i))])) (fun _ => []) 0
    (fun i => i ≤ l.length ∧ eqXs l r = eqXs (l.drop i) (r.drop i)) (fun i => l.length - i) 0 ⟨Nat.zero_le _, rfl⟩ (Weak.w) ?_
  rintro i ⟨hi, he⟩
  by_cases hi2 : i < l.length
  · have hi3 : i < r.length := by omega
    have e := g_equalP_eq (h := h) (a := l[i]) (b := r[i]) ⟨(hb1 _ (List.getElem_mem hi2)).1, (hb1 _ (List.getElem_mem hi2)).2, hb2 _ (List.getElem_mem hi3)⟩
    rw [eqXs_drop hi2 hi3] at he
    rw [he]
    generalize hx : l[i] = x at *
    generalize hy : r[i] = y at *
    cases hc : eqX x y with
    | true =>
      rw [hc] at e
      repeat (first
        | (apply axJ; (focus ((with_reducible constructor) <;> rfl)))
        | (apply awT mixedOK hΓ (by kernel_rfl); (simp (disch := omega) only [go_sem, ↓reduceIte, dk, hx, hy, e] <;> with_reducible rfl))
        | ((first | apply awR hΓ | apply awG | apply awH mixedOK hΓ rfl (by kernel_rfl) | apply ovE rfl); (simp (disch := omega) only [go_sem, ↓reduceIte, dk, hx, hy, e] <;> with_reducible rfl); exact trivial)
        | rfl)
      exact ⟨i + 1, ⟨by omega, rfl⟩, by omega, Weak.w⟩
    | false =>
      rw [hc] at e
      repeat (first
        | (apply axJ; (focus ((with_reducible constructor) <;> rfl)))
        | (apply awT mixedOK hΓ (by kernel_rfl); (simp (disch := omega) only [go_sem, ↓reduceIte, dk, hx, hy, e] <;> with_reducible rfl))
        | ((first | apply awR hΓ | apply awG | apply awH mixedOK hΓ rfl (by kernel_rfl) | apply ovE rfl); (simp (disch := omega) only [go_sem, ↓reduceIte, dk, hx, hy, e] <;> with_reducible rfl); exact trivial)
        | rfl)
      (try rfl)
  · have hi' : i = l.length := by omega
    subst hi'
    rw [he, List.drop_eq_nil_of_le (Nat.le_refl _), List.drop_eq_nil_of_le (by omega)]
    repeat (first
      | (apply axJ; (focus ((with_reducible constructor) <;> rfl)))
      | (apply awT mixedOK hΓ (by kernel_rfl); (simp (disch := omega) only [go_sem, ↓reduceIte, dk] <;> with_reducible rfl))
      | ((first | apply awR hΓ | apply awG | apply awH mixedOK hΓ rfl (by kernel_rfl) | apply ovE rfl); (simp (disch := omega) only [go_sem, ↓reduceIte, dk] <;> with_reducible rfl); exact trivial)
      | rfl)
    (try rfl)
theorem f_equalP_ok : ∀ h : Nat, PureOK Tryz.prog 34 true (g_equalP h)
 | 0 => pure_void (by
    rintro ⟨a, b⟩ ⟨hx, _⟩
    dsimp only at hx
    have := a.hgt_pos
    omega)
 | h + 1 => by
  have ih := f_equalF_ok h (f_equalP_ok h)
  have hΓ := (Γp ih (Γn))
  refine pure_enc (n := 31) (rs := [.tmp 4]) Tryz.func34 (by kernel_rfl) rfl (by kernel_rfl) (by kernel_rfl) ?_
  rintro ⟨a, b⟩ ⟨hh, ha, hb⟩
  dsimp only at hh ha hb ⊢
  refine ⟨fun _ => .bool _, fun k hz0 => ?_⟩
  have hz1 := ha.z
  have hl1 := a.len_le
  have hz2 := hb.z
  have hl2 := b.len_le
  have e := g_equalF_eq (h := h) (l := a.kids) (r := b.kids) ⟨by omega, by omega, fun x hx => ⟨by have := LX.hgt_kid hx; omega, ha.k hx⟩, fun x hx => hb.k hx⟩
  rw [eqX_eq]
  rw [start_frame (by simp)]; simp only [enumV, go_sem, emptyH]
  generalize hc1 : (a.kind == b.kind) = c1
  generalize hc2 : (a.name == b.name) = c2
  generalize hc3 : (a.exc == b.exc) = c3
  cases c1
  · repeat (first
    | (apply axJ; (focus ((with_reducible constructor) <;> rfl)))
    | (apply awT mixedOK hΓ (by kernel_rfl); (simp (disch := omega) only [go_sem, ↓reduceIte, dk, hc1, hc2, hc3] <;> with_reducible rfl))
    | ((first | apply awR hΓ | apply awG | apply awH mixedOK hΓ rfl (by kernel_rfl) | apply ovE rfl); (simp (disch := omega) only [go_sem, ↓reduceIte, dk, hc1, hc2, hc3] <;> with_reducible rfl); exact trivial)
    | rfl)
    (try rfl)
  cases c2
  · repeat (first
    | (apply axJ; (focus ((with_reducible constructor) <;> rfl)))
    | (apply awT mixedOK hΓ (by kernel_rfl); (simp (disch := omega) only [go_sem, ↓reduceIte, dk, hc1, hc2, hc3] <;> with_reducible rfl))
    | ((first | apply awR hΓ | apply awG | apply awH mixedOK hΓ rfl (by kernel_rfl) | apply ovE rfl); (simp (disch := omega) only [go_sem, ↓reduceIte, dk, hc1, hc2, hc3] <;> with_reducible rfl); exact trivial)
    | rfl)
    (try rfl)
  cases c3
  · repeat (first
    | (apply axJ; (focus ((with_reducible constructor) <;> rfl)))
    | (apply awT mixedOK hΓ (by kernel_rfl); (simp (disch := omega) only [go_sem, ↓reduceIte, dk, hc1, hc2, hc3] <;> with_reducible rfl))
    | ((first | apply awR hΓ | apply awG | apply awH mixedOK hΓ rfl (by kernel_rfl) | apply ovE rfl); (simp (disch := omega) only [go_sem, ↓reduceIte, dk, hc1, hc2, hc3] <;> with_reducible rfl); exact trivial)
    | rfl)
    (try rfl)
  repeat (first
    | (apply axJ; (focus ((with_reducible constructor) <;> rfl)))
    | (apply awT mixedOK hΓ (by kernel_rfl); (simp (disch := omega) only [go_sem, ↓reduceIte, dk, hc1, hc2, hc3, e] <;> with_reducible rfl))
    | ((first | apply awR hΓ | apply awG | apply awH mixedOK hΓ rfl (by kernel_rfl) | apply ovE rfl); (simp (disch := omega) only [go_sem, ↓reduceIte, dk, hc1, hc2, hc3, e] <;> with_reducible rfl); exact trivial)
    | rfl)
  (try rfl)
end Go.Ab
namespace Go.Ab
open Go Go.RowKit Go.Proofs
set_option maxRecDepth 10000
set_option maxHeartbeats 8000000
theorem letter_cut : ∀ b : UInt8, cutset.contains b = letter b := by
  have h : ∀ n : Fin 256, cutset.contains (UInt8.ofNat n) = letter (UInt8.ofNat n) := by decide +kernel
  intro b
  have := h ⟨b.toNat, b.toNat_lt⟩
  simpa using this
theorem trimL_eq (s : List UInt8) : Lib.trimLeftS s cutset = s.dropWhile letter := by
  unfold Lib.trimLeftS
  congr 1
  funext b
  exact letter_cut b
theorem dropWhile_nil {p : UInt8 → Bool} : ∀ s : List UInt8, (s.dropWhile p == []) = s.all p
  | [] => rfl
  | b :: s => by
    rw [List.dropWhile_cons, List.all_cons]
    cases p b with
    | true => simpa using dropWhile_nil s
    | false => simp
theorem trim_nil (s : List UInt8) : (Lib.trimS s cutset == []) = s.all letter := by
  unfold Lib.trimS
  rw [trimL_eq, dropWhile_nil]
  have hr : Lib.trimRightS s cutset = (s.reverse.dropWhile letter).reverse := by
    unfold Lib.trimRightS
    congr 2
    funext b
    exact letter_cut b
  rw [hr, List.all_reverse]
  have h1 : s.reverse.all letter = s.all letter := List.all_reverse
  have h2 : s.reverse.all letter = ((s.reverse.takeWhile letter).all letter && (s.reverse.dropWhile letter).all letter) := by
    conv => lhs; rw [← List.takeWhile_append_dropWhile (p := letter) (l := s.reverse), List.all_append]
  have h3 : (s.reverse.takeWhile letter).all letter = true := by
    rw [List.all_eq_true]
    intro x hx
    exact List.all_eq_true.1 (List.all_takeWhile (p := letter) (l := s.reverse)) x hx
  rw [← h1, h2, h3, Bool.true_and]
noncomputable def g_isName : List D → Option D := encSpec (fun x : (List UInt8) => [.str x]) (fun x : (List UInt8) => x.length ≤ 1099511627776) (fun x : (List UInt8) => .bool (isNameB x))
theorem g_isName_eq {s : List UInt8} (hd : s.length ≤ 1099511627776) : g_isName [.str s] = some (.bool (isNameB s)) := encSpec_eq (x := s) hd fun y hy => by
    simp only [List.cons.injEq, and_true, true_and, D.str.injEq, D.int.injEq, D.list.injEq, D.bool.injEq, D.agg.injEq, D.clo.injEq, Int.natCast_inj, inj_ie, lx_ie] at hy
    rw [hy]
theorem f_isName_ok : PureOK Tryz.prog 103 true g_isName := by
  have hΓ := Γp f_trim_ok (Γn)
  refine pure_enc (n := 36) (rs := [.tmp 2]) Tryz.func103 (by kernel_rfl) rfl (by kernel_rfl) (by kernel_rfl) ?_
  rintro s hd
  (try dsimp only at hd ⊢)
  refine ⟨fun _ => by (repeat (first | exact .int _ _ | exact .bool _ | exact .str _ | (refine .tup _ (fun d hd => ?_); simp only [List.mem_cons, List.not_mem_nil, or_false] at hd; rcases hd with rfl | hd))), fun k hz0 => ?_⟩
  have e0 := g_trim_eq hd
  have e1 := trim_nil s
  unfold cutset at e0 e1
  generalize Lib.trimS s [97, 98, 99, 100, 101, 102, 103, 104, 105, 106, 107, 108, 109, 110, 111, 112, 113, 114, 115, 116, 117, 118, 119, 120, 121, 122, 48, 49, 50, 51, 52, 53, 54, 55, 56, 57, 45, 46] = r0 at e0 e1
  rw [start_frame (by simp)]; simp only [enumV, go_sem, emptyH]
  cases s with
  | nil =>
    repeat (first
      | (apply axJ; (focus ((with_reducible constructor) <;> rfl)))
      | (apply awT mixedOK hΓ (by kernel_rfl); (simp (disch := omega) only [go_sem, ↓reduceIte, dk] <;> with_reducible rfl))
      | ((first | apply awR hΓ | apply awG | apply awH mixedOK hΓ rfl (by kernel_rfl) | apply ovE rfl); (simp (disch := omega) only [go_sem, ↓reduceIte, dk] <;> with_reducible rfl); exact trivial)
      | rfl)
  | cons b s =>
    have hhd : headOK (b :: s) = (!(decide ((b.toNat : Int) < 97)) && !(decide ((b.toNat : Int) > 122))) := rfl
    unfold isNameB
    rw [hhd]
    have hlen : 1 ≤ (b :: s).length := by simp
    have hb0 : (b :: s)[0]? = some b := rfl
    generalize b :: s = r at *
    generalize hc0 : decide ((r.length : Int) > 32) = c0
    generalize hc1 : decide ((b.toNat : Int) < 97) = c1
    generalize hc2 : decide ((b.toNat : Int) > 122) = c2
    generalize hc3 : (r == [97, 110, 100]) = c3
    generalize hc4 : (r == [111, 114]) = c4
    generalize hc5 : (r == [119, 105, 116, 104]) = c5
    have h1 : decide ((r.length : Int) < 1) = false := decide_eq_false (by omega)
    have hb1 : ∀ h : 0 < r.length, r[0]'h = b := fun h => by rw [List.getElem?_eq_getElem h] at hb0; simpa using hb0
    cases c0
    rotate_left
    · ((repeat (first | (apply axJ; (focus ((with_reducible constructor) <;> rfl))) | (apply awT mixedOK hΓ (by kernel_rfl); (simp (disch := omega) only [go_sem, ↓reduceIte, dk, Int.reduceToNat, h1, hb1, hc0, hc1, hc2, hc3, hc4, hc5] <;> with_reducible rfl)) | ((first | apply awR hΓ | apply awG | apply awH mixedOK hΓ rfl (by kernel_rfl) | apply ovE rfl); (simp (disch := omega) only [go_sem, ↓reduceIte, dk, Int.reduceToNat, h1, hb1, hc0, hc1, hc2, hc3, hc4, hc5] <;> with_reducible rfl); exact trivial) | rfl)); (first | done | rfl))
    cases c1
    rotate_left
    · ((repeat (first | (apply axJ; (focus ((with_reducible constructor) <;> rfl))) | (apply awT mixedOK hΓ (by kernel_rfl); (simp (disch := omega) only [go_sem, ↓reduceIte, dk, Int.reduceToNat, h1, hb1, hc0, hc1, hc2, hc3, hc4, hc5] <;> with_reducible rfl)) | ((first | apply awR hΓ | apply awG | apply awH mixedOK hΓ rfl (by kernel_rfl) | apply ovE rfl); (simp (disch := omega) only [go_sem, ↓reduceIte, dk, Int.reduceToNat, h1, hb1, hc0, hc1, hc2, hc3, hc4, hc5] <;> with_reducible rfl); exact trivial) | rfl)); (first | done | rfl))
    cases c2
    rotate_left
    · ((repeat (first | (apply axJ; (focus ((with_reducible constructor) <;> rfl))) | (apply awT mixedOK hΓ (by kernel_rfl); (simp (disch := omega) only [go_sem, ↓reduceIte, dk, Int.reduceToNat, h1, hb1, hc0, hc1, hc2, hc3, hc4, hc5] <;> with_reducible rfl)) | ((first | apply awR hΓ | apply awG | apply awH mixedOK hΓ rfl (by kernel_rfl) | apply ovE rfl); (simp (disch := omega) only [go_sem, ↓reduceIte, dk, Int.reduceToNat, h1, hb1, hc0, hc1, hc2, hc3, hc4, hc5] <;> with_reducible rfl); exact trivial) | rfl)); (first | done | rfl))
    cases c3
    rotate_left
    · ((repeat (first | (apply axJ; (focus ((with_reducible constructor) <;> rfl))) | (apply awT mixedOK hΓ (by kernel_rfl); (simp (disch := omega) only [go_sem, ↓reduceIte, dk, Int.reduceToNat, h1, hb1, hc0, hc1, hc2, hc3, hc4, hc5] <;> with_reducible rfl)) | ((first | apply awR hΓ | apply awG | apply awH mixedOK hΓ rfl (by kernel_rfl) | apply ovE rfl); (simp (disch := omega) only [go_sem, ↓reduceIte, dk, Int.reduceToNat, h1, hb1, hc0, hc1, hc2, hc3, hc4, hc5] <;> with_reducible rfl); exact trivial) | rfl)); (first | done | rfl))
    cases c4
    rotate_left
    · ((repeat (first | (apply axJ; (focus ((with_reducible constructor) <;> rfl))) | (apply awT mixedOK hΓ (by kernel_rfl); (simp (disch := omega) only [go_sem, ↓reduceIte, dk, Int.reduceToNat, h1, hb1, hc0, hc1, hc2, hc3, hc4, hc5] <;> with_reducible rfl)) | ((first | apply awR hΓ | apply awG | apply awH mixedOK hΓ rfl (by kernel_rfl) | apply ovE rfl); (simp (disch := omega) only [go_sem, ↓reduceIte, dk, Int.reduceToNat, h1, hb1, hc0, hc1, hc2, hc3, hc4, hc5] <;> with_reducible rfl); exact trivial) | rfl)); (first | done | rfl))
    cases c5
    rotate_left
    · ((repeat (first | (apply axJ; (focus ((with_reducible constructor) <;> rfl))) | (apply awT mixedOK hΓ (by kernel_rfl); (simp (disch := omega) only [go_sem, ↓reduceIte, dk, Int.reduceToNat, h1, hb1, hc0, hc1, hc2, hc3, hc4, hc5] <;> with_reducible rfl)) | ((first | apply awR hΓ | apply awG | apply awH mixedOK hΓ rfl (by kernel_rfl) | apply ovE rfl); (simp (disch := omega) only [go_sem, ↓reduceIte, dk, Int.reduceToNat, h1, hb1, hc0, hc1, hc2, hc3, hc4, hc5] <;> with_reducible rfl); exact trivial) | rfl)); (first | done | rfl))
    repeat (first
      | (apply axJ; (focus ((with_reducible constructor) <;> rfl)))
      | (apply awT mixedOK hΓ (by kernel_rfl); (simp (disch := omega) only [go_sem, ↓reduceIte, dk, Int.reduceToNat, h1, hb1, hc0, hc1, hc2, hc3, hc4, hc5, e0, e1] <;> with_reducible rfl))
      | ((first | apply awR hΓ | apply awG | apply awH mixedOK hΓ rfl (by kernel_rfl) | apply ovE rfl); (simp (disch := omega) only [go_sem, ↓reduceIte, dk, Int.reduceToNat, h1, hb1, hc0, hc1, hc2, hc3, hc4, hc5, e0, e1] <;> with_reducible rfl); exact trivial)
      | rfl)
    try rfl
def nodeE (x : LX) : Int :=
  if (x.kind == 0) || (x.kind == 1) then
    if decide ((x.kids.length : Int) > 0) || ((x.kind == 1) && !(x.exc == [])) then 1
    else if !(isNameB x.name) || (!(x.exc == []) && !(isNameB x.exc)) then 2 else 0
  else if (x.kind == 2) || (x.kind == 3) then
    if decide ((x.kids.length : Int) < 2) || (!(x.name == []) || !(x.exc == [])) then 1 else 0
  else 1
noncomputable def g_checkNode : List D → Option D := encSpec (fun x : LX => [eX x]) (fun x : LX => x.Bd 1099511627776) (fun x : LX => i64 (nodeE x))
theorem g_checkNode_eq {x : LX} (hd : x.Bd 1099511627776) : g_checkNode [.agg [.int .i64 x.kind, .str x.name, .str x.exc, .list (x.kids.map eX)]] = some (i64 (nodeE x)) := by
  have e : g_checkNode [eX x] = some (i64 (nodeE x)) := encSpec_eq (x := x) hd fun y hy => by
    simp only [List.cons.injEq, and_true, true_and, D.str.injEq, D.int.injEq, D.list.injEq, D.bool.injEq, D.agg.injEq, D.clo.injEq, Int.natCast_inj, inj_ie, lx_ie] at hy
    rw [hy]
  exact (congrArg (g_checkNode) (by rw [← eX_eq x])).trans e
theorem f_checkNode_ok : PureOK Tryz.prog 71 true g_checkNode := by
  have hΓ := Γp f_isName_ok (Γn)
  refine pure_enc (n := 54) (rs := [.tmp 2]) Tryz.func71 (by kernel_rfl) rfl (by kernel_rfl) (by kernel_rfl) ?_
  rintro x hd
  (try dsimp only at hd ⊢)
  refine ⟨fun _ => by (repeat (first | exact .int _ _ | exact .bool _ | exact .str _ | (refine .tup _ (fun d hd => ?_); simp only [List.mem_cons, List.not_mem_nil, or_false] at hd; rcases hd with rfl | hd))), fun k hz0 => ?_⟩
  have e1 := g_isName_eq hd.n
  have e2 := g_isName_eq hd.e
  have hz := hd.z
  have hl := x.len_le
  unfold nodeE
  rw [start_frame (by simp)]; simp only [enumV, go_sem, emptyH]
  generalize hc0 : (x.kind == 0) = c0
  generalize hc1 : (x.kind == 1) = c1
  generalize hc2 : (x.kind == 2) = c2
  generalize hc3 : (x.kind == 3) = c3
  generalize hc4 : (x.name == []) = c4
  generalize hc5 : (x.exc == []) = c5
  generalize hc6 : decide ((x.kids.length : Int) > 0) = c6
  generalize hc7 : decide ((x.kids.length : Int) < 2) = c7
  generalize isNameB x.name = c8 at *
  generalize isNameB x.exc = c9 at *
  (cases c0; (focus (cases c1; (focus (cases c2; (focus (cases c3; (focus ((repeat (first | (apply axJ; (focus ((with_reducible constructor) <;> rfl))) | (apply awT mixedOK hΓ (by kernel_rfl); (simp (disch := omega) only [go_sem, ↓reduceIte, hc0, hc1, hc2, hc3, hc4, hc5, hc6, hc7, e1, e2] <;> with_reducible rfl)) | ((first | apply awR hΓ | apply awG | apply awH mixedOK hΓ rfl (by kernel_rfl) | apply ovE rfl); (simp (disch := omega) only [go_sem, ↓reduceIte, hc0, hc1, hc2, hc3, hc4, hc5, hc6, hc7, e1, e2] <;> with_reducible rfl); exact trivial) | rfl)); (first | done | rfl))); (focus (cases c7; (focus (cases c4; (focus ((repeat (first | (apply axJ; (focus ((with_reducible constructor) <;> rfl))) | (apply awT mixedOK hΓ (by kernel_rfl); (simp (disch := omega) only [go_sem, ↓reduceIte, hc0, hc1, hc2, hc3, hc4, hc5, hc6, hc7, e1, e2] <;> with_reducible rfl)) | ((first | apply awR hΓ | apply awG | apply awH mixedOK hΓ rfl (by kernel_rfl) | apply ovE rfl); (simp (disch := omega) only [go_sem, ↓reduceIte, hc0, hc1, hc2, hc3, hc4, hc5, hc6, hc7, e1, e2] <;> with_reducible rfl); exact trivial) | rfl)); (first | done | rfl))); (focus (cases c5; (focus ((repeat (first | (apply axJ; (focus ((with_reducible constructor) <;> rfl))) | (apply awT mixedOK hΓ (by kernel_rfl); (simp (disch := omega) only [go_sem, ↓reduceIte, hc0, hc1, hc2, hc3, hc4, hc5, hc6, hc7, e1, e2] <;> with_reducible rfl)) | ((first | apply awR hΓ | apply awG | apply awH mixedOK hΓ rfl (by kernel_rfl) | apply ovE rfl); (simp (disch := omega) only [go_sem, ↓reduceIte, hc0, hc1, hc2, hc3, hc4, hc5, hc6, hc7, e1, e2] <;> with_reducible rfl); exact trivial) | rfl)); (first | done | rfl))); (focus ((repeat (first | (apply axJ; (focus ((with_reducible constructor) <;> rfl))) | (apply awT mixedOK hΓ (by kernel_rfl); (simp (disch := omega) only [go_sem, ↓reduceIte, hc0, hc1, hc2, hc3, hc4, hc5, hc6, hc7, e1, e2] <;> with_reducible rfl)) | ((first | apply awR hΓ | apply awG | apply awH mixedOK hΓ rfl (by kernel_rfl) | apply ovE rfl); (simp (disch := omega) only [go_sem, ↓reduceIte, hc0, hc1, hc2, hc3, hc4, hc5, hc6, hc7, e1, e2] <;> with_reducible rfl); exact trivial) | rfl)); (first | done | rfl))))))); (focus ((repeat (first | (apply axJ; (focus ((with_reducible constructor) <;> rfl))) | (apply awT mixedOK hΓ (by kernel_rfl); (simp (disch := omega) only [go_sem, ↓reduceIte, hc0, hc1, hc2, hc3, hc4, hc5, hc6, hc7, e1, e2] <;> with_reducible rfl)) | ((first | apply awR hΓ | apply awG | apply awH mixedOK hΓ rfl (by kernel_rfl) | apply ovE rfl); (simp (disch := omega) only [go_sem, ↓reduceIte, hc0, hc1, hc2, hc3, hc4, hc5, hc6, hc7, e1, e2] <;> with_reducible rfl); exact trivial) | rfl)); (first | done | rfl))))))); (focus (cases c7; (focus (cases c4; (focus ((repeat (first | (apply axJ; (focus ((with_reducible constructor) <;> rfl))) | (apply awT mixedOK hΓ (by kernel_rfl); (simp (disch := omega) only [go_sem, ↓reduceIte, hc0, hc1, hc2, hc3, hc4, hc5, hc6, hc7, e1, e2] <;> with_reducible rfl)) | ((first | apply awR hΓ | apply awG | apply awH mixedOK hΓ rfl (by kernel_rfl) | apply ovE rfl); (simp (disch := omega) only [go_sem, ↓reduceIte, hc0, hc1, hc2, hc3, hc4, hc5, hc6, hc7, e1, e2] <;> with_reducible rfl); exact trivial) | rfl)); (first | done | rfl))); (focus (cases c5; (focus ((repeat (first | (apply axJ; (focus ((with_reducible constructor) <;> rfl))) | (apply awT mixedOK hΓ (by kernel_rfl); (simp (disch := omega) only [go_sem, ↓reduceIte, hc0, hc1, hc2, hc3, hc4, hc5, hc6, hc7, e1, e2] <;> with_reducible rfl)) | ((first | apply awR hΓ | apply awG | apply awH mixedOK hΓ rfl (by kernel_rfl) | apply ovE rfl); (simp (disch := omega) only [go_sem, ↓reduceIte, hc0, hc1, hc2, hc3, hc4, hc5, hc6, hc7, e1, e2] <;> with_reducible rfl); exact trivial) | rfl)); (first | done | rfl))); (focus ((repeat (first | (apply axJ; (focus ((with_reducible constructor) <;> rfl))) | (apply awT mixedOK hΓ (by kernel_rfl); (simp (disch := omega) only [go_sem, ↓reduceIte, hc0, hc1, hc2, hc3, hc4, hc5, hc6, hc7, e1, e2] <;> with_reducible rfl)) | ((first | apply awR hΓ | apply awG | apply awH mixedOK hΓ rfl (by kernel_rfl) | apply ovE rfl); (simp (disch := omega) only [go_sem, ↓reduceIte, hc0, hc1, hc2, hc3, hc4, hc5, hc6, hc7, e1, e2] <;> with_reducible rfl); exact trivial) | rfl)); (first | done | rfl))))))); (focus ((repeat (first | (apply axJ; (focus ((with_reducible constructor) <;> rfl))) | (apply awT mixedOK hΓ (by kernel_rfl); (simp (disch := omega) only [go_sem, ↓reduceIte, hc0, hc1, hc2, hc3, hc4, hc5, hc6, hc7, e1, e2] <;> with_reducible rfl)) | ((first | apply awR hΓ | apply awG | apply awH mixedOK hΓ rfl (by kernel_rfl) | apply ovE rfl); (simp (disch := omega) only [go_sem, ↓reduceIte, hc0, hc1, hc2, hc3, hc4, hc5, hc6, hc7, e1, e2] <;> with_reducible rfl); exact trivial) | rfl)); (first | done | rfl))))))); (focus (cases c6; (focus (cases c5; (focus ((repeat (first | (apply axJ; (focus ((with_reducible constructor) <;> rfl))) | (apply awT mixedOK hΓ (by kernel_rfl); (simp (disch := omega) only [go_sem, ↓reduceIte, hc0, hc1, hc2, hc3, hc4, hc5, hc6, hc7, e1, e2] <;> with_reducible rfl)) | ((first | apply awR hΓ | apply awG | apply awH mixedOK hΓ rfl (by kernel_rfl) | apply ovE rfl); (simp (disch := omega) only [go_sem, ↓reduceIte, hc0, hc1, hc2, hc3, hc4, hc5, hc6, hc7, e1, e2] <;> with_reducible rfl); exact trivial) | rfl)); (first | done | rfl))); (focus (cases c8; (focus ((repeat (first | (apply axJ; (focus ((with_reducible constructor) <;> rfl))) | (apply awT mixedOK hΓ (by kernel_rfl); (simp (disch := omega) only [go_sem, ↓reduceIte, hc0, hc1, hc2, hc3, hc4, hc5, hc6, hc7, e1, e2] <;> with_reducible rfl)) | ((first | apply awR hΓ | apply awG | apply awH mixedOK hΓ rfl (by kernel_rfl) | apply ovE rfl); (simp (disch := omega) only [go_sem, ↓reduceIte, hc0, hc1, hc2, hc3, hc4, hc5, hc6, hc7, e1, e2] <;> with_reducible rfl); exact trivial) | rfl)); (first | done | rfl))); (focus ((repeat (first | (apply axJ; (focus ((with_reducible constructor) <;> rfl))) | (apply awT mixedOK hΓ (by kernel_rfl); (simp (disch := omega) only [go_sem, ↓reduceIte, hc0, hc1, hc2, hc3, hc4, hc5, hc6, hc7, e1, e2] <;> with_reducible rfl)) | ((first | apply awR hΓ | apply awG | apply awH mixedOK hΓ rfl (by kernel_rfl) | apply ovE rfl); (simp (disch := omega) only [go_sem, ↓reduceIte, hc0, hc1, hc2, hc3, hc4, hc5, hc6, hc7, e1, e2] <;> with_reducible rfl); exact trivial) | rfl)); (first | done | rfl))))))); (focus ((repeat (first | (apply axJ; (focus ((with_reducible constructor) <;> rfl))) | (apply awT mixedOK hΓ (by kernel_rfl); (simp (disch := omega) only [go_sem, ↓reduceIte, hc0, hc1, hc2, hc3, hc4, hc5, hc6, hc7, e1, e2] <;> with_reducible rfl)) | ((first | apply awR hΓ | apply awG | apply awH mixedOK hΓ rfl (by kernel_rfl) | apply ovE rfl); (simp (disch := omega) only [go_sem, ↓reduceIte, hc0, hc1, hc2, hc3, hc4, hc5, hc6, hc7, e1, e2] <;> with_reducible rfl); exact trivial) | rfl)); (first | done | rfl))))))); (focus (cases c6; (focus (cases c1; (focus (cases c8; (focus ((repeat (first | (apply axJ; (focus ((with_reducible constructor) <;> rfl))) | (apply awT mixedOK hΓ (by kernel_rfl); (simp (disch := omega) only [go_sem, ↓reduceIte, hc0, hc1, hc2, hc3, hc4, hc5, hc6, hc7, e1, e2] <;> with_reducible rfl)) | ((first | apply awR hΓ | apply awG | apply awH mixedOK hΓ rfl (by kernel_rfl) | apply ovE rfl); (simp (disch := omega) only [go_sem, ↓reduceIte, hc0, hc1, hc2, hc3, hc4, hc5, hc6, hc7, e1, e2] <;> with_reducible rfl); exact trivial) | rfl)); (first | done | rfl))); (focus (cases c5; (focus (cases c9; (focus ((repeat (first | (apply axJ; (focus ((with_reducible constructor) <;> rfl))) | (apply awT mixedOK hΓ (by kernel_rfl); (simp (disch := omega) only [go_sem, ↓reduceIte, hc0, hc1, hc2, hc3, hc4, hc5, hc6, hc7, e1, e2] <;> with_reducible rfl)) | ((first | apply awR hΓ | apply awG | apply awH mixedOK hΓ rfl (by kernel_rfl) | apply ovE rfl); (simp (disch := omega) only [go_sem, ↓reduceIte, hc0, hc1, hc2, hc3, hc4, hc5, hc6, hc7, e1, e2] <;> with_reducible rfl); exact trivial) | rfl)); (first | done | rfl))); (focus ((repeat (first | (apply axJ; (focus ((with_reducible constructor) <;> rfl))) | (apply awT mixedOK hΓ (by kernel_rfl); (simp (disch := omega) only [go_sem, ↓reduceIte, hc0, hc1, hc2, hc3, hc4, hc5, hc6, hc7, e1, e2] <;> with_reducible rfl)) | ((first | apply awR hΓ | apply awG | apply awH mixedOK hΓ rfl (by kernel_rfl) | apply ovE rfl); (simp (disch := omega) only [go_sem, ↓reduceIte, hc0, hc1, hc2, hc3, hc4, hc5, hc6, hc7, e1, e2] <;> with_reducible rfl); exact trivial) | rfl)); (first | done | rfl))))); (focus ((repeat (first | (apply axJ; (focus ((with_reducible constructor) <;> rfl))) | (apply awT mixedOK hΓ (by kernel_rfl); (simp (disch := omega) only [go_sem, ↓reduceIte, hc0, hc1, hc2, hc3, hc4, hc5, hc6, hc7, e1, e2] <;> with_reducible rfl)) | ((first | apply awR hΓ | apply awG | apply awH mixedOK hΓ rfl (by kernel_rfl) | apply ovE rfl); (simp (disch := omega) only [go_sem, ↓reduceIte, hc0, hc1, hc2, hc3, hc4, hc5, hc6, hc7, e1, e2] <;> with_reducible rfl); exact trivial) | rfl)); (first | done | rfl))))))); (focus (cases c5; (focus ((repeat (first | (apply axJ; (focus ((with_reducible constructor) <;> rfl))) | (apply awT mixedOK hΓ (by kernel_rfl); (simp (disch := omega) only [go_sem, ↓reduceIte, hc0, hc1, hc2, hc3, hc4, hc5, hc6, hc7, e1, e2] <;> with_reducible rfl)) | ((first | apply awR hΓ | apply awG | apply awH mixedOK hΓ rfl (by kernel_rfl) | apply ovE rfl); (simp (disch := omega) only [go_sem, ↓reduceIte, hc0, hc1, hc2, hc3, hc4, hc5, hc6, hc7, e1, e2] <;> with_reducible rfl); exact trivial) | rfl)); (first | done | rfl))); (focus (cases c8; (focus ((repeat (first | (apply axJ; (focus ((with_reducible constructor) <;> rfl))) | (apply awT mixedOK hΓ (by kernel_rfl); (simp (disch := omega) only [go_sem, ↓reduceIte, hc0, hc1, hc2, hc3, hc4, hc5, hc6, hc7, e1, e2] <;> with_reducible rfl)) | ((first | apply awR hΓ | apply awG | apply awH mixedOK hΓ rfl (by kernel_rfl) | apply ovE rfl); (simp (disch := omega) only [go_sem, ↓reduceIte, hc0, hc1, hc2, hc3, hc4, hc5, hc6, hc7, e1, e2] <;> with_reducible rfl); exact trivial) | rfl)); (first | done | rfl))); (focus ((repeat (first | (apply axJ; (focus ((with_reducible constructor) <;> rfl))) | (apply awT mixedOK hΓ (by kernel_rfl); (simp (disch := omega) only [go_sem, ↓reduceIte, hc0, hc1, hc2, hc3, hc4, hc5, hc6, hc7, e1, e2] <;> with_reducible rfl)) | ((first | apply awR hΓ | apply awG | apply awH mixedOK hΓ rfl (by kernel_rfl) | apply ovE rfl); (simp (disch := omega) only [go_sem, ↓reduceIte, hc0, hc1, hc2, hc3, hc4, hc5, hc6, hc7, e1, e2] <;> with_reducible rfl); exact trivial) | rfl)); (first | done | rfl))))))))); (focus ((repeat (first | (apply axJ; (focus ((with_reducible constructor) <;> rfl))) | (apply awT mixedOK hΓ (by kernel_rfl); (simp (disch := omega) only [go_sem, ↓reduceIte, hc0, hc1, hc2, hc3, hc4, hc5, hc6, hc7, e1, e2] <;> with_reducible rfl)) | ((first | apply awR hΓ | apply awG | apply awH mixedOK hΓ rfl (by kernel_rfl) | apply ovE rfl); (simp (disch := omega) only [go_sem, ↓reduceIte, hc0, hc1, hc2, hc3, hc4, hc5, hc6, hc7, e1, e2] <;> with_reducible rfl); exact trivial) | rfl)); (first | done | rfl))))))
end Go.Ab
