/-
  One text of the proof (own work): contracts of functions of the program, by the abstract machine.
-/
import Derived.Test.YtmcgfohokniepaaX21
import Derived.Test.YtmcgfohokniepaaX26
import Derived.Test.YtmcgfohokniepaaX18
set_option linter.unusedVariables false
set_option linter.unusedSimpArgs false
namespace Go.Ab
open Go Go.RowKit Go.Proofs
set_option maxRecDepth 4000
set_option maxHeartbeats 40000000
structure Dd where
  k : Int
  a : Int
  q : Int
  an : Int
  u : Int
  f : Int
  t0 : Int
  t1 : Int
def eDd (d : Dd) : D := .agg [u8 d.k, u8 d.a, u8 d.q, u8 d.an, u8 d.u, .int .u16 d.f, u8 d.t0, u8 d.t1]
theorem eDd_inj (a b : Dd) (h : eDd a = eDd b) : a = b := by
  obtain ⟨a1, a2, a3, a4, a5, a6, a7, a8⟩ := a
  obtain ⟨b1, b2, b3, b4, b5, b6, b7, b8⟩ := b
  simp only [eDd, D.agg.injEq, List.cons.injEq, D.int.injEq, true_and, and_true] at h
  obtain ⟨h1, h2, h3, h4, h5, h6, h7, h8⟩ := h
  subst h1 h2 h3 h4 h5 h6 h7 h8
  rfl
structure DdOK (d : Dd) : Prop where
  k : 0 ≤ d.k
  a : 0 ≤ d.a
  q : 0 ≤ d.q
  an : 0 ≤ d.an
  u : 0 ≤ d.u
  t0 : 0 ≤ d.t0
  t1 : 0 ≤ d.t1
  f : 0 ≤ d.f
  kl : d.k ≤ 255
  t0l : d.t0 ≤ 255
  t1l : d.t1 ≤ 255
structure FillX where
  k : Int
  au : List UInt8
  n : Int
  ns : List (List UInt8)
  d : Dd
  bs : List Ev
  ids : List (List UInt8)
structure FillOK (x : FillX) : Prop where
  k1 : 1 ≤ x.k
  k5 : x.k ≤ 5
  au : x.au.length ≤ 64
  ns : x.ns.length ≤ 64
  nss : ∀ s ∈ x.ns, s.length ≤ 64
  d : DdOK x.d
  bs : x.bs.length ≤ 64
  ids : x.ids.length ≤ 64
  idss : ∀ s ∈ x.ids, s.length ≤ 64
def evA (k : Int) (au : List UInt8) (n : Int) (ns : List (List UInt8)) : List AV := [.data (i64 k), .data (.str au), .data (i64 n), .data (.list (ns.map .str)), .data (.str []), .data (i64 0), .data (i64 0), .data (.str []), .data (.str []), .data (.str []), .data (.str []), .data (.str []), .data (i64 0), .nils, .data (i64 0), .nils, .nils, .nils]
def fiA (x : FillX) : List AV := [.agg (evA x.k x.au x.n x.ns), .data (eDd x.d), .row 0 x.bs.length, .row 1 x.ids.length]
def fiO (x : FillX) : List Obj := [.row 113 18 (x.bs.map eE), .row 9 1 (x.ids.map .str)]
theorem fmap_inj {α : Type} {e : α → D} (he : ∀ a b, e a = e b → a = b) {l m : List α} (h : l.map e = m.map e) : l = m := List.map_inj_right he |>.1 h
theorem fi_inj (x y : FillX) (h : fiA x = fiA y) (h2 : fiO x = fiO y) : x = y := by
  obtain ⟨a1, a2, a3, a4, a5, a6, a7⟩ := x
  obtain ⟨b1, b2, b3, b4, b5, b6, b7⟩ := y
  simp only [fiA, evA, fiO, List.cons.injEq, AV.agg.injEq, AV.data.injEq, D.int.injEq, D.str.injEq, D.list.injEq, Obj.row.injEq, true_and, and_true] at h h2
  obtain ⟨⟨h3, h4, h5, h6⟩, h7, -⟩ := h
  obtain ⟨h8, h9⟩ := h2
  rw [h3, h4, h5, strs_inj h6, eDd_inj _ _ h7, fmap_inj eE_inj h8, strs_inj h9]
def FillG (x : FillX) (r : AV) (os : List Obj) : Prop := os = fiO x ∧ ∃ e, r = .data (eE e) ∧ EvOK e
theorem tmN {a : Int} (h : 0 ≤ a) (m : Nat) (hm : 0 < m) : 0 ≤ a.tmod m ∧ a.tmod m < m := by
  rw [Int.tmod_eq_emod_of_nonneg h]
  have h1 := Int.emod_nonneg a (show (m : Int) ≠ 0 by omega)
  have h2 := Int.emod_lt_of_pos a (show (0 : Int) < m by omega)
  exact ⟨h1, h2⟩
theorem tm2 {a : Int} (h : 0 ≤ a) : 0 ≤ a.tmod 2 ∧ a.tmod 2 < 2 ∧ a.tmod 2 ≤ a := by rw [Int.tmod_eq_emod_of_nonneg h]; omega
theorem tm3 {a : Int} (h : 0 ≤ a) : 0 ≤ a.tmod 3 ∧ a.tmod 3 < 3 ∧ a.tmod 3 ≤ a := by rw [Int.tmod_eq_emod_of_nonneg h]; omega
theorem tm4 {a : Int} (h : 0 ≤ a) : 0 ≤ a.tmod 4 ∧ a.tmod 4 < 4 ∧ a.tmod 4 ≤ a := by rw [Int.tmod_eq_emod_of_nonneg h]; omega
theorem tm5 {a : Int} (h : 0 ≤ a) : 0 ≤ a.tmod 5 ∧ a.tmod 5 < 5 ∧ a.tmod 5 ≤ a := by rw [Int.tmod_eq_emod_of_nonneg h]; omega
theorem pickS2 {a : Int} (h : 0 ≤ a) (x y : List UInt8) (hx : x.length ≤ 64) (hy : y.length ≤ 64) : ∃ z, [D.str x, D.str y][(a.tmod 2).toNat]? = some (.str z) ∧ z.length ≤ 64 := by
  have := tm2 h
  rcases (show a.tmod 2 = 0 ∨ a.tmod 2 = 1 by omega) with h | h <;> rw [h]
  · exact ⟨x, rfl, hx⟩
  · exact ⟨y, rfl, hy⟩
theorem pick3 {a : Int} (h : 0 ≤ a) (x y z : List UInt8) (hx : x.length ≤ 64) (hy : y.length ≤ 64) (hz : z.length ≤ 64) : ∃ w, [D.str x, D.str y, D.str z][(a.tmod 3).toNat]? = some (.str w) ∧ w.length ≤ 64 := by
  have := tm3 h
  rcases (show a.tmod 3 = 0 ∨ a.tmod 3 = 1 ∨ a.tmod 3 = 2 by omega) with h | h | h <;> rw [h]
  · exact ⟨x, rfl, hx⟩
  · exact ⟨y, rfl, hy⟩
  · exact ⟨z, rfl, hz⟩
def cntT : List (List UInt8) → Int
  | [] => 0
  | [_] => 1
  | _ => 2
noncomputable def Γ67 : FuncId → Option CSpec := fun f => if f = 36 then some (.pure true (g36)) else if f = 46 then some (.pure true (g46)) else if f = 89 then some (.pure true (g89)) else none
theorem Γ67_ok : ∀ f s, Γ67 f = some s → SpecOK Try.prog f s := by
  intro f s h
  unfold Γ67 at h
  split at h
  · rename_i hf; cases h; subst hf; exact f36_ok
  split at h
  · rename_i hf; cases h; subst hf; exact f46_ok
  split at h
  · rename_i hf; cases h; subst hf; exact f89_ok
  · cases h
theorem f67_ex : ∃ g, LocOK Try.prog 67 g ∧ ∀ x, FillOK x → ∃ r os, FillG x r os ∧ g (fiA x) (fiO x) = some (r, os) := by
  have hΓ := Γ67_ok
  refine loc_ex (enc := fiA) (eno := fiO) (dom := FillOK) (good := FillG) (n := 110) (rs := [.cell 8 113]) Try.func67 (by kernel_rfl) rfl (by kernel_rfl) (by kernel_rfl) fi_inj ?_
  rintro ⟨k, au, n, ns, d, bs, ids⟩ hz
  obtain ⟨z1, z2, z3, z4, z5, zd, z6, z7, z8⟩ := hz
  dsimp only at z1 z2 z3 z4 z5 zd z6 z7 z8
  obtain ⟨d1, d2, d3, d4, d5, d6, d7, d8, d9, d10, d11⟩ := zd
  unfold fiA fiO evA eDd
  dsimp only
  obtain ⟨qs, hq, hql⟩ := pick3 d3 [108, 105, 99, 101, 110, 115, 101, 58, 97, 112, 112, 47, 97, 46, 115, 114, 99] [108, 105, 99, 101, 110, 115, 101, 58, 108, 105, 98, 47, 98, 46, 115, 114, 99] [114, 101, 108, 97, 116, 105, 111, 110, 58, 97, 112, 112, 47, 97, 46, 115, 114, 99] (by decide) (by decide) (by decide)
  have t3 := tm3 d3
  rw [start_frameA (by simp)]; simp only [enumA, enumO, List.length_cons, List.length_nil, Nat.reduceAdd, go_sem]
  (repeat (first | refine axA ?_ | (apply axK; (focus ((with_reducible constructor) <;> rfl))) | ((first | apply axR hΓ | apply axG | apply ovX rfl | apply ovE rfl); (simp (disch := omega) only [go_sem, ↓reduceIte, ↓lk, dk, hq] <;> with_reducible rfl); exact trivial) | rfl))
  rcases (show k = 1 ∨ k = 2 ∨ k = 3 ∨ k = 4 ∨ k = 5 by omega) with rfl | rfl | rfl | rfl | rfl
  · have e36 := g36_2 (a := [114, 111, 111, 116]) (b := au) (by simp) (by omega)
    have hl := hsh_len [[114, 111, 111, 116], au]
    generalize hsh [[114, 111, 111, 116], au] = h at e36 hl
    have e89 := g89_eq
    (repeat (first | (apply axJ; (focus ((with_reducible constructor) <;> rfl))) | ((first | apply axR hΓ | apply axG | apply ovX rfl | apply ovE rfl); (simp (disch := omega) only [go_sem, ↓reduceIte, ↓lk, dk, Int.reduceBEq, Int.reduceBNe, Bool.true_bne, Bool.false_bne, Bool.not_true, Bool.not_false, Γ67, e36, e89] <;> with_reducible rfl); exact trivial) | rfl))
    refine retl_x (r := .data (eE ⟨1, au, n, ns, h, 8, 2, [], [], [], [], [], 0, []⟩)) (os := [.row 113 18 (bs.map eE), .row 9 1 (ids.map .str)]) rfl (by simp (disch := omega) only [go_sem, ↓reduceIte, dk]; rfl) ((Weak.agg1 (by (repeat' (first | exact True.intro | apply And.intro | exact rfl | exact Or.inl rfl | exact Or.inr (Or.inl ⟨rfl, rfl⟩) | exact Or.inr (Or.inr ⟨_, _, rfl, rfl, by simp⟩))); done) rfl).trans (Weak.of (by simp) ⟨rfl, trivial⟩ ⟨rfl, by simp, rfl, rfl, by simp, rfl, trivial⟩ rfl)) ⟨rfl, _, rfl, ⟨by simp, by simp, z4, z5, z3, by dsimp only; omega, by simp, by simp, by simp, by simp, by simp, by simp, by simp, by simp, by simp⟩⟩
  · obtain ⟨ps, hp, hpl⟩ := pickS2 d3 [97, 112, 112] [108, 105, 98] (by decide) (by decide)
    have t2 := tm2 d3
    have t4 := tm3 d4
    have e46 := g46_eq (d.an.tmod 3)
    have l46 := numB_len (d.an.tmod 3)
    generalize numB (d.an.tmod 3) = m at e46 l46
    have e36 := g36_2 (a := [116, 114, 101, 101]) (b := m) (by simp) (by omega)
    have hl := hsh_len [[116, 114, 101, 101], m]
    generalize hsh [[116, 114, 101, 101], m] = h at e36 hl
    (repeat (first | (apply axJ; (focus ((with_reducible constructor) <;> rfl))) | ((first | apply axR hΓ | apply axG | apply ovX rfl | apply ovE rfl); (simp (disch := omega) only [go_sem, ↓reduceIte, ↓lk, dk, Int.reduceBEq, Int.reduceBNe, Bool.true_bne, Bool.false_bne, Bool.not_true, Bool.not_false] <;> with_reducible rfl); exact trivial) | rfl))
    (apply axp_regm (nst := false) (nst' := false) 14 mixedOK hΓ (by kernel_rfl); (simp (disch := omega) only [go_sem, ↓reduceIte, ↓lk, dk, hp, Γ67, e46, e36, look_upd] <;> with_reducible rfl); (simp (disch := omega) only [go_sem, ↓reduceIte] <;> with_reducible rfl); (focus rfl); (focus rfl); (simp (disch := omega) only [go_sem, ↓reduceIte, ↓lk, dk, hp, Γ67, e46, e36, look_upd] <;> with_reducible rfl); (focus (first | (simp (disch := omega) only [go_sem, ↓reduceIte, ↓lk, dk, hp, Γ67, e46, e36, look_upd]; done) | (simp (disch := omega) only [go_sem, ↓reduceIte, ↓lk, dk, hp, Γ67, e46, e36, look_upd]; omega))); (focus (dsimp only [List.take_succ_cons, List.take_zero]; (repeat (apply same2_cons; (focus (first | (left; decide) | (right; simp (disch := omega) only [go_sem, ↓reduceIte, ↓lk, dk, hp, Γ67, e46, e36, look_upd]; done))); (simp (disch := omega) only [go_sem, ↓reduceIte, ↓lk, dk, hp, Γ67, e46, e36, look_upd] <;> with_reducible rfl))); exact same2_nil)); (simp (disch := omega) only [go_sem, ↓reduceIte, ↓lk, dk, hp, Γ67, e46, e36, look_upd] <;> with_reducible rfl))
    (repeat (first | (apply axJ; (focus ((with_reducible constructor) <;> rfl))) | ((first | apply axR hΓ | apply axG | apply ovX rfl | apply ovE rfl); (simp (disch := omega) only [go_sem, ↓reduceIte, ↓lk, dk, Int.reduceBEq, Int.reduceBNe, Bool.true_bne, Bool.false_bne, Bool.not_true, Bool.not_false] <;> with_reducible rfl); exact trivial) | rfl))
    refine retl_x (r := .data (eE ⟨2, au, n, ns, [], 0, 0, ps, h, [], [], [], 0, []⟩)) (os := [.row 113 18 (bs.map eE), .row 9 1 (ids.map .str)]) rfl (by simp (disch := omega) only [go_sem, ↓reduceIte, dk]; rfl) ((Weak.agg1 (by (repeat' (first | exact True.intro | apply And.intro | exact rfl | exact Or.inl rfl | exact Or.inr (Or.inl ⟨rfl, rfl⟩) | exact Or.inr (Or.inr ⟨_, _, rfl, rfl, by simp⟩))); done) rfl).trans (Weak.of (by simp) ⟨rfl, trivial⟩ ⟨rfl, by simp, rfl, rfl, by simp, rfl, trivial⟩ rfl)) ⟨rfl, _, rfl, ⟨by simp, by simp, z4, z5, z3, by simp, hpl, by dsimp only; omega, by simp, by simp, by simp, by simp, by simp, by simp, by simp⟩⟩
  · obtain ⟨ps, hp, hpl⟩ := pickS2 d5 [] [97, 112, 112, 47] (by decide) (by decide)
    obtain ⟨as', ha, hal⟩ := pick3 d4 [109, 105, 116] [103, 112, 108, 32, 111, 114, 32, 109, 105, 116] [] (by decide) (by decide) (by decide)
    have t2 := tm2 d5
    have t4 := tm3 d4
    have t5 := tm2 d4
    have t6 := tm4 d5
    have e46 := g46_eq (d.an.tmod 2)
    have l46 := numB_len (d.an.tmod 2)
    generalize numB (d.an.tmod 2) = m at e46 l46
    have e36 := g36_2 (a := [101, 118, 105, 100, 101, 110, 99, 101]) (b := m) (by simp) (by omega)
    have hl := hsh_len [[101, 118, 105, 100, 101, 110, 99, 101], m]
    generalize hsh [[101, 118, 105, 100, 101, 110, 99, 101], m] = h at e36 hl
    (repeat (first | (apply axJ; (focus ((with_reducible constructor) <;> rfl))) | ((first | apply axR hΓ | apply axG | apply ovX rfl | apply ovE rfl); (simp (disch := omega) only [go_sem, ↓reduceIte, ↓lk, dk, Int.reduceBEq, Int.reduceBNe, Bool.true_bne, Bool.false_bne, Bool.not_true, Bool.not_false] <;> with_reducible rfl); exact trivial) | rfl))
    (apply axp_regm (nst := false) (nst' := false) 8 mixedOK hΓ (by kernel_rfl); (simp (disch := omega) only [go_sem, ↓reduceIte, ↓lk, dk, hp, look_upd] <;> with_reducible rfl); (simp (disch := omega) only [go_sem, ↓reduceIte] <;> with_reducible rfl); (focus rfl); (focus rfl); (simp (disch := omega) only [go_sem, ↓reduceIte, ↓lk, dk, hp, look_upd] <;> with_reducible rfl); (focus (first | (simp (disch := omega) only [go_sem, ↓reduceIte, ↓lk, dk, hp, look_upd]; done) | (simp (disch := omega) only [go_sem, ↓reduceIte, ↓lk, dk, hp, look_upd]; omega))); (focus (dsimp only [List.take_succ_cons, List.take_zero]; (repeat (apply same2_cons; (focus (first | (left; decide) | (right; simp (disch := omega) only [go_sem, ↓reduceIte, ↓lk, dk, hp, look_upd]; done))); (simp (disch := omega) only [go_sem, ↓reduceIte, ↓lk, dk, hp, look_upd] <;> with_reducible rfl))); exact same2_nil)); (simp (disch := omega) only [go_sem, ↓reduceIte, ↓lk, dk, hp, look_upd] <;> with_reducible rfl))
    (repeat (first | (apply axJ; (focus ((with_reducible constructor) <;> rfl))) | ((first | apply axR hΓ | apply axG | apply ovX rfl | apply ovE rfl); (simp (disch := omega) only [go_sem, ↓reduceIte, ↓lk, dk, Int.reduceBEq, Int.reduceBNe, Bool.true_bne, Bool.false_bne, Bool.not_true, Bool.not_false] <;> with_reducible rfl); exact trivial) | rfl))
    (apply axp_lane3 (nst := false) (nst' := false) [false, false, false, false, false, false, false, false, false, false, false, false, false, false, false, false, false, false, true, false, true] mixedOK hΓ (n1 := 21) (by kernel_rfl) (by kernel_rfl); (focus (dsimp only [List.take_succ_cons, List.take_zero, Array.toList]; (repeat (first | (apply lane3_loud; (focus rfl); (focus rfl); (simp (disch := omega) only [go_sem, ↓reduceIte, ↓lk, dk, ha, Γ67, e46, e36, look_upd] <;> with_reducible rfl); (focus (first | (simp (disch := omega) only [go_sem, ↓reduceIte, ↓lk, dk, ha, Γ67, e46, e36, look_upd]; done) | (simp (disch := omega) only [go_sem, ↓reduceIte, ↓lk, dk, ha, Γ67, e46, e36, look_upd]; omega)))) | (apply lane3_quiet; (simp (disch := omega) only [go_sem, ↓reduceIte, ↓lk, dk, ha, Γ67, e46, e36, look_upd] <;> with_reducible rfl)))); exact lane3_nil)); (focus ((repeat' (first | exact True.intro | refine And.intro ?_ ?_)); all_goals (first | (left; decide) | (left; rfl) | (right; simp (disch := omega) only [go_sem, ↓reduceIte, ↓lk, dk, ha, Γ67, e46, e36, look_upd]; try with_reducible rfl)))); (simp (disch := omega) only [go_sem, ↓reduceIte, ↓lk, dk, ha, Γ67, e46, e36, look_upd] <;> with_reducible rfl))
    (repeat (first | (apply axJ; (focus ((with_reducible constructor) <;> rfl))) | ((first | apply axR hΓ | apply axG | apply ovX rfl | apply ovE rfl); (simp (disch := omega) only [go_sem, ↓reduceIte, ↓lk, dk, Int.reduceBEq, Int.reduceBNe, Bool.true_bne, Bool.false_bne, Bool.not_true, Bool.not_false] <;> with_reducible rfl); exact trivial) | rfl))
    refine retl_x (r := .data (eE ⟨3, au, n, ns, [], 0, 0, [], h, qs, ps, as', d.u.tmod 4, []⟩)) (os := [.row 113 18 (bs.map eE), .row 9 1 (ids.map .str)]) rfl (by simp (disch := omega) only [go_sem, ↓reduceIte, dk]; rfl) ((Weak.agg1 (by (repeat' (first | exact True.intro | apply And.intro | exact rfl | exact Or.inl rfl | exact Or.inr (Or.inl ⟨rfl, rfl⟩) | exact Or.inr (Or.inr ⟨_, _, rfl, rfl, by simp⟩))); done) rfl).trans (Weak.of (by simp) ⟨rfl, trivial⟩ ⟨rfl, by simp, rfl, rfl, by simp, rfl, trivial⟩ rfl)) ⟨rfl, _, rfl, ⟨by simp, by simp, z4, z5, z3, by simp, by simp, by dsimp only; omega, hql, hpl, hal, by simp, by simp, by simp, by simp⟩⟩
  · (repeat (first | (apply axJ; (focus ((with_reducible constructor) <;> rfl))) | ((first | apply axR hΓ | apply axG | apply ovX rfl | apply ovE rfl); (simp (disch := omega) only [go_sem, ↓reduceIte, ↓lk, dk, Int.reduceBEq, Int.reduceBNe, Bool.true_bne, Bool.false_bne, Bool.not_true, Bool.not_false] <;> with_reducible rfl); exact trivial) | rfl))
    refine axp_weak (Weak.boxnil (o := 2) (i := 13) 9 (sz := 1) (by omega) rfl rfl) ?_
    refine axp_loop_at (X := List (List UInt8)) (fun tgs => (frame 110 [(3, .row 1 ids.length), (4, .ptr 2 0), (5, .ptr 3 0), (8, .ptr 4 0), (10, .data (i64 (cntT tgs)))]))
      (fun tgs => [(0, .row 113 18 (bs.map eE)), (1, .row 9 1 (ids.map .str)), (2, .box [.data (i64 4), .data (.str au), .data (i64 n), .data (.list (ns.map .str)), .data (.str []), .data (i64 0), .data (i64 0), .data (.str []), .data (.str []), .data (.str []), .data (.str []), .data (.str []), .data (i64 0), .row 21 tgs.length, .data (i64 0), .nils, .nils, .nils]), (3, .box [.data (u8 d.k), .data (u8 d.a), .data (u8 d.q), .data (u8 d.an), .data (u8 d.u), .data (.int .u16 d.f), .data (u8 d.t0), .data (u8 d.t1)]), (4, .box [.data (i64 0), .data (.str []), .data (i64 0), .nils, .data (.str []), .data (i64 0), .data (i64 0), .data (.str []), .data (.str []), .data (.str []), .data (.str []), .data (.str []), .data (i64 0), .nils, .data (i64 0), .nils, .nils, .nils]), (21, .row 9 1 (tgs.map .str))]) 22
      (fun tgs => tgs.length ≤ 1 ∧ ∀ s ∈ tgs, s.length ≤ 64) (fun tgs => 1 - tgs.length) [] ⟨by simp, by simp⟩ (Weak.v (by (simp [ConvF, lookV, Conv, ints, upd, cntT]; done)) (by (simp (disch := omega) only [TabSub, look, if_pos, if_neg, Obj.refsOK, refsOKs, AV.refsOK, decide_eq_true_eq, Bool.and_true, Bool.and_self, upd, cntT] ) <;> ((repeat' apply And.intro) <;> first | exact True.intro | omega | (simp; done) | rfl))) ?_
    rintro tgs ⟨ht1, ht2⟩
    rcases tgs with _ | ⟨x, _ | ⟨y, tgs⟩⟩
    · clear ht1
      rcases Nat.eq_zero_or_pos ids.length with h0 | h0
      · have e46 := g46_eq 0
        have l46 := numB_len 0
        generalize numB 0 = m at e46 l46
        have e36 := g36_2 (a := [110, 111, 110, 101]) (b := m) (by simp) (by omega)
        have hl := hsh_len [[110, 111, 110, 101], m]
        generalize hsh [[110, 111, 110, 101], m] = h at e36 hl
        dsimp only [cntT, List.length_cons, List.length_nil, List.map_cons, List.map_nil]
        (repeat (first | (apply axJ; (focus ((with_reducible constructor) <;> rfl))) | ((first | apply axR hΓ | apply axG | apply ovX rfl | apply ovE rfl); (simp (disch := omega) only [go_sem, ↓reduceIte, ↓lk, dk, Γ67, e46, e36] <;> with_reducible rfl); exact trivial) | rfl))
        exact ⟨[] ++ [h], ⟨by simp, by simp; omega⟩, by simp, Weak.v (by (simp [ConvF, lookV, Conv, ints, cntT]; done)) (by (simp (disch := omega) only [TabSub, look, if_pos, if_neg, Obj.refsOK, refsOKs, AV.refsOK, decide_eq_true_eq, Bool.and_true, Bool.and_self, cntT] ) <;> ((repeat' apply And.intro) <;> first | exact True.intro | omega | (simp; done) | rfl))⟩
      · have e46 := g46_eq 0
        have l46 := numB_len 0
        generalize numB 0 = m at e46 l46
        have e36 := g36_2 (a := [110, 111, 110, 101]) (b := m) (by simp) (by omega)
        generalize hsh [[110, 111, 110, 101], m] = h at e36
        have hm := tmN (a := d.t0) (by omega) ids.length h0
        have hne : ((ids.length : Int) == 0) = false := beq_eq_false_iff_ne.2 (by omega)
        have hzl := z8 _ (List.getElem_mem (show (d.t0.tmod (ids.length : Int)).toNat < ids.length by omega))
        generalize hzz : ids[(d.t0.tmod (ids.length : Int)).toNat]'(by omega) = z at hzl
        dsimp only [cntT, List.length_cons, List.length_nil, List.map_cons, List.map_nil]
        (repeat (first | (apply axJ; (focus ((with_reducible constructor) <;> rfl))) | ((first | apply axR hΓ | apply axG | apply ovX rfl | apply ovE rfl); (simp (disch := omega) only [go_sem, ↓reduceIte, ↓lk, dk, Int.reduceToNat, List.getElem?_cons_zero, List.getElem?_cons_succ, Γ67, e46, e36, hzz, hne] <;> with_reducible rfl); exact trivial) | rfl))
        exact ⟨[] ++ [z], ⟨by simp, by simp; exact hzl⟩, by simp, Weak.v (by (simp [ConvF, lookV, Conv, ints, cntT]; done)) (by (simp (disch := omega) only [TabSub, look, if_pos, if_neg, Obj.refsOK, refsOKs, AV.refsOK, decide_eq_true_eq, Bool.and_true, Bool.and_self, cntT] ) <;> ((repeat' apply And.intro) <;> first | exact True.intro | omega | (simp; done) | rfl))⟩
    · clear ht1
      dsimp only [cntT, List.length_cons, List.length_nil, List.map_cons, List.map_nil]
      (repeat (first | (apply axJ; (focus ((with_reducible constructor) <;> rfl))) | ((first | apply axR hΓ | apply axG | apply ovX rfl | apply ovE rfl); (simp (disch := omega) only [go_sem, ↓reduceIte, dk] <;> with_reducible rfl); exact trivial) | rfl))
      refine retl_x (r := .data (eE ⟨4, au, n, ns, [], 0, 0, [], [], [], [], [], 0, [x]⟩)) (os := [.row 113 18 (bs.map eE), .row 9 1 (ids.map .str)]) rfl (by simp (disch := omega) only [go_sem, ↓reduceIte, dk]; rfl) ((Weak.freeze (o := 21) rfl).trans ((Weak.agg1 (by (repeat' (first | exact True.intro | apply And.intro | exact rfl | exact Or.inl rfl | exact Or.inr (Or.inl ⟨rfl, rfl⟩) | exact Or.inr (Or.inr ⟨_, _, rfl, rfl, by simp⟩))); done) rfl).trans (Weak.of (by simp) ⟨rfl, trivial⟩ ⟨rfl, by simp, rfl, rfl, by simp, rfl, trivial⟩ rfl))) ⟨rfl, _, rfl, ⟨by simp, by simp, z4, z5, z3, by simp, by simp, by simp, by simp, by simp, by simp, by simp, ht2, by simp, by simp⟩⟩
    · simp at ht1
  · (repeat (first | (apply axJ; (focus ((with_reducible constructor) <;> rfl))) | ((first | apply axR hΓ | apply axG | apply ovX rfl | apply ovE rfl); (simp (disch := omega) only [go_sem, ↓reduceIte, ↓lk, dk, Int.reduceBEq, Int.reduceBNe, Bool.true_bne, Bool.false_bne, Bool.not_true, Bool.not_false] <;> with_reducible rfl); exact trivial) | rfl))
    refine axp_weak (Weak.boxnil (o := 2) (i := 13) 9 (sz := 1) (by omega) rfl rfl) ?_
    refine axp_loop_at (X := List (List UInt8)) (fun tgs => (frame 110 [(3, .row 1 ids.length), (4, .ptr 2 0), (5, .ptr 3 0), (8, .ptr 4 0), (10, .data (i64 (cntT tgs)))]))
      (fun tgs => [(0, .row 113 18 (bs.map eE)), (1, .row 9 1 (ids.map .str)), (2, .box [.data (i64 5), .data (.str au), .data (i64 n), .data (.list (ns.map .str)), .data (.str []), .data (i64 0), .data (i64 0), .data (.str []), .data (.str []), .data (.str []), .data (.str []), .data (.str []), .data (i64 0), .row 21 tgs.length, .data (i64 0), .nils, .nils, .nils]), (3, .box [.data (u8 d.k), .data (u8 d.a), .data (u8 d.q), .data (u8 d.an), .data (u8 d.u), .data (.int .u16 d.f), .data (u8 d.t0), .data (u8 d.t1)]), (4, .box [.data (i64 0), .data (.str []), .data (i64 0), .nils, .data (.str []), .data (i64 0), .data (i64 0), .data (.str []), .data (.str []), .data (.str []), .data (.str []), .data (.str []), .data (i64 0), .nils, .data (i64 0), .nils, .nils, .nils]), (21, .row 9 1 (tgs.map .str))]) 22
      (fun tgs => tgs.length ≤ 2 ∧ ∀ s ∈ tgs, s.length ≤ 64) (fun tgs => 2 - tgs.length) [] ⟨by simp, by simp⟩ (Weak.v (by (simp [ConvF, lookV, Conv, ints, upd, cntT]; done)) (by (simp (disch := omega) only [TabSub, look, if_pos, if_neg, Obj.refsOK, refsOKs, AV.refsOK, decide_eq_true_eq, Bool.and_true, Bool.and_self, upd, cntT] ) <;> ((repeat' apply And.intro) <;> first | exact True.intro | omega | (simp; done) | rfl))) ?_
    rintro tgs ⟨ht1, ht2⟩
    rcases tgs with _ | ⟨x, _ | ⟨y, _ | ⟨u, tgs⟩⟩⟩
    · clear ht1
      rcases Nat.eq_zero_or_pos ids.length with h0 | h0
      · have e46 := g46_eq 0
        have l46 := numB_len 0
        generalize numB 0 = m at e46 l46
        have e36 := g36_2 (a := [110, 111, 110, 101]) (b := m) (by simp) (by omega)
        have hl := hsh_len [[110, 111, 110, 101], m]
        generalize hsh [[110, 111, 110, 101], m] = h at e36 hl
        dsimp only [cntT, List.length_cons, List.length_nil, List.map_cons, List.map_nil]
        (repeat (first | (apply axJ; (focus ((with_reducible constructor) <;> rfl))) | ((first | apply axR hΓ | apply axG | apply ovX rfl | apply ovE rfl); (simp (disch := omega) only [go_sem, ↓reduceIte, ↓lk, dk, Γ67, e46, e36] <;> with_reducible rfl); exact trivial) | rfl))
        exact ⟨[] ++ [h], ⟨by simp, by simp; omega⟩, by simp, Weak.v (by (simp [ConvF, lookV, Conv, ints, cntT]; done)) (by (simp (disch := omega) only [TabSub, look, if_pos, if_neg, Obj.refsOK, refsOKs, AV.refsOK, decide_eq_true_eq, Bool.and_true, Bool.and_self, cntT] ) <;> ((repeat' apply And.intro) <;> first | exact True.intro | omega | (simp; done) | rfl))⟩
      · have e46 := g46_eq 0
        have l46 := numB_len 0
        generalize numB 0 = m at e46 l46
        have e36 := g36_2 (a := [110, 111, 110, 101]) (b := m) (by simp) (by omega)
        generalize hsh [[110, 111, 110, 101], m] = h at e36
        have hm := tmN (a := d.t0) (by omega) ids.length h0
        have hne : ((ids.length : Int) == 0) = false := beq_eq_false_iff_ne.2 (by omega)
        have hzl := z8 _ (List.getElem_mem (show (d.t0.tmod (ids.length : Int)).toNat < ids.length by omega))
        generalize hzz : ids[(d.t0.tmod (ids.length : Int)).toNat]'(by omega) = z at hzl
        dsimp only [cntT, List.length_cons, List.length_nil, List.map_cons, List.map_nil]
        (repeat (first | (apply axJ; (focus ((with_reducible constructor) <;> rfl))) | ((first | apply axR hΓ | apply axG | apply ovX rfl | apply ovE rfl); (simp (disch := omega) only [go_sem, ↓reduceIte, ↓lk, dk, Int.reduceToNat, List.getElem?_cons_zero, List.getElem?_cons_succ, Γ67, e46, e36, hzz, hne] <;> with_reducible rfl); exact trivial) | rfl))
        exact ⟨[] ++ [z], ⟨by simp, by simp; exact hzl⟩, by simp, Weak.v (by (simp [ConvF, lookV, Conv, ints, cntT]; done)) (by (simp (disch := omega) only [TabSub, look, if_pos, if_neg, Obj.refsOK, refsOKs, AV.refsOK, decide_eq_true_eq, Bool.and_true, Bool.and_self, cntT] ) <;> ((repeat' apply And.intro) <;> first | exact True.intro | omega | (simp; done) | rfl))⟩
    · clear ht1
      rcases Nat.eq_zero_or_pos ids.length with h0 | h0
      · have e46 := g46_eq 1
        have l46 := numB_len 1
        generalize numB 1 = m at e46 l46
        have e36 := g36_2 (a := [110, 111, 110, 101]) (b := m) (by simp) (by omega)
        have hl := hsh_len [[110, 111, 110, 101], m]
        generalize hsh [[110, 111, 110, 101], m] = h at e36 hl
        dsimp only [cntT, List.length_cons, List.length_nil, List.map_cons, List.map_nil]
        (repeat (first | (apply axJ; (focus ((with_reducible constructor) <;> rfl))) | ((first | apply axR hΓ | apply axG | apply ovX rfl | apply ovE rfl); (simp (disch := omega) only [go_sem, ↓reduceIte, ↓lk, dk, Γ67, e46, e36] <;> with_reducible rfl); exact trivial) | rfl))
        exact ⟨[x] ++ [h], ⟨by simp, by simp; exact ⟨ht2 _ (by simp), by omega⟩⟩, by simp, Weak.v (by (simp [ConvF, lookV, Conv, ints, cntT]; done)) (by (simp (disch := omega) only [TabSub, look, if_pos, if_neg, Obj.refsOK, refsOKs, AV.refsOK, decide_eq_true_eq, Bool.and_true, Bool.and_self, cntT] ) <;> ((repeat' apply And.intro) <;> first | exact True.intro | omega | (simp; done) | rfl))⟩
      · have e46 := g46_eq 1
        have l46 := numB_len 1
        generalize numB 1 = m at e46 l46
        have e36 := g36_2 (a := [110, 111, 110, 101]) (b := m) (by simp) (by omega)
        generalize hsh [[110, 111, 110, 101], m] = h at e36
        have hm := tmN (a := d.t1) (by omega) ids.length h0
        have hne : ((ids.length : Int) == 0) = false := beq_eq_false_iff_ne.2 (by omega)
        have hzl := z8 _ (List.getElem_mem (show (d.t1.tmod (ids.length : Int)).toNat < ids.length by omega))
        generalize hzz : ids[(d.t1.tmod (ids.length : Int)).toNat]'(by omega) = z at hzl
        dsimp only [cntT, List.length_cons, List.length_nil, List.map_cons, List.map_nil]
        (repeat (first | (apply axJ; (focus ((with_reducible constructor) <;> rfl))) | ((first | apply axR hΓ | apply axG | apply ovX rfl | apply ovE rfl); (simp (disch := omega) only [go_sem, ↓reduceIte, ↓lk, dk, Int.reduceToNat, List.getElem?_cons_zero, List.getElem?_cons_succ, Γ67, e46, e36, hzz, hne] <;> with_reducible rfl); exact trivial) | rfl))
        exact ⟨[x] ++ [z], ⟨by simp, by simp; exact ⟨ht2 _ (by simp), hzl⟩⟩, by simp, Weak.v (by (simp [ConvF, lookV, Conv, ints, cntT]; done)) (by (simp (disch := omega) only [TabSub, look, if_pos, if_neg, Obj.refsOK, refsOKs, AV.refsOK, decide_eq_true_eq, Bool.and_true, Bool.and_self, cntT] ) <;> ((repeat' apply And.intro) <;> first | exact True.intro | omega | (simp; done) | rfl))⟩
    · clear ht1
      dsimp only [cntT, List.length_cons, List.length_nil, List.map_cons, List.map_nil]
      (repeat (first | (apply axJ; (focus ((with_reducible constructor) <;> rfl))) | ((first | apply axR hΓ | apply axG | apply ovX rfl | apply ovE rfl); (simp (disch := omega) only [go_sem, ↓reduceIte, dk] <;> with_reducible rfl); exact trivial) | rfl))
      refine retl_x (r := .data (eE ⟨5, au, n, ns, [], 0, 0, [], [], [], [], [], 0, [x, y]⟩)) (os := [.row 113 18 (bs.map eE), .row 9 1 (ids.map .str)]) rfl (by simp (disch := omega) only [go_sem, ↓reduceIte, dk]; rfl) ((Weak.freeze (o := 21) rfl).trans ((Weak.agg1 (by (repeat' (first | exact True.intro | apply And.intro | exact rfl | exact Or.inl rfl | exact Or.inr (Or.inl ⟨rfl, rfl⟩) | exact Or.inr (Or.inr ⟨_, _, rfl, rfl, by simp⟩))); done) rfl).trans (Weak.of (by simp) ⟨rfl, trivial⟩ ⟨rfl, by simp, rfl, rfl, by simp, rfl, trivial⟩ rfl))) ⟨rfl, _, rfl, ⟨by simp, by simp, z4, z5, z3, by simp, by simp, by simp, by simp, by simp, by simp, by simp, ht2, by simp, by simp⟩⟩
    · simp at ht1
noncomputable def g67 := f67_ex.choose
theorem f67_ok : LocOK Try.prog 67 g67 := f67_ex.choose_spec.1
theorem g67_eq {x : FillX} (h : FillOK x) : ∃ e : Ev, EvOK e ∧ g67 (fiA x) (fiO x) = some (.data (eE e), fiO x) := by
  obtain ⟨r, os, ⟨rfl, e, rfl, he⟩, h2⟩ := f67_ex.choose_spec.2 x h
  exact ⟨e, he, h2⟩
end Go.Ab
