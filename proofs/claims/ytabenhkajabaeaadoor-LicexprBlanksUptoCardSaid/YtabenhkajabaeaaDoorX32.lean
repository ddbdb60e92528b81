/-
  One text of the proof (own work): contracts of functions of the program, by the abstract machine.
-/
import Derived.Test.YtabenhkajabaeaaDoorX23
import Derived.Test.YtabenhkajabaeaaDoorX31
set_option linter.unusedVariables false
set_option linter.unusedSimpArgs false
namespace Go.Ab
open Go Go.RowKit Go.Proofs
set_option maxRecDepth 10000
set_option maxHeartbeats 8000000
structure Res where
  expr : LX
  at' : Nat
  err : Int
@[go_sem] def eRes (r : Res) : D := .agg [.int .i64 r.expr.kind, .str r.expr.name, .str r.expr.exc, .list (r.expr.kids.map eX), .int .i64 r.at', .int .i64 r.err]
@[go_sem] theorem lx_kind (k : Int) (n e : List UInt8) (l : List LX) : (LX.mk k n e l).kind = k := rfl
@[go_sem] theorem lx_name (k : Int) (n e : List UInt8) (l : List LX) : (LX.mk k n e l).name = n := rfl
@[go_sem] theorem lx_exc (k : Int) (n e : List UInt8) (l : List LX) : (LX.mk k n e l).exc = e := rfl
@[go_sem] theorem lx_kids (k : Int) (n e : List UInt8) (l : List LX) : (LX.mk k n e l).kids = l := rfl
def x0 : LX := .mk 0 [] [] []
def wrongR (a : Nat) (e : Int) : Res := ⟨x0, a, e⟩
noncomputable def g_wrong : List D → Option D := encSpec (fun x : Nat × Int => [i64 x.1, i64 x.2]) (fun x : Nat × Int => True) (fun x : Nat × Int => eRes (wrongR x.1 x.2))
theorem g_wrong_eq {a : Nat} {e : Int} (hd : True) : g_wrong [.int .i64 a, .int .i64 e] = some (eRes (wrongR a e)) := encSpec_eq (x := (a, e)) hd fun y hy => by
    obtain ⟨y0, y1⟩ := y; simp only [List.cons.injEq, and_true, true_and, D.str.injEq, D.int.injEq, D.list.injEq, D.bool.injEq, D.agg.injEq, D.clo.injEq, Int.natCast_inj, inj_ie] at hy
    (try obtain ⟨rfl, rfl⟩ := hy)
    (try subst_vars)
    rfl
theorem f_wrong_ok : PureOK Tryd.prog 33 false g_wrong := by
  have hΓ := Γ0_ok
  refine pure_enc (n := 8) (rs := [.cell 4 30]) Tryd.func33 (by kernel_rfl) rfl (by kernel_rfl) (by kernel_rfl) ?_
  rintro ⟨a, e⟩ hd
  (try dsimp only at hd ⊢)
  refine ⟨fun h => (by cases h), fun k hz0 => ?_⟩
  rw [start_frame (by simp)]; simp only [enumV, go_sem, emptyH]
  repeat (first
    | (apply axJ; (focus ((with_reducible constructor) <;> rfl)))
    | (apply awT mixedOK hΓ (by kernel_rfl); (simp (disch := omega) only [go_sem, ↓reduceIte, ↓lk, ↓ty_build30, wrongR, x0] <;> with_reducible rfl))
    | ((first | apply awR hΓ | apply awG | apply awH mixedOK hΓ rfl (by kernel_rfl) | apply ovE rfl); (simp (disch := omega) only [go_sem, ↓reduceIte, ↓lk, ↓ty_build30, wrongR, x0] <;> with_reducible rfl); exact trivial)
    | rfl)
def rName (s : List UInt8) (a : Nat) : Res :=
  if wordN s (skipN s a) == [] then wrongR (skipN s a) 4
  else if !(isNameB (wordN s (skipN s a))) then wrongR (skipN s a) 2
  else ⟨.mk 0 (wordN s (skipN s a)) [] [], skipN s a + (wordN s (skipN s a)).length, 0⟩
theorem wordN_le (s : List UInt8) (a : Nat) (h : a ≤ s.length) : a + (wordN s a).length ≤ s.length := by
  have h1 := List.IsPrefix.length_le (List.takeWhile_prefix letter (l := s.drop a))
  rw [List.length_drop] at h1
  unfold wordN
  omega
noncomputable def g_rname : List D → Option D := encSpec (fun x : (List UInt8) × Nat => [.str x.1, i64 x.2]) (fun x : (List UInt8) × Nat => x.1.length ≤ 1099511627776 ∧ x.2 ≤ x.1.length) (fun x : (List UInt8) × Nat => eRes (rName x.1 x.2))
theorem g_rname_eq {s : List UInt8} {a : Nat} (hd : s.length ≤ 1099511627776 ∧ a ≤ s.length) : g_rname [.str s, .int .i64 a] = some (eRes (rName s a)) := encSpec_eq (x := (s, a)) hd fun y hy => by
    obtain ⟨y0, y1⟩ := y; simp only [List.cons.injEq, and_true, true_and, D.str.injEq, D.int.injEq, D.list.injEq, D.bool.injEq, D.agg.injEq, D.clo.injEq, Int.natCast_inj, inj_ie] at hy
    (try obtain ⟨rfl, rfl⟩ := hy)
    (try subst_vars)
    rfl
theorem f_rname_ok : PureOK Tryd.prog 75 false g_rname := by
  have hΓ := Γp f_skip_ok (Γp f_word_ok (Γp f_wrong_ok (Γp f_name_ok (Γn))))
  refine pure_enc (n := 28) (rs := [.cell 4 30]) Tryd.func75 (by kernel_rfl) rfl (by kernel_rfl) (by kernel_rfl) ?_
  rintro ⟨s, a⟩ hd
  (try dsimp only at hd ⊢)
  refine ⟨fun h => (by cases h), fun k hz0 => ?_⟩
  obtain ⟨hs, ha⟩ := hd
  have h1 : a ≤ skipN s a ∧ skipN s a ≤ s.length := runN_le ha
  have e1 := g_skip_eq ⟨hs, ha⟩
  have e2 := g_word_eq ⟨hs, h1.2⟩
  have hw := wordN_le s _ h1.2
  unfold rName
  generalize skipN s a = b at *
  have e3 := g_wrong_eq (a := b) (e := 4) trivial
  have e4 := g_wrong_eq (a := b) (e := 2) trivial
  generalize wordN s b = w at *
  have e5 := g_name_eq (s := w) (by omega)
  generalize isNameB w = c1 at *
  generalize hc0 : (w == []) = c0
  rw [start_frame (by simp)]; simp only [enumV, go_sem, emptyH]
  (cases c0; (focus (cases c1; (focus ((repeat (first | (apply axJ; (focus ((with_reducible constructor) <;> rfl))) | (apply awT mixedOK hΓ (by kernel_rfl); (simp (disch := omega) only [go_sem, ↓reduceIte, ↓lk, ↓ty_build25, ↓ty_build30, dk, e1, e2, e3, e4, e5, hc0] <;> with_reducible rfl)) | ((first | apply awR hΓ | apply awG | apply awH mixedOK hΓ rfl (by kernel_rfl) | apply ovE rfl); (simp (disch := omega) only [go_sem, ↓reduceIte, ↓lk, ↓ty_build25, ↓ty_build30, dk, e1, e2, e3, e4, e5, hc0] <;> with_reducible rfl); exact trivial) | rfl)); (first | done | rfl))); (focus ((repeat (first | (apply axJ; (focus ((with_reducible constructor) <;> rfl))) | (apply awT mixedOK hΓ (by kernel_rfl); (simp (disch := omega) only [go_sem, ↓reduceIte, ↓lk, ↓ty_build25, ↓ty_build30, dk, e1, e2, e3, e4, e5, hc0] <;> with_reducible rfl)) | ((first | apply awR hΓ | apply awG | apply awH mixedOK hΓ rfl (by kernel_rfl) | apply ovE rfl); (simp (disch := omega) only [go_sem, ↓reduceIte, ↓lk, ↓ty_build25, ↓ty_build30, dk, e1, e2, e3, e4, e5, hc0] <;> with_reducible rfl); exact trivial) | rfl)); (first | done | rfl))))); (focus ((repeat (first | (apply axJ; (focus ((with_reducible constructor) <;> rfl))) | (apply awT mixedOK hΓ (by kernel_rfl); (simp (disch := omega) only [go_sem, ↓reduceIte, ↓lk, ↓ty_build25, ↓ty_build30, dk, e1, e2, e3, e4, e5, hc0] <;> with_reducible rfl)) | ((first | apply awR hΓ | apply awG | apply awH mixedOK hΓ rfl (by kernel_rfl) | apply ovE rfl); (simp (disch := omega) only [go_sem, ↓reduceIte, ↓lk, ↓ty_build25, ↓ty_build30, dk, e1, e2, e3, e4, e5, hc0] <;> with_reducible rfl); exact trivial) | rfl)); (first | done | rfl))))
def isAtI (s : List UInt8) (i : Nat) (c : Int) : Bool := match s[i]? with
  | some b => (b.toNat : Int) == c
  | none => false
theorem isAtI_lt {s : List UInt8} {i : Nat} {c : Int} (h : i < s.length) : isAtI s i c = ((s[i].toNat : Int) == c) := by unfold isAtI; rw [List.getElem?_eq_getElem h]
theorem isAtI_ge {s : List UInt8} {i : Nat} {c : Int} (h : s.length ≤ i) : isAtI s i c = false := by unfold isAtI; rw [List.getElem?_eq_none h]
theorem isAtI_true {s : List UInt8} {i : Nat} {c : Int} (h : isAtI s i c = true) : i < s.length := by
  rcases Nat.lt_or_ge i s.length with h1 | h1
  · exact h1
  · rw [isAtI_ge h1] at h; cases h
def rLoop (part : Nat → Res) (s : List UInt8) (kind : Int) (bw : List UInt8) : Nat → Nat → List LX → Res
  | 0, a, _ => wrongR a 4
  | n + 1, a, acc =>
    if (part a).err != 0 then part a
    else if wordN s (skipN s (part a).at') == bw then rLoop part s kind bw n (skipN s (part a).at' + bw.length) (acc ++ [(part a).expr])
    else if acc.length == 0 then ⟨(part a).expr, skipN s (part a).at', 0⟩
    else ⟨.mk kind [] [] (acc ++ [(part a).expr]), skipN s (part a).at', 0⟩
def rAtomF (s : List UInt8) (inner : Option (Nat → Res)) (a : Nat) : Res :=
  if isAtI s (skipN s a) 40 then
    match inner with
    | none => wrongR (skipN s a) 11
    | some f =>
      if (f (skipN s a + 1)).err != 0 then f (skipN s a + 1)
      else if isAtI s (skipN s (f (skipN s a + 1)).at') 41 then ⟨(f (skipN s a + 1)).expr, skipN s (f (skipN s a + 1)).at' + 1, 0⟩
      else wrongR (skipN s (f (skipN s a + 1)).at') 4
  else if (rName s (skipN s a)).err != 0 then rName s (skipN s a)
  else if isAtI s (skipN s (rName s (skipN s a)).at') 43 then ⟨.mk 1 (rName s (skipN s a)).expr.name (rName s (skipN s a)).expr.exc (rName s (skipN s a)).expr.kids, skipN s (rName s (skipN s a)).at' + 1, 0⟩
  else if wordN s (skipN s (rName s (skipN s a)).at') == [119, 105, 116, 104] then
    if (rName s (skipN s (rName s (skipN s a)).at' + 4)).err != 0 then rName s (skipN s (rName s (skipN s a)).at' + 4)
    else ⟨.mk (rName s (skipN s a)).expr.kind (rName s (skipN s a)).expr.name (rName s (skipN s (rName s (skipN s a)).at' + 4)).expr.name (rName s (skipN s a)).expr.kids, (rName s (skipN s (rName s (skipN s a)).at' + 4)).at', 0⟩
  else rName s (skipN s a)
def rAnds (s : List UInt8) (atom : Nat → Res) (a : Nat) : Res := rLoop atom s 2 [97, 110, 100] (s.length + 1) a []
def rOrs (s : List UInt8) (atom : Nat → Res) (a : Nat) : Res := rLoop (rAnds s atom) s 3 [111, 114] (s.length + 1) a []
def rAtom (s : List UInt8) : Nat → Nat → Res
  | 0 => rAtomF s none
  | d + 1 => rAtomF s (some (rOrs s (rAtom s d)))
structure GoodR (s : List UInt8) (a : Nat) (r : Res) : Prop where
  le : r.at' ≤ s.length
  lt : r.err = 0 → a < r.at'
  sz : r.err = 0 → r.expr.size ≤ r.at' - a
  bd : r.err = 0 → r.expr.Bd s.length
theorem goodR_wrong {s : List UInt8} {a b : Nat} {e : Int} (h : b ≤ s.length) (he : e ≠ 0) : GoodR s a (wrongR b e) := ⟨h, fun h => absurd h he, fun h => absurd h he, fun h => absurd h he⟩
theorem bd_leaf {m : Nat} {k : Int} {n e : List UInt8} (hm : 1 ≤ m) (hn : n.length ≤ m) (he : e.length ≤ m) : (LX.mk k n e []).Bd m := .mk _ hn he (by simpa [LX.size, LX.size.sizes] using hm) (fun y hy => by cases hy)
theorem goodR_name {s : List UInt8} {a b : Nat} (h : b ≤ s.length) (hab : a ≤ b) : GoodR s a (rName s b) := by
  have h1 : b ≤ skipN s b ∧ skipN s b ≤ s.length := runN_le h
  have hw := wordN_le s _ h1.2
  unfold rName
  generalize skipN s b = b1 at *
  generalize wordN s b1 = w at *
  split
  · exact goodR_wrong h1.2 (by decide)
  · rename_i hne
    split
    · exact goodR_wrong h1.2 (by decide)
    · have hpos : 0 < w.length := List.length_pos_iff.2 (by simpa using hne)
      exact ⟨hw, fun _ => by show a < b1 + w.length; omega, fun _ => by show (LX.mk 0 w [] []).size ≤ b1 + w.length - a; simp only [LX.size, LX.size.sizes]; omega, fun _ => bd_leaf (by omega) (by omega) (by simp)⟩
theorem name_kids {s : List UInt8} {a : Nat} : (rName s a).expr.kids = [] := by
  unfold rName
  split
  · rfl
  · split <;> rfl
end Go.Ab
