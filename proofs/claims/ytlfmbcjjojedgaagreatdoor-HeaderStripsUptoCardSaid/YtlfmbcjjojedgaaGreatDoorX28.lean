/-
  One text of the proof (own work): contracts of functions of the program, by the abstract machine.
-/
import Derived.Test.YtlfmbcjjojedgaaGreatDoorX19
import Derived.Test.YtlfmbcjjojedgaaGreatDoorX27
set_option linter.unusedVariables false
set_option linter.unusedSimpArgs false
namespace Go.Ab
open Go Go.RowKit Go.Proofs
set_option maxRecDepth 10000
set_option maxHeartbeats 8000000
mutual
def formE : LX → Int
  | .mk k n e l => if nodeE (.mk k n e l) == 0 then formsE l else nodeE (.mk k n e l)
def formsE : List LX → Int
  | [] => 0
  | x :: l => if formE x == 0 then formsE l else formE x
end
theorem formE_eq (x : LX) : formE x = if nodeE x == 0 then formsE x.kids else nodeE x := by cases x; rw [formE]; rfl
def nodeF (b0 b1 b2 b3 c4 c5 c6 c7 c8 c9 : Bool) : Int :=
  if b0 || b1 then 1 else if b2 then (if c7 || (!c4 || !c5) then 1 else 0) else if c6 || (b3 && !c5) then 1 else if !c8 || (!c5 && !c9) then 2 else 0
theorem nodeE_form (x : LX) : nodeE x = nodeF (decide (x.kind < 0)) (decide (x.kind > 3)) (decide (x.kind ≥ 2)) (x.kind == 1) (x.name == []) (x.exc == []) (decide ((x.kids.length : Int) > 0)) (decide ((x.kids.length : Int) < 2)) (isNameB x.name) (isNameB x.exc) := by
  unfold nodeE nodeF
  generalize x.kind = k
  have h : k = 0 ∨ k = 1 ∨ k = 2 ∨ k = 3 ∨ k < 0 ∨ k > 3 := by omega
  rcases h with rfl | rfl | rfl | rfl | h | h
  · rfl
  · rfl
  · rfl
  · rfl
  · rw [decide_eq_true h, beq_eq_false_iff_ne.2 (show k ≠ 0 by omega), beq_eq_false_iff_ne.2 (show k ≠ 1 by omega), beq_eq_false_iff_ne.2 (show k ≠ 2 by omega), beq_eq_false_iff_ne.2 (show k ≠ 3 by omega)]
    rfl
  · rw [decide_eq_true h, beq_eq_false_iff_ne.2 (show k ≠ 0 by omega), beq_eq_false_iff_ne.2 (show k ≠ 1 by omega), beq_eq_false_iff_ne.2 (show k ≠ 2 by omega), beq_eq_false_iff_ne.2 (show k ≠ 3 by omega), decide_eq_false (show ¬ k < 0 by omega)]
    rfl
def checkE (x : LX) : Int := if decide ((x.size : Int) > 64) then 10 else if decide ((x.hgt : Int) > 24) then 11 else formE x
mutual
def cntX : LX → Int → Nat → Int
  | .mk _ n e l, most, d => match d with
    | 0 => most + 1
    | d + 1 => cntXs l (1 + ((n.length : Int) + e.length) / 40) most d
def cntXs : List LX → Int → Int → Nat → Int
  | [], c, _, _ => c
  | x :: l, c, most, d => if c ≤ most then cntXs l (c + cntX x (most - c) d) most d else c
end
end Go.Ab
namespace Go.Ab
open Go Go.RowKit Go.Proofs
set_option maxRecDepth 10000
set_option maxHeartbeats 8000000
structure Res where
  expr : LX
  at' : Nat
  err : Int
@[go_sem] def eRes (r : Res) : D := .agg [.int .i64 r.expr.kind, .str r.expr.name, .str r.expr.exc, .list (r.expr.kids.map eX), .int .i64 r.at', .int .i64 r.err]
@[go_sem] theorem lx_kind (k : Int) (n e : List UInt8) (l : List LX) : (LX.mk k n e l).kind = k := rfl
@[go_sem] theorem lx_name (k : Int) (n e : List UInt8) (l : List LX) : (LX.mk k n e l).name = n := rfl
@[go_sem] theorem lx_exc (k : Int) (n e : List UInt8) (l : List LX) : (LX.mk k n e l).exc = e := rfl
@[go_sem] theorem lx_kids (k : Int) (n e : List UInt8) (l : List LX) : (LX.mk k n e l).kids = l := rfl
def x0 : LX := .mk 0 [] [] []
def wrongR (a : Nat) (e : Int) : Res := ⟨x0, a, e⟩
def rName (s : List UInt8) (a : Nat) : Res :=
  if wordN s (skipN s a) == [] then wrongR (skipN s a) 4
  else if !(isNameB (wordN s (skipN s a))) then wrongR (skipN s a) 2
  else ⟨.mk 0 (wordN s (skipN s a)) [] [], skipN s a + (wordN s (skipN s a)).length, 0⟩
theorem wordN_le (s : List UInt8) (a : Nat) (h : a ≤ s.length) : a + (wordN s a).length ≤ s.length := by
  have h1 := List.IsPrefix.length_le (List.takeWhile_prefix letter (l := s.drop a))
  rw [List.length_drop] at h1
  unfold wordN
  omega
def isAtI (s : List UInt8) (i : Nat) (c : Int) : Bool := match s[i]? with
  | some b => (b.toNat : Int) == c
  | none => false
theorem isAtI_lt {s : List UInt8} {i : Nat} {c : Int} (h : i < s.length) : isAtI s i c = ((s[i].toNat : Int) == c) := by unfold isAtI; rw [List.getElem?_eq_getElem h]
theorem isAtI_ge {s : List UInt8} {i : Nat} {c : Int} (h : s.length ≤ i) : isAtI s i c = false := by unfold isAtI; rw [List.getElem?_eq_none h]
theorem isAtI_true {s : List UInt8} {i : Nat} {c : Int} (h : isAtI s i c = true) : i < s.length := by
  rcases Nat.lt_or_ge i s.length with h1 | h1
  · exact h1
  · rw [isAtI_ge h1] at h; cases h
def rLoop (part : Nat → Res) (s : List UInt8) (kind : Int) (bw : List UInt8) : Nat → Nat → List LX → Res
  | 0, a, _ => wrongR a 4
  | n + 1, a, acc =>
    if (part a).err != 0 then part a
    else if wordN s (skipN s (part a).at') == bw then rLoop part s kind bw n (skipN s (part a).at' + bw.length) (acc ++ [(part a).expr])
    else if acc.length == 0 then ⟨(part a).expr, skipN s (part a).at', 0⟩
    else ⟨.mk kind [] [] (acc ++ [(part a).expr]), skipN s (part a).at', 0⟩
def rAtomF (s : List UInt8) (inner : Option (Nat → Res)) (a : Nat) : Res :=
  if isAtI s (skipN s a) 40 then
    match inner with
    | none => wrongR (skipN s a) 11
    | some f =>
      if (f (skipN s a + 1)).err != 0 then f (skipN s a + 1)
      else if isAtI s (skipN s (f (skipN s a + 1)).at') 41 then ⟨(f (skipN s a + 1)).expr, skipN s (f (skipN s a + 1)).at' + 1, 0⟩
      else wrongR (skipN s (f (skipN s a + 1)).at') 4
  else if (rName s (skipN s a)).err != 0 then rName s (skipN s a)
  else if isAtI s (skipN s (rName s (skipN s a)).at') 43 then ⟨.mk 1 (rName s (skipN s a)).expr.name (rName s (skipN s a)).expr.exc (rName s (skipN s a)).expr.kids, skipN s (rName s (skipN s a)).at' + 1, 0⟩
  else if wordN s (skipN s (rName s (skipN s a)).at') == [119, 105, 116, 104] then
    if (rName s (skipN s (rName s (skipN s a)).at' + 4)).err != 0 then rName s (skipN s (rName s (skipN s a)).at' + 4)
    else ⟨.mk (rName s (skipN s a)).expr.kind (rName s (skipN s a)).expr.name (rName s (skipN s (rName s (skipN s a)).at' + 4)).expr.name (rName s (skipN s a)).expr.kids, (rName s (skipN s (rName s (skipN s a)).at' + 4)).at', 0⟩
  else rName s (skipN s a)
def rAnds (s : List UInt8) (atom : Nat → Res) (a : Nat) : Res := rLoop atom s 2 [97, 110, 100] (s.length + 1) a []
def rOrs (s : List UInt8) (atom : Nat → Res) (a : Nat) : Res := rLoop (rAnds s atom) s 3 [111, 114] (s.length + 1) a []
def rAtom (s : List UInt8) : Nat → Nat → Res
  | 0 => rAtomF s none
  | d + 1 => rAtomF s (some (rOrs s (rAtom s d)))
structure GoodR (s : List UInt8) (a : Nat) (r : Res) : Prop where
  le : r.at' ≤ s.length
  lt : r.err = 0 → a < r.at'
  sz : r.err = 0 → r.expr.size ≤ r.at' - a
  bd : r.err = 0 → r.expr.Bd s.length
theorem goodR_wrong {s : List UInt8} {a b : Nat} {e : Int} (h : b ≤ s.length) (he : e ≠ 0) : GoodR s a (wrongR b e) := ⟨h, fun h => absurd h he, fun h => absurd h he, fun h => absurd h he⟩
theorem bd_leaf {m : Nat} {k : Int} {n e : List UInt8} (hm : 1 ≤ m) (hn : n.length ≤ m) (he : e.length ≤ m) : (LX.mk k n e []).Bd m := .mk _ hn he (by simpa [LX.size, LX.size.sizes] using hm) (fun y hy => by cases hy)
theorem goodR_name {s : List UInt8} {a b : Nat} (h : b ≤ s.length) (hab : a ≤ b) : GoodR s a (rName s b) := by
  have h1 : b ≤ skipN s b ∧ skipN s b ≤ s.length := runN_le h
  have hw := wordN_le s _ h1.2
  unfold rName
  generalize skipN s b = b1 at *
  generalize wordN s b1 = w at *
  split
  · exact goodR_wrong h1.2 (by decide)
  · rename_i hne
    split
    · exact goodR_wrong h1.2 (by decide)
    · have hpos : 0 < w.length := List.length_pos_iff.2 (by simpa using hne)
      exact ⟨hw, fun _ => by show a < b1 + w.length; omega, fun _ => by show (LX.mk 0 w [] []).size ≤ b1 + w.length - a; simp only [LX.size, LX.size.sizes]; omega, fun _ => bd_leaf (by omega) (by omega) (by simp)⟩
theorem name_kids {s : List UInt8} {a : Nat} : (rName s a).expr.kids = [] := by
  unfold rName
  split
  · rfl
  · split <;> rfl
end Go.Ab
namespace Go.Ab
open Go Go.RowKit Go.Proofs
set_option maxRecDepth 10000
set_option maxHeartbeats 8000000
theorem goodR_mono {s : List UInt8} {a b : Nat} {r : Res} (h : GoodR s b r) (hab : a ≤ b) : GoodR s a r :=
  ⟨h.le, fun he => Nat.lt_of_le_of_lt hab (h.lt he), fun he => Nat.le_trans (h.sz he) (by omega), h.bd⟩
theorem bd_list {m : Nat} {k : Int} {l : List LX} (hz : (LX.mk k [] [] l).size ≤ m) (h : ∀ x ∈ l, x.Bd m) : (LX.mk k [] [] l).Bd m := .mk _ (Nat.zero_le _) (Nat.zero_le _) hz h
theorem good_loop {part : Nat → Res} {s : List UInt8} {kind : Int} {bw : List UInt8} (hb : 1 ≤ bw.length) (hp : ∀ a, a ≤ s.length → GoodR s a (part a)) (a0 : Nat) :
    ∀ (n a : Nat) (acc : List LX), a ≤ s.length → a0 ≤ a → LX.size.sizes acc + (if acc = [] then 0 else 1) ≤ a - a0 → (∀ x ∈ acc, x.Bd s.length) → GoodR s a0 (rLoop part s kind bw n a acc) := by
  intro n
  induction n with
  | zero => intro a acc ha h0 _ _; exact goodR_wrong ha (by decide)
  | succ n ih =>
    intro a acc ha h0 hsz hbd
    have hg := hp a ha
    rw [rLoop]
    generalize part a = r at *
    split
    · exact goodR_mono hg h0
    · rename_i he
      have he : r.err = 0 := by simpa using he
      have h1 := hg.lt he
      have h2 := hg.sz he
      have h3 := hg.bd he
      have h4 : r.at' ≤ skipN s r.at' ∧ skipN s r.at' ≤ s.length := runN_le hg.le
      have hpos := r.expr.size_pos
      have hw := wordN_le s _ h4.2
      generalize skipN s r.at' = b at *
      have hall : ∀ x ∈ acc ++ [r.expr], x.Bd s.length := fun x hx => by
        rcases List.mem_append.1 hx with hx | hx
        · exact hbd x hx
        · rw [List.mem_singleton.1 hx]; exact h3
      have hs2 : LX.size.sizes (acc ++ [r.expr]) = LX.size.sizes acc + r.expr.size := by rw [LX.sizes_append]; simp [LX.size.sizes]
      have hs3 : LX.size.sizes acc ≤ a - a0 := by omega
      split
      · rename_i hwb
        have hwl := congrArg List.length (eq_of_beq hwb)
        exact ih _ _ (by omega) (by omega) (by rw [hs2, if_neg (by simp)]; omega) hall
      · split
        · exact ⟨h4.2, fun _ => by show a0 < b; omega, fun _ => by show r.expr.size ≤ b - a0; omega, fun _ => h3⟩
        · rename_i hne
          have hsz2 : (LX.mk kind [] [] (acc ++ [r.expr])).size ≤ b - a0 := by
            rw [LX.size_eq]
            show LX.size.sizes (acc ++ [r.expr]) + 1 ≤ b - a0
            rw [if_neg (by intro h; rw [h] at hne; simp at hne)] at hsz
            omega
          exact ⟨h4.2, fun _ => by show a0 < b; omega, fun _ => hsz2, fun _ => bd_list (by omega) hall⟩
theorem good_ands {s : List UInt8} {atom : Nat → Res} (hp : ∀ a, a ≤ s.length → GoodR s a (atom a)) {a : Nat} (ha : a ≤ s.length) : GoodR s a (rAnds s atom a) :=
  good_loop (by decide) hp a _ a [] ha (Nat.le_refl _) (by simp [LX.size.sizes]) (fun x hx => by cases hx)
theorem good_ors {s : List UInt8} {atom : Nat → Res} (hp : ∀ a, a ≤ s.length → GoodR s a (atom a)) {a : Nat} (ha : a ≤ s.length) : GoodR s a (rOrs s atom a) :=
  good_loop (by decide) (fun a ha => good_ands hp ha) a _ a [] ha (Nat.le_refl _) (by simp [LX.size.sizes]) (fun x hx => by cases hx)
theorem good_atomF {s : List UInt8} {inner : Option (Nat → Res)} (hp : ∀ f, inner = some f → ∀ a, a ≤ s.length → GoodR s a (f a)) {a : Nat} (ha : a ≤ s.length) : GoodR s a (rAtomF s inner a) := by
  have h1 : a ≤ skipN s a ∧ skipN s a ≤ s.length := runN_le ha
  unfold rAtomF
  generalize skipN s a = b at *
  split
  · rename_i hb
    have hlt := isAtI_true hb
    cases inner with
    | none => exact goodR_wrong h1.2 (by decide)
    | some f =>
      have hg := hp f rfl (b + 1) (by omega)
      dsimp only
      generalize f (b + 1) = r at *
      split
      · exact goodR_mono hg (by omega)
      · rename_i he
        have he : r.err = 0 := by simpa using he
        have h2 := hg.lt he
        have h3 := hg.sz he
        have h4 : r.at' ≤ skipN s r.at' ∧ skipN s r.at' ≤ s.length := runN_le hg.le
        generalize skipN s r.at' = e at *
        split
        · rename_i hc
          have := isAtI_true hc
          exact ⟨by show e + 1 ≤ s.length; omega, fun _ => by show a < e + 1; omega, fun _ => by show r.expr.size ≤ e + 1 - a; omega, fun _ => hg.bd he⟩
        · exact goodR_wrong h4.2 (by decide)
  · have hg := goodR_name (s := s) (a := a) h1.2 h1.1
    have hk := name_kids (s := s) (a := b)
    generalize rName s b = r at *
    split
    · exact hg
    · rename_i he
      have he : r.err = 0 := by simpa using he
      have h2 := hg.lt he
      have h3 := hg.bd he
      have h4 : r.at' ≤ skipN s r.at' ∧ skipN s r.at' ≤ s.length := runN_le hg.le
      have hw := wordN_le s _ h4.2
      generalize skipN s r.at' = e at *
      have hs : ∀ k n x, (LX.mk k n x r.expr.kids).size = 1 := fun k n x => by rw [hk]; simp [LX.size, LX.size.sizes]
      split
      · rename_i hc
        have := isAtI_true hc
        refine ⟨by show e + 1 ≤ s.length; omega, fun _ => by show a < e + 1; omega, fun _ => by show (LX.mk _ _ _ _).size ≤ e + 1 - a; rw [hs]; omega, fun _ => ?_⟩
        rw [hk]
        exact bd_leaf (by omega) h3.n h3.e
      · split
        · rename_i hwb
          have hwl := congrArg List.length (eq_of_beq hwb)
          simp only [List.length_cons, List.length_nil] at hwl
          have hg2 := goodR_name (s := s) (a := e + 4) (b := e + 4) (by omega) (Nat.le_refl _)
          generalize rName s (e + 4) = q at *
          split
          · exact goodR_mono hg2 (by omega)
          · rename_i hq
            have hq : q.err = 0 := by simpa using hq
            have h5 := hg2.lt hq
            refine ⟨hg2.le, fun _ => by show a < q.at'; omega, fun _ => by show (LX.mk _ _ _ _).size ≤ q.at' - a; rw [hs]; omega, fun _ => ?_⟩
            rw [hk]
            exact bd_leaf (by omega) h3.n (hg2.bd hq).n
        · exact hg
theorem good_atom {s : List UInt8} : ∀ (d : Nat) {a : Nat}, a ≤ s.length → GoodR s a (rAtom s d a)
  | 0, a, ha => good_atomF (fun f h => by cases h) ha
  | d + 1, a, ha => good_atomF (fun f h => by cases h; exact fun a ha => good_ors (fun a ha => good_atom d ha) ha) ha
def rParse (s : List UInt8) : Res :=
  if decide ((s.length : Int) > 1024) then wrongR 0 10
  else if (rOrs s (rAtom s 24) 0).err != 0 then rOrs s (rAtom s 24) 0
  else if decide ((rOrs s (rAtom s 24) 0).at' < s.length) then wrongR (rOrs s (rAtom s 24) 0).at' 4
  else if decide (((rOrs s (rAtom s 24) 0).expr.size : Int) > 64) then wrongR 0 10
  else if decide (((rOrs s (rAtom s 24) 0).expr.hgt : Int) > 24) then wrongR 0 11
  else ⟨(rOrs s (rAtom s 24) 0).expr, 0, 0⟩
theorem bd_mono {m m' : Nat} (h : m ≤ m') {x : LX} : x.Bd m → x.Bd m' := by
  refine LX.ind (p := fun x => x.Bd m → x.Bd m') (fun k n e l ih hx => ?_) x
  exact .mk _ (Nat.le_trans hx.n h) (Nat.le_trans hx.e h) (Nat.le_trans hx.z h) (fun y hy => ih y hy (hx.k hy))
end Go.Ab
namespace Go.Ab
open Go Go.RowKit
noncomputable def locSpec {X : Type} (enc : X → List AV) (eno : X → List Obj) (dom : X → Prop) (out : X → AV × List Obj) (xs : List AV) (os : List Obj) : Option (AV × List Obj) :=
  open Classical in if h : ∃ x, enc x = xs ∧ eno x = os ∧ dom x then some (out h.choose) else none
theorem locSpec_eq {X : Type} {enc : X → List AV} {eno : X → List Obj} {dom : X → Prop} {out : X → AV × List Obj} {x : X} (hx : dom x) (inj : ∀ y, enc y = enc x → eno y = eno x → out y = out x) : locSpec enc eno dom out (enc x) (eno x) = some (out x) := by
  have h : ∃ y, enc y = enc x ∧ eno y = eno x ∧ dom y := ⟨x, rfl, rfl, hx⟩
  unfold locSpec
  rw [dif_pos h, inj _ h.choose_spec.1 h.choose_spec.2.1]
theorem loc_enc {P : Program} {X : Type} {enc : X → List AV} {eno : X → List Obj} {dom : X → Prop} {out : X → AV × List Obj} {f : FuncId} {fn : Func} {code : Code} {n : Nat} {rs : List ResultVar} (hf : P.funcs[f]? = some fn) (hname : (fn.name == "runtime.NumGoroutine") = false)
    (hb : fn.body = some code) (hn : fn.ntmps = n) (hrs : fn.results.toList = rs)
    (h : ∀ x, dom x → ∀ c : Ctx, c.base = (eno x).length → awp P c code (RetL P rs (eno x).length (out x).1 (out x).2) (enc x ++ List.replicate (n - (enc x).length) .junk) ⟨enumO 0 (eno x), (eno x).length⟩) : LocOK P f (locSpec enc eno dom out) := by
  refine loc_of_awp hf hname hb hn hrs fun xs os r os' hg _ c hcb => ?_
  unfold locSpec at hg
  split at hg
  · rename_i hh
    obtain ⟨h1, h2, h3⟩ := hh.choose_spec
    simp only [Option.some.injEq] at hg
    have := h _ h3 c (by rw [h2]; exact hcb)
    rw [hg, h1, h2] at this
    exact this
  · cases hg
theorem retL_x {P : Program} {rs : List ResultVar} {b : Nat} {e : Exit} {sl : List AV} {H : Heap} {r x : AV} {os : List Obj} (he : Exit.over e = true) (hx : resA P rs sl H = some x) (hw : Weak b [x] H [r] ⟨enumO 0 os, os.length⟩) : RetL P rs b r os e sl H := ⟨he, x, hx, hw⟩
end Go.Ab
namespace Go.Ab
open Go Go.RowKit Go.Proofs
set_option maxRecDepth 10000
set_option maxHeartbeats 8000000
structure RS where
  at' : Nat
  op : Int
  e : Int
  here : Int
@[go_sem] def oRS (s : List UInt8) (r : RS) : Obj := .box [.data (.str s), .data (.int .i64 r.at'), .data (.int .i64 r.op), .data (.int .i64 r.e), .data (.int .i64 r.here)]
theorem oRS_inj {s s' : List UInt8} {r r' : RS} (h : oRS s r = oRS s' r') : s = s' ∧ r = r' := by
  cases r; cases r'
  simp only [oRS, Obj.box.injEq, List.cons.injEq, AV.data.injEq, D.str.injEq, D.int.injEq, true_and, and_true, Int.natCast_inj] at h
  obtain ⟨rfl, rfl, rfl, rfl, rfl⟩ := h
  exact ⟨rfl, rfl⟩
def pFail (r : RS) (e a : Int) : RS := if r.e == 0 then { r with e := e, here := a } else r
noncomputable def g_fail := locSpec (fun x : List UInt8 × RS × Int × Int => [.ptr 0 0, .data (i64 x.2.2.1), .data (i64 x.2.2.2)]) (fun x => [oRS x.1 x.2.1]) (fun _ => True) (fun x => (.tup [], [oRS x.1 (pFail x.2.1 x.2.2.1 x.2.2.2)]))
theorem g_fail_eq (s : List UInt8) (r : RS) (e a : Int) : g_fail [.ptr 0 0, .data (.int .i64 e), .data (.int .i64 a)] [oRS s r] = some (.tup [], [oRS s (pFail r e a)]) := locSpec_eq (x := (s, r, e, a)) trivial fun y h1 h2 => by
  obtain ⟨y1, y2, y3, y4⟩ := y
  simp only [List.cons.injEq, AV.data.injEq, D.int.injEq, true_and, and_true] at h1 h2
  obtain ⟨rfl, rfl⟩ := h1
  obtain ⟨rfl, rfl⟩ := oRS_inj h2
  rfl
theorem f_fail_ok : LocOK Tryz.prog 91 g_fail := by
  have hΓ := Γ0_ok
  refine loc_enc (n := 19) (rs := []) Tryz.func91 (by kernel_rfl) rfl (by kernel_rfl) (by kernel_rfl) ?_
  rintro ⟨s, ⟨a0, o, e0, h⟩, e, a⟩ _ k hz0
  dsimp only [oRS] at hz0 ⊢
  unfold pFail
  dsimp only
  generalize hc : (e0 == 0) = c
  rw [start_frameA (by simp)]; simp only [enumA, enumO, List.length_cons, List.length_nil, Nat.reduceAdd, go_sem]
  cases c
  · repeat (first
    | (apply axJ; (focus ((with_reducible constructor) <;> rfl)))
    | (apply awT mixedOK hΓ (by kernel_rfl); (simp (disch := omega) only [go_sem, ↓reduceIte, hc] <;> with_reducible rfl))
    | ((first | apply awR hΓ | apply awG | apply awH mixedOK hΓ rfl (by kernel_rfl) | apply ovE rfl); (simp (disch := omega) only [go_sem, ↓reduceIte, hc] <;> with_reducible rfl); exact trivial)
    | rfl)
    exact retL_x rfl rfl (Weak.of (by simp) ⟨rfl, trivial⟩ (by simp [TabSub, oRS, enumO, look, Obj.refsOK, refsOKs, AV.refsOK]) rfl)
  · repeat (first
    | (apply axJ; (focus ((with_reducible constructor) <;> rfl)))
    | (apply awT mixedOK hΓ (by kernel_rfl); (simp (disch := omega) only [go_sem, ↓reduceIte, hc] <;> with_reducible rfl))
    | ((first | apply awR hΓ | apply awG | apply awH mixedOK hΓ rfl (by kernel_rfl) | apply ovE rfl); (simp (disch := omega) only [go_sem, ↓reduceIte, hc] <;> with_reducible rfl); exact trivial)
    | rfl)
    exact retL_x rfl rfl (Weak.of (by simp) ⟨rfl, trivial⟩ (by simp [TabSub, oRS, enumO, look, Obj.refsOK, refsOKs, AV.refsOK]) rfl)
theorem call_fail (k n : Nat) (tab : List (Nat × Obj)) (s : List UInt8) (a : Nat) (o e h e1 a1 : Int) : callLoc k ⟨(0, .box [.data (.str s), .data (.int .i64 a), .data (.int .i64 o), .data (.int .i64 e), .data (.int .i64 h)]) :: tab, n⟩ g_fail [.ptr 0 0, .data (.int .i64 e1), .data (.int .i64 a1)] =
    some (.tup [], ⟨(0, oRS s (pFail ⟨a, o, e, h⟩ e1 a1)) :: tab, k⟩) := (callLoc_of (fp := [0]) rfl rfl rfl (g_fail_eq s ⟨a, o, e, h⟩ e1 a1) (Nat.le_refl _)).trans rfl
def pTake (r : RS) (n : Nat) : RS := { r with at' := r.at' + n }
noncomputable def g_take := locSpec (fun x : List UInt8 × RS × List UInt8 => [.ptr 0 0, .data (.str x.2.2)]) (fun x => [oRS x.1 x.2.1]) (fun x => x.2.1.at' ≤ 1099511627776 ∧ x.2.2.length ≤ 1099511627776) (fun x => (.tup [], [oRS x.1 (pTake x.2.1 x.2.2.length)]))
theorem g_take_eq (s : List UInt8) (r : RS) (t : List UInt8) (hd : r.at' ≤ 1099511627776 ∧ t.length ≤ 1099511627776) : g_take [.ptr 0 0, .data (.str t)] [oRS s r] = some (.tup [], [oRS s (pTake r t.length)]) := locSpec_eq (x := (s, r, t)) hd fun y h1 h2 => by
  obtain ⟨y1, y2, y3⟩ := y
  simp only [List.cons.injEq, AV.data.injEq, D.str.injEq, true_and, and_true] at h1 h2
  subst h1
  obtain ⟨rfl, rfl⟩ := oRS_inj h2
  rfl
theorem f_take_ok : LocOK Tryz.prog 117 g_take := by
  have hΓ := Γ0_ok
  refine loc_enc (n := 13) (rs := []) Tryz.func117 (by kernel_rfl) rfl (by kernel_rfl) (by kernel_rfl) ?_
  rintro ⟨s, ⟨a0, o, e0, h⟩, t⟩ ⟨h1, h2⟩ k hz0
  dsimp only [oRS] at hz0 h1 h2 ⊢
  unfold pTake
  dsimp only
  rw [start_frameA (by simp)]; simp only [enumA, enumO, List.length_cons, List.length_nil, Nat.reduceAdd, go_sem]
  repeat (first
    | (apply axJ; (focus ((with_reducible constructor) <;> rfl)))
    | (apply awT mixedOK hΓ (by kernel_rfl); (simp (disch := omega) only [go_sem, ↓reduceIte, dk] <;> with_reducible rfl))
    | ((first | apply awR hΓ | apply awG | apply awH mixedOK hΓ rfl (by kernel_rfl) | apply ovE rfl); (simp (disch := omega) only [go_sem, ↓reduceIte, dk] <;> with_reducible rfl); exact trivial)
    | rfl)
  exact retL_x rfl rfl (Weak.of (by simp) ⟨rfl, trivial⟩ (by simp [TabSub, oRS, enumO, look, Obj.refsOK, refsOKs, AV.refsOK]) rfl)
theorem call_take (k n : Nat) (tab : List (Nat × Obj)) (s : List UInt8) (a : Nat) (o e h : Int) (t : List UInt8) (h1 : a ≤ 1099511627776) (h2 : t.length ≤ 1099511627776) : callLoc k ⟨(0, .box [.data (.str s), .data (.int .i64 a), .data (.int .i64 o), .data (.int .i64 e), .data (.int .i64 h)]) :: tab, n⟩ g_take [.ptr 0 0, .data (.str t)] =
    some (.tup [], ⟨(0, oRS s (pTake ⟨a, o, e, h⟩ t.length)) :: tab, k⟩) := (callLoc_of (fp := [0]) rfl rfl rfl (g_take_eq s ⟨a, o, e, h⟩ t ⟨h1, h2⟩) (Nat.le_refl _)).trans rfl
def tokAt (s : List UInt8) (b : Nat) : List UInt8 :=
  if wordN s b == [] then (match s[b]? with
    | some c => if (c == 43) || ((c == 40) || (c == 41)) then [c] else []
    | none => [])
  else wordN s b
def pPeek (s : List UInt8) (r : RS) : List UInt8 × RS :=
  if (skipN s r.at' == s.length) || (r.e != 0) then ([], { r with at' := skipN s r.at' })
  else if tokAt s (skipN s r.at') == [] then ([], { r with at' := skipN s r.at', e := 4, here := skipN s r.at' })
  else (tokAt s (skipN s r.at'), { r with at' := skipN s r.at' })
def RSok (s : List UInt8) (r : RS) : Prop := s.length ≤ 1099511627776 ∧ r.at' ≤ 1099511627776 ∧ (r.at' ≤ s.length ∨ r.e ≠ 0)
noncomputable def g_peek := locSpec (fun _ : List UInt8 × RS => [.ptr 0 0]) (fun x => [oRS x.1 x.2]) (fun x => RSok x.1 x.2) (fun x => (.data (.str (pPeek x.1 x.2).1), [oRS x.1 (pPeek x.1 x.2).2]))
theorem g_peek_eq (s : List UInt8) (r : RS) (hd : RSok s r) : g_peek [.ptr 0 0] [oRS s r] = some (.data (.str (pPeek s r).1), [oRS s (pPeek s r).2]) := locSpec_eq (x := (s, r)) hd fun y _ h2 => by
  obtain ⟨y1, y2⟩ := y
  simp only [List.cons.injEq, and_true] at h2
  obtain ⟨rfl, rfl⟩ := oRS_inj h2
  rfl
theorem dropW_len (s : List UInt8) : (s.length : Int) - ((s.dropWhile letter).length : Int) = ((s.takeWhile letter).length : Int) := by
  have h : s.length = (s.takeWhile letter).length + (s.dropWhile letter).length := by
    conv => lhs; rw [← List.takeWhile_append_dropWhile (p := letter) (l := s), List.length_append]
  omega
theorem idx3 (c : UInt8) : decide (Lib.indexByte [43, 40, 41] c ≥ 0) = ((c == 43) || ((c == 40) || (c == 41))) := by
  have h : ∀ n : Fin 256, decide (Lib.indexByte [43, 40, 41] (UInt8.ofNat n) ≥ 0) = ((UInt8.ofNat n == 43) || ((UInt8.ofNat n == 40) || (UInt8.ofNat n == 41))) := by decide +kernel
  have := h ⟨c.toNat, c.toNat_lt⟩
  simpa using this
theorem f_peek_ok : LocOK Tryz.prog 90 g_peek := by
  have hΓ := (Γp f_trimL_ok (Γp f_idxByte_ok (Γq f_fail_ok (Γn))))
  refine loc_enc (n := 83) (rs := [.tmp 2]) Tryz.func90 (by kernel_rfl) rfl (by kernel_rfl) (by kernel_rfl) ?_
  rintro ⟨s, ⟨a0, o, e0, h⟩⟩ ⟨hs, ha, hor⟩ k hz0
  dsimp only [oRS] at hz0 hs ha hor ⊢
  simp only [List.length_cons, List.length_nil] at hz0
  generalize hR : pPeek s ⟨a0, o, e0, h⟩ = R
  rw [start_frameA (by simp)]; simp only [enumA, enumO, List.length_cons, List.length_nil, Nat.reduceAdd, go_sem]
  repeat (first
    | (apply axJ; (focus ((with_reducible constructor) <;> rfl)))
    | (apply awT mixedOK hΓ (by kernel_rfl); (simp (disch := omega) only [go_sem, ↓reduceIte, dk] <;> with_reducible rfl))
    | ((first | apply awR hΓ | apply awG | apply awH mixedOK hΓ rfl (by kernel_rfl) | apply ovE rfl); (simp (disch := omega) only [go_sem, ↓reduceIte, dk] <;> with_reducible rfl); exact trivial)
    | rfl)
  refine awp_loop_at (X := Nat) (fun i => (frame 83 [(0, .ptr 0 0)])) (fun i => [(0, .box [.data (.str s), .data (.int .i64 i), .data (.int .i64 o), .data (.int .i64 e0), .data (.int .i64 h)])]) 2
    (fun i => i ≤ 1099511627776 ∧ (i ≤ s.length ∨ e0 ≠ 0) ∧ skipN s i = skipN s a0) (fun i => s.length - i) a0 ⟨ha, hor, rfl⟩ (by rw [hz0]; exact Weak.w) ?_
  rintro i ⟨hi, hior, he⟩
  refine awA ?_
  refine awA ?_
  refine awp_mid (fun _ : Unit => (frame 83 [(0, .ptr 0 0), (26, .data (.bool (isAtI s i 32)))])) (fun _ => [(0, .box [.data (.str s), .data (.int .i64 i), .data (.int .i64 o), .data (.int .i64 e0), .data (.int .i64 h)])]) 24 (fun _ => True) ?_ ?_
  · rw [hz0]
    by_cases hb : i < s.length
    · have hat := isAtI_lt (c := 32) hb
      generalize hy : s[i] = y at hat
      repeat (first
        | (apply axJ; (focus ((with_reducible constructor) <;> rfl)))
        | (apply awT mixedOK hΓ (by kernel_rfl); (simp (disch := omega) only [go_sem, ↓reduceIte, dk, hy] <;> with_reducible rfl))
        | ((first | apply awR hΓ | apply awG | apply awH mixedOK hΓ rfl (by kernel_rfl) | apply ovE rfl); (simp (disch := omega) only [go_sem, ↓reduceIte, dk, hy] <;> with_reducible rfl); exact trivial)
        | rfl)
      exact ⟨(), trivial, Weak.v (by (simp [ConvF, lookV, Conv, ints, hat]; done)) (by (simp (disch := omega) only [TabSub, look, if_pos, if_neg, Obj.refsOK, refsOKs, AV.refsOK, decide_eq_true_eq, Bool.and_true, Bool.and_self, hat] ) <;> ((repeat' apply And.intro) <;> first | exact True.intro | omega | (simp; done) | rfl))⟩
    · have hat := isAtI_ge (s := s) (i := i) (c := 32) (by omega)
      repeat (first
        | (apply axJ; (focus ((with_reducible constructor) <;> rfl)))
        | (apply awT mixedOK hΓ (by kernel_rfl); (simp (disch := omega) only [go_sem, ↓reduceIte, dk] <;> with_reducible rfl))
        | ((first | apply awR hΓ | apply awG | apply awH mixedOK hΓ rfl (by kernel_rfl) | apply ovE rfl); (simp (disch := omega) only [go_sem, ↓reduceIte, dk] <;> with_reducible rfl); exact trivial)
        | rfl)
      exact ⟨(), trivial, Weak.v (by (simp [ConvF, lookV, Conv, ints, hat]; done)) (by (simp (disch := omega) only [TabSub, look, if_pos, if_neg, Obj.refsOK, refsOKs, AV.refsOK, decide_eq_true_eq, Bool.and_true, Bool.and_self, hat] ) <;> ((repeat' apply And.intro) <;> first | exact True.intro | omega | (simp; done) | rfl))⟩
  intro _ _
  cases hq : isAtI s i 32 with
  | true =>
    have hi2 := isAtI_true hq
    rw [isAtI_lt hi2] at hq
    have hy := runN_yes (p := isBl) hi2 hq
    rw [hz0]
    repeat (first
      | (apply axJ; (focus ((with_reducible constructor) <;> rfl)))
      | (apply awT mixedOK hΓ (by kernel_rfl); (simp (disch := omega) only [go_sem, ↓reduceIte, dk] <;> with_reducible rfl))
      | ((first | apply awR hΓ | apply awG | apply awH mixedOK hΓ rfl (by kernel_rfl) | apply ovE rfl); (simp (disch := omega) only [go_sem, ↓reduceIte, dk] <;> with_reducible rfl); exact trivial)
      | rfl)
    exact ⟨i + 1, ⟨by omega, .inl (by omega), hy.symm.trans he⟩, by omega, Weak.w⟩
  | false =>
    have hb : skipN s i = i := by
      rcases Nat.lt_or_ge i s.length with h1 | h1
      · rw [isAtI_lt h1] at hq
        exact runN_no h1 hq
      · exact runN_end h1
    have hR' : pPeek s ⟨a0, o, e0, h⟩ = R := hR
    unfold pPeek at hR'
    dsimp only at hR'
    rw [← he, hb] at hR'
    clear hR he hb hq
    have hcc : (i == s.length) = ((i : Int) == (s.length : Int)) := by rw [Bool.eq_iff_iff]; simp only [beq_iff_eq]; omega
    rw [hcc] at hR'
    rw [hz0]
    cases hc1 : ((i : Int) == (s.length : Int)) with
    | true =>
      rw [hc1] at hR'
      simp only [Bool.true_or, if_true] at hR'
      subst hR'
      repeat (first
        | (apply axJ; (focus ((with_reducible constructor) <;> rfl)))
        | (apply awT mixedOK hΓ (by kernel_rfl); (simp (disch := omega) only [go_sem, ↓reduceIte, dk, hc1] <;> with_reducible rfl))
        | ((first | apply awR hΓ | apply awG | apply awH mixedOK hΓ rfl (by kernel_rfl) | apply ovE rfl); (simp (disch := omega) only [go_sem, ↓reduceIte, dk, hc1] <;> with_reducible rfl); exact trivial)
        | rfl)
      exact retL_x rfl rfl (Weak.of (by simp) ⟨rfl, trivial⟩ (by simp [TabSub, oRS, enumO, look, Obj.refsOK, refsOKs, AV.refsOK]) rfl)
    | false =>
      rw [hc1] at hR'
      cases hc2 : (e0 != 0) with
      | true =>
        rw [hc2] at hR'
        simp only [Bool.false_or, if_true] at hR'
        subst hR'
        repeat (first
          | (apply axJ; (focus ((with_reducible constructor) <;> rfl)))
          | (apply awT mixedOK hΓ (by kernel_rfl); (simp (disch := omega) only [go_sem, ↓reduceIte, dk, hc1, hc2] <;> with_reducible rfl))
          | ((first | apply awR hΓ | apply awG | apply awH mixedOK hΓ rfl (by kernel_rfl) | apply ovE rfl); (simp (disch := omega) only [go_sem, ↓reduceIte, dk, hc1, hc2] <;> with_reducible rfl); exact trivial)
          | rfl)
        exact retL_x rfl rfl (Weak.of (by simp) ⟨rfl, trivial⟩ (by simp [TabSub, oRS, enumO, look, Obj.refsOK, refsOKs, AV.refsOK]) rfl)
      | false =>
        rw [hc2] at hR'
        simp only [Bool.false_or, Bool.false_eq_true, if_false] at hR'
        have hne : i ≠ s.length := fun h => by rw [h] at hc1; simp at hc1
        have he0 : e0 = 0 := by simpa using hc2
        have hlt : i < s.length := by
          rcases hior with h1 | h1
          · omega
          · exact absurd he0 h1
        have hdr : (s.drop i).take (s.length - i) = s.drop i := List.take_of_length_le (by rw [List.length_drop]; omega)
        have hrl : (s.drop i).length = s.length - i := List.length_drop
        have hsb : s[i]? = (s.drop i)[0]? := by rw [List.getElem?_drop]; rfl
        unfold tokAt wordN at hR'
        rw [hsb] at hR'
        obtain ⟨c, r, hr⟩ : ∃ c r, s.drop i = c :: r := by
          cases hd : s.drop i with
          | nil => rw [hd] at hrl; simp at hrl; omega
          | cons c r => exact ⟨c, r, rfl⟩
        have hc0 : (s.drop i)[0]? = some c := by rw [hr]; rfl
        have ht1 : (s.drop i).take 1 = [c] := by rw [hr]; rfl
        clear hr hsb
        generalize hq : s.drop i = q at *
        have hdr2 : (s.drop i).take (s.length - i) = q := by rw [hq]; exact hdr
        clear hdr
        have e1 := g_trimL_eq (s := q) (by omega)
        rw [trimL_eq] at e1
        unfold cutset at e1
        have hd1 := dropW_len q
        have hd2 : q.length = (q.takeWhile letter).length + (q.dropWhile letter).length := by
          conv => lhs; rw [← List.takeWhile_append_dropWhile (p := letter) (l := q), List.length_append]
        have ht : q.take (q.takeWhile letter).length = q.takeWhile letter := (List.prefix_iff_eq_take.1 (List.takeWhile_prefix letter)).symm
        generalize q.takeWhile letter = w at *
        generalize q.dropWhile letter = v at *
        have hc01 : ∀ h : 0 < q.length, q[0]'h = c := fun h => by rw [List.getElem?_eq_getElem h] at hc0; simpa using hc0
        have hql : 0 < q.length := by omega
        cases w with
        | cons b w =>
          have hw : ((b :: w) == []) = false := rfl
          rw [hw] at hR'
          simp only [Bool.false_eq_true, if_false] at hR'
          have hw2 : ((b :: w) == []) = false := rfl
          simp only [hw2, Bool.false_eq_true, if_false] at hR'
          subst hR'
          have hpos : decide (((b :: w).length : Int) > 0) = true := decide_eq_true (by simp only [List.length_cons]; omega)
          generalize b :: w = u at *
          repeat (first
            | (apply axJ; (focus ((with_reducible constructor) <;> rfl)))
            | (apply awT mixedOK hΓ (by kernel_rfl); (simp (disch := omega) only [go_sem, ↓reduceIte, dk, hc1, hc2, hdr2, e1, hd1, hpos, ht, Nat.sub_zero] <;> with_reducible rfl))
            | ((first | apply awR hΓ | apply awG | apply awH mixedOK hΓ rfl (by kernel_rfl) | apply ovE rfl); (simp (disch := omega) only [go_sem, ↓reduceIte, dk, hc1, hc2, hdr2, e1, hd1, hpos, ht, Nat.sub_zero] <;> with_reducible rfl); exact trivial)
            | rfl)
          exact retL_x rfl rfl (Weak.of (by simp) ⟨rfl, trivial⟩ (by simp [TabSub, oRS, enumO, look, Obj.refsOK, refsOKs, AV.refsOK]) rfl)
        | nil =>
          have hw : (([] : List UInt8) == []) = true := rfl
          rw [hw, hc0] at hR'
          simp only [if_true] at hR'
          have hpos : decide ((([] : List UInt8).length : Int) > 0) = false := rfl
          have e2 := g_idxByte_eq (s := [43, 40, 41]) (b := c) (by simp)
          have e3 := idx3 c
          generalize Lib.indexByte [43, 40, 41] c = ix at *
          cases hp : (c == 43 || (c == 40 || c == 41)) with
          | true =>
            rw [hp] at hR' e3
            have hw3 : ([c] == []) = false := rfl
            simp only [if_true, hw3, Bool.false_eq_true, if_false] at hR'
            subst hR'
            repeat (first
              | (apply axJ; (focus ((with_reducible constructor) <;> rfl)))
              | (apply awT mixedOK hΓ (by kernel_rfl); (simp (disch := omega) only [go_sem, ↓reduceIte, dk, hc1, hc2, hdr2, e1, hd1, hpos, Int.reduceToNat, hc01, e2, e3, ht1, Nat.sub_zero] <;> with_reducible rfl))
              | ((first | apply awR hΓ | apply awG | apply awH mixedOK hΓ rfl (by kernel_rfl) | apply ovE rfl); (simp (disch := omega) only [go_sem, ↓reduceIte, dk, hc1, hc2, hdr2, e1, hd1, hpos, Int.reduceToNat, hc01, e2, e3, ht1, Nat.sub_zero] <;> with_reducible rfl); exact trivial)
              | rfl)
            exact retL_x rfl rfl (Weak.of (by simp) ⟨rfl, trivial⟩ (by simp [TabSub, oRS, enumO, look, Obj.refsOK, refsOKs, AV.refsOK]) rfl)
          | false =>
            rw [hp] at hR' e3
            simp only [Bool.false_eq_true, if_false, hw, if_true] at hR'
            subst hR'
            have he0b : (e0 == 0) = true := by rw [he0]; rfl
            repeat (first
              | (apply axJ; (focus ((with_reducible constructor) <;> rfl)))
              | (apply awT mixedOK hΓ (by kernel_rfl); (simp (disch := omega) only [go_sem, ↓reduceIte, dk, hc1, hc2, hdr2, e1, hd1, hpos, Int.reduceToNat, hc01, e2, e3, ↓call_fail, pFail, he0b] <;> with_reducible rfl))
              | ((first | apply awR hΓ | apply awG | apply awH mixedOK hΓ rfl (by kernel_rfl) | apply ovE rfl); (simp (disch := omega) only [go_sem, ↓reduceIte, dk, hc1, hc2, hdr2, e1, hd1, hpos, Int.reduceToNat, hc01, e2, e3, ↓call_fail, pFail, he0b] <;> with_reducible rfl); exact trivial)
              | rfl)
            exact retL_x rfl rfl (Weak.of (by simp) ⟨rfl, trivial⟩ (by simp [TabSub, oRS, enumO, look, Obj.refsOK, refsOKs, AV.refsOK]) rfl)
theorem call_peek (k n : Nat) (tab : List (Nat × Obj)) (s : List UInt8) (a : Nat) (o e h : Int) (hd : RSok s ⟨a, o, e, h⟩) : callLoc k ⟨(0, .box [.data (.str s), .data (.int .i64 a), .data (.int .i64 o), .data (.int .i64 e), .data (.int .i64 h)]) :: tab, n⟩ g_peek [.ptr 0 0] =
    some (.data (.str (pPeek s ⟨a, o, e, h⟩).1), ⟨(0, oRS s (pPeek s ⟨a, o, e, h⟩).2) :: tab, k⟩) := (callLoc_of (fp := [0]) rfl rfl rfl (g_peek_eq s ⟨a, o, e, h⟩ hd) (Nat.le_refl _)).trans rfl
end Go.Ab
