/-
  One text of the proof (own work): contracts of functions of the program, by the abstract machine.
-/
import Derived.Test.YtlfmbcjjojedgaaGreatDoorX31
import Derived.Test.YtlfmbcjjojedgaaGreatDoorX28
import Derived.Test.YtlfmbcjjojedgaaGreatDoorX23
import Derived.Test.YtlfmbcjjojedgaaGreatDoorX27
set_option linter.unusedVariables false
set_option linter.unusedSimpArgs false
namespace Go.Ab
open Go Go.RowKit Go.Proofs
set_option maxRecDepth 10000
set_option maxHeartbeats 8000000
theorem list_rel {s : List UInt8} {d : Nat} {rp : Nat → Res} {pp : RS → LX × RS} {kind : Int} {x : UInt8} {w : List UInt8} (hx : letter x = true) (hg : ∀ a, a ≤ s.length → GoodR s a (rp a)) (hp : PartOK s d pp) (hrel : Rel s d rp pp) :
    RelL s d (fun a => rLoop rp s kind (x :: w) (s.length + 1) a []) (pList pp s kind (x :: w)) := fun r hr =>
  loop_rel hx hr.sl hr.d24 hg hp hrel (s.length + 1) (s.length + 1) r.at' [] r rfl hr (by omega) (by omega)
theorem not_bad_tok {s : List UInt8} {b : Nat} {c : UInt8} {w : List UInt8} (h : tokAt s b = c :: w) : ¬ Bad s b := fun hb => by
  have := hb.2
  rw [h] at this
  cases this
theorem atom_rel {s : List UInt8} {d : Nat} {ri : Option (Nat → Res)} {pi : Option (RS → LX × RS)} (hno : ri = none → pi = none)
    (hso : ∀ f, ri = some f → ∃ g d', pi = some g ∧ d = d' + 1 ∧ PartOK s d' g ∧ (∀ a, a ≤ s.length → GoodR s a (f a)) ∧ RelL s d' f g) : Rel s d (rAtomF s ri) (pAtomF s pi) := by
  intro r hr
  obtain ⟨h1, h2, h3, h4, h5⟩ := peek_eq (s := s) hr.e hr.le
  have hm : r.at' ≤ skipN s r.at' ∧ skipN s r.at' ≤ s.length := runN_le hr.le
  have hidem := skipN_idem s r.at'
  have hR : rAtomF s ri r.at' = rAtomF s ri r.at' := rfl
  have hQ : pAtomF s pi r = pAtomF s pi r := rfl
  generalize hRR : rAtomF s ri r.at' = R at *
  generalize hQQ : pAtomF s pi r = Q at *
  clear hR hQ
  unfold rAtomF at hRR
  unfold pAtomF at hQQ
  generalize hb : skipN s r.at' = b at *
  rw [h1] at hQQ
  generalize hr1 : (pPeek s r).2 = r1 at *
  by_cases hp : isAtI s b 40 = true
  · have ht : tokAt s b = [40] := (tok_punct (c := 40) (.inr (.inl rfl))).2 hp
    have hlt := isAtI_true hp
    rw [if_pos hp] at hRR
    rw [if_pos (by rw [ht]; rfl)] at hQQ
    have he1 := h5 (not_bad_tok ht)
    cases ri with
    | none =>
      rw [hno rfl] at hQQ
      dsimp only at hRR hQQ
      subst hRR hQQ
      have hf := fail_new he1 11 r1.at'
      exact ⟨fun _ => ⟨hf.1, by rw [hf.2, h2]; rfl⟩, fun h => absurd (show (11 : Int) = 0 from h) (by decide)⟩
    | some f =>
      obtain ⟨g, d', rfl, rfl, hpg, hgf, hrel⟩ := hso f rfl
      dsimp only at hRR hQQ
      have hin : PIn s d' { pTake r1 1 with op := r1.op + 1 } := ⟨hr.sl, by show r1.at' + 1 ≤ _; omega, he1, by have := hr.d24; omega, by show r1.op + 1 = _; rw [h3, hr.op]; omega⟩
      have hat : ({ pTake r1 1 with op := r1.op + 1 } : RS).at' = b + 1 := by show r1.at' + 1 = _; rw [h2]
      have hrl := hrel _ hin
      have hgg := hgf (b + 1) (by omega)
      have hpo := hpg _ hin
      rw [hat] at hrl
      generalize g { pTake r1 1 with op := r1.op + 1 } = q at *
      generalize f (b + 1) = F at *
      obtain ⟨k1, k2⟩ := hrl
      by_cases hF : F.err = 0
      · obtain ⟨k3, k4, k5⟩ := k2 hF
        rw [if_neg (by simp [hF]), k3] at hRR
        by_cases hbd : Bad s F.at'
        · obtain ⟨k6, k7⟩ := k5 hbd
          have hnp : isAtI s F.at' 41 ≠ true := fun h => by
            have := (tok_punct (c := 41) (.inr (.inr rfl))).2 h
            exact not_bad_tok this hbd
          rw [if_neg hnp] at hRR
          subst hRR hQQ
          have he : q.2.e ≠ 0 := by rw [k6]; decide
          obtain ⟨k8, k9, k10⟩ := peek_err (s := s) he
          refine ⟨fun _ => ?_, fun h => absurd (show (4 : Int) = 0 from h) (by decide)⟩
          dsimp only
          rw [if_pos (by rw [k8]; rfl), fail_err (by rw [k9]; exact he)]
          exact ⟨by show (pPeek s q.2).2.e = _; rw [k9, k6]; rfl, by show (pPeek s q.2).2.here = _; rw [k10, k7]; rfl⟩
        · obtain ⟨k6, k7, k8⟩ := k4 hbd
          obtain ⟨p1, p2, p3, p4, p5⟩ := peek_eq (s := s) k6 (hpo.ok k6)
          rw [k8, k3] at p1 p2 p4 p5
          have hpe := p5 hbd
          by_cases hc : isAtI s F.at' 41 = true
          · have ht2 : tokAt s F.at' = [41] := (tok_punct (c := 41) (.inr (.inr rfl))).2 hc
            rw [if_pos hc] at hRR
            rw [p1, ht2] at hQQ
            subst hRR hQQ
            refine ⟨fun h => absurd rfl h, fun _ => .inl ?_⟩
            rw [if_neg (by decide)]
            exact ⟨hpe, k7, by show skipN s ((pPeek s q.2).2.at' + 1) = _; rw [p2]⟩
          · rw [if_neg hc] at hRR
            have hne : tokAt s F.at' ≠ [41] := fun h => hc ((tok_punct (c := 41) (.inr (.inr rfl))).1 h)
            subst hRR hQQ
            refine ⟨fun _ => ?_, fun h => absurd (show (4 : Int) = 0 from h) (by decide)⟩
            dsimp only
            rw [if_pos (by rw [p1]; simpa [bne] using hne)]
            have hf := fail_new hpe 4 (pPeek s q.2).2.at'
            exact ⟨hf.1, by show (pFail _ _ _).here = _; rw [hf.2, p2]; rfl⟩
      · rw [if_pos (by simpa using hF)] at hRR
        obtain ⟨k3, k4⟩ := k1 hF
        subst hRR hQQ
        have he : q.2.e ≠ 0 := by rw [k3]; exact hF
        obtain ⟨k8, k9, k10⟩ := peek_err (s := s) he
        refine ⟨fun _ => ?_, fun h => absurd h hF⟩
        dsimp only
        rw [if_pos (by rw [k8]; rfl), fail_err (by rw [k9]; exact he)]
        exact ⟨by show (pPeek s q.2).2.e = _; rw [k9, k3], by show (pPeek s q.2).2.here = _; rw [k10, k4]⟩
  · have ht : tokAt s b ≠ [40] := fun h => hp ((tok_punct (c := 40) (.inr (.inl rfl))).1 h)
    rw [if_neg hp] at hRR
    rw [if_neg (by simpa using ht)] at hQQ
    dsimp only at hQQ
    have hname : ((rName s b).err ≠ 0 → (pName s r1).2.e = (rName s b).err ∧ (pName s r1).2.here = (rName s b).at') ∧
        ((rName s b).err = 0 → (pName s r1).2.e = 0 ∧ (rName s b).expr = .mk 0 (pName s r1).1 [] [] ∧ (pName s r1).2.at' = (rName s b).at') := by
      by_cases hbd : Bad s b
      · obtain ⟨k1, k2⟩ := h4 hbd
        have hw : wordN s (skipN s b) = [] := by
          rw [hidem]
          cases hw : wordN s b with
          | nil => rfl
          | cons x w =>
            have := (tok_word (wordN_cons hw).2).2 hw
            exact absurd hbd (not_bad_tok this)
        rw [rName_nil hw, hidem]
        obtain ⟨k3, k4⟩ := name_err (s := s) (r := r1) (by rw [k1]; decide)
        exact ⟨fun _ => ⟨by rw [k3, k1]; rfl, by rw [k4, k2]; rfl⟩, fun h => absurd (show (4 : Int) = 0 from h) (by decide)⟩
      · have := name_rel (s := s) (r := r1) (h5 hbd) (by omega)
        rw [h2] at this
        exact this
    have hgn := goodR_name (s := s) (a := b) hm.2 (Nat.le_refl _)
    have hpn := (name_ok (s := s) (r := r1) (.inl (by omega))).1
    have hkk := name_kids (s := s) (a := b)
    generalize rName s b = N at *
    generalize pName s r1 = m at *
    obtain ⟨k1, k2⟩ := hname
    by_cases hN : N.err = 0
    · obtain ⟨k3, k4, k5⟩ := k2 hN
      rw [if_neg (by simp [hN])] at hRR
      have hle := hgn.le
      have hNe : N.expr.name = m.1 ∧ N.expr.exc = [] ∧ N.expr.kind = 0 ∧ N.expr.kids = [] := by rw [k4]; exact ⟨rfl, rfl, rfl, rfl⟩
      rw [hNe.1, hNe.2.1, hNe.2.2.1, hNe.2.2.2] at hRR
      obtain ⟨p1, p2, p3, p4, p5⟩ := peek_eq (s := s) k3 (by rw [k5]; exact hle)
      rw [k5] at p1 p2 p4 p5
      have hcm : N.at' ≤ skipN s N.at' ∧ skipN s N.at' ≤ s.length := runN_le hle
      have hidem2 := skipN_idem s N.at'
      generalize hc : skipN s N.at' = c at *
      by_cases hpl : isAtI s c 43 = true
      · have ht2 : tokAt s c = [43] := (tok_punct (c := 43) (.inl rfl)).2 hpl
        rw [if_pos hpl] at hRR
        rw [p1, ht2, if_pos (show (([43] : List UInt8) == [43]) = true from rfl)] at hQQ
        subst hRR hQQ
        exact ⟨fun h => absurd rfl h, fun _ => .inl ⟨p5 (not_bad_tok ht2), rfl, by show skipN s ((pPeek s m.2).2.at' + 1) = _; rw [p2]⟩⟩
      · have hnp : tokAt s c ≠ [43] := fun h => hpl ((tok_punct (c := 43) (.inl rfl)).1 h)
        rw [if_neg hpl] at hRR
        rw [p1, if_neg (by simpa using hnp)] at hQQ
        by_cases hwi : wordN s c = [119, 105, 116, 104]
        · have ht2 : tokAt s c = [119, 105, 116, 104] := (tok_word (by decide)).2 hwi
          rw [if_pos (by rw [hwi]; rfl)] at hRR
          rw [ht2, if_pos (show (([119, 105, 116, 104] : List UInt8) == [119, 105, 116, 104]) = true from rfl)] at hQQ
          have hlen := wordN_le s c hcm.2
          rw [hwi] at hlen
          simp only [List.length_cons, List.length_nil] at hlen
          have he3 := p5 (not_bad_tok ht2)
          have hrx := name_rel (s := s) (r := pTake (pPeek s m.2).2 4) he3 (by show (pPeek s m.2).2.at' + 4 ≤ _; rw [p2]; omega)
          have hat : (pTake (pPeek s m.2).2 4).at' = c + 4 := by show (pPeek s m.2).2.at' + 4 = _; rw [p2]
          rw [hat] at hrx
          generalize rName s (c + 4) = X at *
          generalize pName s (pTake (pPeek s m.2).2 4) = x at *
          obtain ⟨x1, x2⟩ := hrx
          by_cases hX : X.err = 0
          · obtain ⟨x3, x4, x5⟩ := x2 hX
            rw [if_neg (by simp [hX])] at hRR
            have hXe : X.expr.name = x.1 := by rw [x4]; rfl
            rw [hXe] at hRR
            subst hRR hQQ
            exact ⟨fun h => absurd rfl h, fun _ => .inl ⟨x3, rfl, by show skipN s x.2.at' = _; rw [x5]⟩⟩
          · rw [if_pos (by simpa using hX)] at hRR
            subst hRR hQQ
            exact ⟨fun _ => x1 hX, fun h => absurd h hX⟩
        · have ht2 : tokAt s c ≠ [119, 105, 116, 104] := fun h => hwi ((tok_word (by decide)).1 h)
          rw [if_neg (by simpa using hwi)] at hRR
          rw [if_neg (by simpa using ht2)] at hQQ
          subst hRR hQQ
          refine ⟨fun h => absurd hN h, fun _ => ?_⟩
          rw [hc]
          by_cases hbd : Bad s c
          · exact .inr ⟨hbd, p4 hbd⟩
          · exact .inl ⟨p5 hbd, by rw [k4], by show skipN s (pPeek s m.2).2.at' = _; rw [p2, hidem2]⟩
    · rw [if_pos (by simpa using hN)] at hRR
      obtain ⟨k3, k4⟩ := k1 hN
      have he : m.2.e ≠ 0 := by rw [k3]; exact hN
      obtain ⟨k8, k9, k10⟩ := peek_err (s := s) he
      rw [k8, if_neg (by decide), if_neg (by decide)] at hQQ
      subst hRR hQQ
      exact ⟨fun _ => ⟨by show (pPeek s m.2).2.e = _; rw [k9, k3], by show (pPeek s m.2).2.here = _; rw [k10, k4]⟩, fun h => absurd h hN⟩
theorem rel_atom {s : List UInt8} : ∀ d : Nat, Rel s d (rAtom s d) (pAtomD s d)
  | 0 => atom_rel (fun _ => rfl) (fun f h => by cases h)
  | d + 1 => atom_rel (fun h => by cases h) (fun f h => by
      cases h
      exact ⟨pOrsD s d, d, rfl, rfl, ors_out d, fun a ha => good_ors (fun a ha => good_atom d ha) ha,
        list_rel (by decide) (fun a ha => good_ands (fun a ha => good_atom d ha) ha) (ands_out d) (list_rel (by decide) (fun a ha => good_atom d ha) (atom_out d) (rel_atom d)).rel⟩)
theorem rel_ors {s : List UInt8} (d : Nat) : RelL s d (rOrs s (rAtom s d)) (pOrsD s d) :=
  list_rel (by decide) (fun a ha => good_ands (fun a ha => good_atom d ha) ha) (ands_out d) (list_rel (by decide) (fun a ha => good_atom d ha) (atom_out d) (rel_atom d)).rel
def pEnd (s : List UInt8) (q : LX × RS) : LX × RS := (q.1, if (pPeek s q.2).1 != [] then pFail (pPeek s q.2).2 4 (pPeek s q.2).2.at' else (pPeek s q.2).2)
def pParse (s : List UInt8) : LX × Int × Int :=
  if decide ((s.length : Int) > 1024) then (x0, 0, 10)
  else
    let q := pEnd s (pOrsD s 24 ⟨0, 0, 0, 0⟩)
    if q.2.e != 0 then (x0, q.2.here, q.2.e)
    else if decide ((q.1.size : Int) > 64) then (x0, 0, 10)
    else if decide ((q.1.hgt : Int) > 24) then (x0, 0, 11)
    else (q.1, 0, 0)
theorem pin0 {s : List UInt8} (h : s.length ≤ 1024) : PIn s 24 ⟨0, 0, 0, 0⟩ := ⟨h, Nat.zero_le _, rfl, Nat.le_refl _, rfl⟩
theorem end_rel {s : List UInt8} (h : s.length ≤ 1024) :
    let R := rOrs s (rAtom s 24) 0
    let q := pEnd s (pOrsD s 24 ⟨0, 0, 0, 0⟩)
    (R.err ≠ 0 → q.2.e = R.err ∧ q.2.here = R.at') ∧ (R.err = 0 → R.at' < s.length → q.2.e = 4 ∧ q.2.here = R.at') ∧ (R.err = 0 → ¬ R.at' < s.length → q.2.e = 0 ∧ q.1 = R.expr) := by
  intro R q
  have hR : R = rOrs s (rAtom s 24) 0 := rfl
  have hq : q = pEnd s (pOrsD s 24 ⟨0, 0, 0, 0⟩) := rfl
  obtain ⟨h1, h2⟩ := rel_ors (s := s) 24 _ (pin0 h)
  have ho := ors_out (s := s) 24 _ (pin0 h)
  have hg := good_ors (s := s) (a := 0) (fun a ha => good_atom 24 ha) (Nat.zero_le _)
  rw [show (⟨0, 0, 0, 0⟩ : RS).at' = 0 from rfl, ← hR] at h1 h2
  rw [← hR] at hg
  unfold pEnd at hq
  clear_value R q
  clear hR
  generalize pOrsD s 24 ⟨0, 0, 0, 0⟩ = p at *
  by_cases he : R.err = 0
  · obtain ⟨k3, k4, k5⟩ := h2 he
    by_cases hb : Bad s R.at'
    · obtain ⟨k6, k7⟩ := k5 hb
      have hne : p.2.e ≠ 0 := by rw [k6]; decide
      obtain ⟨k8, k9, k10⟩ := peek_err (s := s) hne
      rw [k8, if_neg (by decide)] at hq
      subst hq
      exact ⟨fun h => absurd he h, fun _ _ => ⟨by rw [k9, k6], by rw [k10, k7]⟩, fun _ h => absurd hb.1 h⟩
    · obtain ⟨k6, k7, k8⟩ := k4 hb
      obtain ⟨p1, p2, p3, p4, p5⟩ := peek_eq (s := s) k6 (ho.ok k6)
      rw [k8, k3] at p1 p2 p4 p5
      have hpe := p5 hb
      by_cases hlt : R.at' < s.length
      · have hne : tokAt s R.at' ≠ [] := fun h => hb ⟨hlt, h⟩
        rw [p1, if_pos (by simpa [bne] using hne)] at hq
        have hf := fail_new hpe 4 (pPeek s p.2).2.at'
        subst hq
        exact ⟨fun h => absurd he h, fun _ _ => ⟨hf.1, by rw [hf.2, p2]⟩, fun _ h => absurd hlt h⟩
      · rw [p1, tok_end (by omega), if_neg (by decide)] at hq
        subst hq
        exact ⟨fun h => absurd he h, fun _ h => absurd h hlt, fun _ _ => ⟨hpe, k7⟩⟩
  · obtain ⟨k3, k4⟩ := h1 he
    have hne : p.2.e ≠ 0 := by rw [k3]; exact he
    obtain ⟨k8, k9, k10⟩ := peek_err (s := s) hne
    rw [k8, if_neg (by decide)] at hq
    subst hq
    exact ⟨fun _ => ⟨by rw [k9, k3], by rw [k10, k4]⟩, fun h => absurd h he, fun h => absurd h he⟩
theorem parse_rel (s : List UInt8) : ((rParse s).err ≠ 0 → pParse s = (x0, ((rParse s).at' : Int), (rParse s).err)) ∧ ((rParse s).err = 0 → pParse s = ((rParse s).expr, 0, 0) ∧ (rParse s).expr.Bd 1099511627776) := by
  generalize hR : rParse s = R
  generalize hP : pParse s = P
  unfold rParse at hR
  unfold pParse at hP
  by_cases hs : (s.length : Int) > 1024
  · rw [decide_eq_true hs, if_pos rfl] at hR hP
    subst hR hP
    exact ⟨fun _ => rfl, fun h => absurd (show (10 : Int) = 0 from h) (by decide)⟩
  rw [decide_eq_false hs, if_neg (by decide)] at hR hP
  obtain ⟨h1, h2, h3⟩ := end_rel (s := s) (by omega)
  have hg := good_ors (s := s) (a := 0) (fun a ha => good_atom 24 ha) (Nat.zero_le _)
  dsimp only at h1 h2 h3 hP
  generalize rOrs s (rAtom s 24) 0 = F at *
  generalize pEnd s (pOrsD s 24 ⟨0, 0, 0, 0⟩) = q at *
  by_cases he : F.err = 0
  · rw [if_neg (by simp [he])] at hR
    by_cases hlt : F.at' < s.length
    · rw [decide_eq_true hlt, if_pos rfl] at hR
      obtain ⟨k1, k2⟩ := h2 he hlt
      rw [if_pos (by rw [k1]; rfl), k1, k2] at hP
      subst hR hP
      exact ⟨fun _ => rfl, fun h => absurd (show (4 : Int) = 0 from h) (by decide)⟩
    · rw [decide_eq_false hlt, if_neg (by decide)] at hR
      obtain ⟨k1, k2⟩ := h3 he hlt
      rw [if_neg (by rw [k1]; decide), k2] at hP
      by_cases hz : (F.expr.size : Int) > 64
      · rw [decide_eq_true hz, if_pos rfl] at hR hP
        subst hR hP
        exact ⟨fun _ => rfl, fun h => absurd (show (10 : Int) = 0 from h) (by decide)⟩
      · rw [decide_eq_false hz, if_neg (by decide)] at hR hP
        by_cases hh : (F.expr.hgt : Int) > 24
        · rw [decide_eq_true hh, if_pos rfl] at hR hP
          subst hR hP
          exact ⟨fun _ => rfl, fun h => absurd (show (11 : Int) = 0 from h) (by decide)⟩
        · rw [decide_eq_false hh, if_neg (by decide)] at hR hP
          subst hR hP
          exact ⟨fun h => absurd rfl h, fun _ => ⟨rfl, bd_mono (by omega) (hg.bd he)⟩⟩
  · rw [if_pos (by simpa using he)] at hR
    obtain ⟨k1, k2⟩ := h1 he
    rw [if_pos (by rw [k1]; simpa using he), k1, k2] at hP
    subst hR hP
    exact ⟨fun _ => rfl, fun h => absurd h he⟩
end Go.Ab
namespace Go.Ab
open Go Go.RowKit Go.Proofs
set_option maxRecDepth 10000
set_option maxHeartbeats 8000000
def par (k : Int) (x : LX) : Bool := (x.kind == k) || ((x.kind == 3) && (k == 2))
def sepX (k : Int) : List UInt8 := if k == 3 then [32, 111, 114, 32] else [32, 97, 110, 100, 32]
mutual
def textX : LX → List UInt8
  | .mk k n e l => if k == 0 then (if !(e == []) then n ++ [32, 119, 105, 116, 104, 32] ++ e else n) else if k == 1 then n ++ [43] else Lib.join (textXs k l) (sepX k)
def textXs (k : Int) : List LX → List (List UInt8)
  | [] => []
  | x :: l => (if par k x then [40] ++ textX x ++ [41] else textX x) :: textXs k l
end
def pText (k : Int) (x : LX) : List UInt8 := if par k x then [40] ++ textX x ++ [41] else textX x
theorem textX_eq (x : LX) : textX x = if x.kind == 0 then (if !(x.exc == []) then x.name ++ [32, 119, 105, 116, 104, 32] ++ x.exc else x.name) else if x.kind == 1 then x.name ++ [43] else Lib.join (textXs x.kind x.kids) (sepX x.kind) := by cases x; rw [textX]; rfl
theorem textXs_map (k : Int) (l : List LX) : textXs k l = l.map (pText k) := by
  induction l with
  | nil => rfl
  | cons x l ih => rw [textXs, ih]; rfl
theorem join_le (l : List (List UInt8)) (s : List UInt8) : (Lib.join l s).length ≤ (Lib.joinTail s l).length := by
  cases l with
  | nil => exact Nat.le_refl _
  | cons x r => rw [Lib.join_cons, Lib.joinTail, Lib.joinTail, List.map_cons, List.flatten_cons]; simp only [List.length_append]; omega
theorem formE_node {x : LX} (h : formE x = 0) : nodeE x = 0 := by
  rw [formE_eq] at h
  by_cases hn : nodeE x = 0
  · exact hn
  · rw [if_neg (by simpa using hn)] at h; exact absurd h hn
theorem formsE_mem {l : List LX} (h : formsE l = 0) : ∀ y ∈ l, formE y = 0 := by
  induction l with
  | nil => intro y hy; cases hy
  | cons x l ih =>
    rw [formsE] at h
    by_cases hx : formE x = 0
    · rw [if_pos (by simpa using hx)] at h
      intro y hy
      rcases List.mem_cons.1 hy with rfl | hy
      · exact hx
      · exact ih h y hy
    · rw [if_neg (by simpa using hx)] at h; exact absurd h hx
theorem formE_kid {x y : LX} (h : formE x = 0) (hy : y ∈ x.kids) : formE y = 0 := by
  have hn := formE_node h
  rw [formE_eq, if_pos (by simpa using hn)] at h
  exact formsE_mem h y hy
theorem isNameB_len {s : List UInt8} (h : isNameB s = true) : s.length ≤ 32 := by
  unfold isNameB at h
  simp only [Bool.and_eq_true, Bool.not_eq_true', decide_eq_false_iff_not] at h
  omega
theorem node_cases {x : LX} (h : nodeE x = 0) : ((x.kind = 0 ∨ x.kind = 1) ∧ x.kids = [] ∧ isNameB x.name = true ∧ (x.exc = [] ∨ (x.kind = 0 ∧ isNameB x.exc = true))) ∨ ((x.kind = 2 ∨ x.kind = 3) ∧ 2 ≤ x.kids.length ∧ x.name = [] ∧ x.exc = []) := by
  unfold nodeE at h
  split at h
  · rename_i hk
    simp only [Bool.or_eq_true, beq_iff_eq] at hk
    split at h
    · cases h
    · rename_i h1
      split at h
      · cases h
      · rename_i h2
        simp only [Bool.or_eq_true, Bool.and_eq_true, decide_eq_true_eq, beq_iff_eq, Bool.not_eq_true', beq_eq_false_iff_ne, not_or, not_and, Bool.not_eq_false] at h1 h2
        refine .inl ⟨hk, List.eq_nil_of_length_eq_zero (by omega), by simpa using h2.1, ?_⟩
        by_cases he : x.exc = []
        · exact .inl he
        · refine .inr ⟨?_, by simpa using h2.2 he⟩
          rcases hk with hk | hk
          · exact hk
          · exact absurd (h1.2 hk) (by simpa using he)
  · split at h
    · rename_i hk
      simp only [Bool.or_eq_true, beq_iff_eq] at hk
      split at h
      · cases h
      · rename_i h1
        simp only [Bool.or_eq_true, decide_eq_true_eq, Bool.not_eq_true', beq_eq_false_iff_ne, not_or, ne_eq, Classical.not_not] at h1
        exact .inr ⟨hk, by omega, h1.2.1, h1.2.2⟩
    · cases h
theorem text_len (x : LX) : formE x = 0 → (textX x).length + 10 ≤ 100 * x.size := by
  refine LX.ind (p := fun x => formE x = 0 → (textX x).length + 10 ≤ 100 * x.size) (fun k n e l ih h => ?_) x
  have hs : ∀ l : List LX, (∀ y ∈ l, formE y = 0 ∧ (textX y).length + 10 ≤ 100 * y.size) → ∀ k, (Lib.joinTail (sepX k) (textXs k l)).length ≤ 100 * LX.size.sizes l := fun l => by
    induction l with
    | nil => intro _ k; exact Nat.zero_le _
    | cons y l il =>
      intro hl k
      have h1 := (hl y (by simp)).2
      have h2 := il (fun z hz => hl z (by simp [hz])) k
      have h3 : (sepX k).length ≤ 5 := by unfold sepX; split <;> simp
      rw [textXs, LX.size.sizes]
      have h4 : (if par k y then [40] ++ textX y ++ [41] else textX y).length ≤ (textX y).length + 2 := by split <;> simp
      generalize (if par k y then [40] ++ textX y ++ [41] else textX y) = t at *
      simp only [Lib.joinTail, List.map_cons, List.flatten_cons, List.length_append] at h2 ⊢
      omega
  have hn := node_cases (formE_node h)
  rw [textX_eq]
  generalize hx : LX.mk k n e l = x at *
  have hp := x.size_pos
  have hkids : x.kids = l := by rw [← hx]; rfl
  rcases hn with ⟨hk, h1, h2, h3⟩ | ⟨hk, h1, h2, h3⟩
  · have hl := isNameB_len h2
    have he : x.exc.length ≤ 32 := by
      rcases h3 with h3 | h3
      · rw [h3]; exact Nat.zero_le _
      · exact isNameB_len h3.2
    rcases hk with hk | hk
    · rw [if_pos (by rw [hk]; rfl)]
      split
      · simp only [List.length_append, List.length_cons, List.length_nil]; omega
      · omega
    · rw [if_neg (by rw [hk]; decide), if_pos (by rw [hk]; rfl)]
      simp only [List.length_append, List.length_cons, List.length_nil]; omega
  · rw [if_neg (by rcases hk with hk | hk <;> (rw [hk]; decide)), if_neg (by rcases hk with hk | hk <;> (rw [hk]; decide))]
    have h4 := hs x.kids (fun y hy => ⟨formE_kid h hy, ih y (hkids ▸ hy) (formE_kid h hy)⟩) x.kind
    have h5 := join_le (textXs x.kind x.kids) (sepX x.kind)
    have h6 := x.size_eq
    omega
def TxOK (x : LX) : Prop := x.size ≤ 1048576 ∧ formE x = 0
theorem TxOK.kid {x : LX} {i : Nat} (h : TxOK x) (hi : i < x.kids.length) : TxOK x.kids[i] := ⟨by have := LX.size_kid (List.getElem_mem hi); have := h.1; omega, formE_kid h.2 (List.getElem_mem hi)⟩
theorem tails_len {x : LX} (h : TxOK x) (i : Nat) : (Lib.join (textXs x.kind (x.kids.take i)) (sepX x.kind)).length ≤ 104857600 := by
  have hs : ∀ l : List LX, (∀ y ∈ l, formE y = 0) → ∀ k, (Lib.joinTail (sepX k) (textXs k l)).length ≤ 100 * LX.size.sizes l := fun l => by
    induction l with
    | nil => intro _ k; exact Nat.zero_le _
    | cons y l il =>
      intro hl k
      have h1 := text_len y (hl y (by simp))
      have h2 := il (fun z hz => hl z (by simp [hz])) k
      have h3 : (sepX k).length ≤ 5 := by unfold sepX; split <;> simp
      rw [textXs, LX.size.sizes]
      have h4 : (if par k y then [40] ++ textX y ++ [41] else textX y).length ≤ (textX y).length + 2 := by split <;> simp
      generalize (if par k y then [40] ++ textX y ++ [41] else textX y) = t at *
      simp only [Lib.joinTail, List.map_cons, List.flatten_cons, List.length_append] at h2 ⊢
      omega
  have h1 := hs (x.kids.take i) (fun y hy => formE_kid h.2 (List.mem_of_mem_take hy)) x.kind
  have h2 := join_le (textXs x.kind (x.kids.take i)) (sepX x.kind)
  have h3 := LX.sizes_le (l := x.kids) i
  have h4 := x.size_eq
  have h5 := h.1
  omega
theorem textXs_take {x : LX} {i : Nat} (hi : i < x.kids.length) : textXs x.kind (x.kids.take (i + 1)) = textXs x.kind (x.kids.take i) ++ [pText x.kind x.kids[i]] := by
  rw [textXs_map, textXs_map, List.take_add_one, List.getElem?_eq_getElem hi, List.map_append]
  rfl
end Go.Ab
namespace Go.Ab
open Go Go.RowKit Go.Proofs
set_option maxRecDepth 10000
set_option maxHeartbeats 4000000
inductive Tk where
  | w (b : List UInt8)
  | p (c : UInt8)
def pun (c : UInt8) : Prop := c = 40 ∨ c = 41 ∨ c = 43
inductive Lay : List Tk → List UInt8 → Prop where
  | nil : Lay [] []
  | bl {l : List Tk} {t : List UInt8} (h : Lay l t) : Lay l (32 :: t)
  | p {c : UInt8} {l : List Tk} {t : List UInt8} (hc : pun c) (h : Lay l t) : Lay (.p c :: l) (c :: t)
  | w {b : List UInt8} {l : List Tk} {t : List UInt8} (hb : b ≠ []) (ha : b.all letter = true) (ht : ∀ x r, t = x :: r → letter x = false) (h : Lay l t) : Lay (.w b :: l) (b ++ t)
def At (s : List UInt8) (a : Nat) (l : List Tk) : Prop := a ≤ s.length ∧ Lay l (s.drop a)
def Tk.len : Tk → Nat
  | .w b => b.length
  | .p _ => 1
def wWith : List UInt8 := [119, 105, 116, 104]
def wAnd : List UInt8 := [97, 110, 100]
def wOr : List UInt8 := [111, 114]
def Reads (fo : List Tk → Prop) (f : List UInt8 → Nat → Res) (x : LX) (l : List Tk) : Prop :=
  ∀ s a rest, At s a (l ++ rest) → fo rest → ∃ b, f s a = ⟨x, b, 0⟩ ∧ At s b rest
def par1 (l : List Tk) : List Tk := .p 40 :: (l ++ [.p 41])
def joinK (w : List UInt8) : List (List Tk) → List Tk
  | [] => []
  | [x] => x
  | x :: y :: r => x ++ .w w :: joinK w (y :: r)
def ReadsE (fo : List Tk → Prop) (f : List UInt8 → Nat → Res) (x : LX) (l : List Tk) : Prop :=
  ∀ s a rest, At s a (l ++ rest) → fo rest → ∃ b, f s a = ⟨x, b, 0⟩ ∧ At s b rest ∧ skipN s b = b
theorem ReadsE.r {fo : List Tk → Prop} {f : List UInt8 → Nat → Res} {x : LX} {l : List Tk} (h : ReadsE fo f x l) : Reads fo f x l := fun s a rest h1 h2 => by
  obtain ⟨b, h3, h4, _⟩ := h s a rest h1 h2
  exact ⟨b, h3, h4⟩
end Go.Ab
namespace Go.Ab
open Go Go.RowKit Go.Proofs
set_option maxRecDepth 10000
set_option maxHeartbeats 8000000
end Go.Ab
