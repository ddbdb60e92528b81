/-
  One text of the proof (own work): contracts of functions of the program, by the abstract machine.
-/
import Derived.Test.YtlfmbcjjojedgaaGreatDoorX19
import Derived.Test.YtlfmbcjjojedgaaGreatDoorX29
set_option linter.unusedVariables false
set_option linter.unusedSimpArgs false
namespace Go.Ab
open Go Go.RowKit Go.Proofs
set_option maxRecDepth 10000
set_option maxHeartbeats 8000000
def pFin (kind : Int) (acc : List LX) (r : RS) : LX × RS := if acc.length == 1 then (acc.headD x0, r) else (.mk kind [] [] acc, r)
def pLoop (part : RS → LX × RS) (s : List UInt8) (kind : Int) (word : List UInt8) : Nat → List LX → RS → LX × RS
  | 0, _, r => (x0, r)
  | n + 1, acc, r =>
    if r.e == 0 then
      if (pPeek s r).1 == word then pLoop part s kind word n (acc ++ [(part (pTake (pPeek s r).2 word.length)).1]) (part (pTake (pPeek s r).2 word.length)).2
      else pFin kind acc (pPeek s r).2
    else pFin kind acc r
def pList (part : RS → LX × RS) (s : List UInt8) (kind : Int) (word : List UInt8) (r : RS) : LX × RS := pLoop part s kind word (s.length + 1) [(part r).1] (part r).2
structure PIn (s : List UInt8) (d : Nat) (r : RS) : Prop where
  sl : s.length ≤ 1024
  le : r.at' ≤ s.length
  e : r.e = 0
  d24 : d ≤ 24
  op : r.op = 24 - d
structure POut (s : List UInt8) (d : Nat) (r r' : RS) : Prop where
  mono : r.at' ≤ r'.at'
  le : r'.at' ≤ s.length + d
  ok : r'.e = 0 → r'.at' ≤ s.length
  op : r'.op = r.op
def PartOK (s : List UInt8) (d : Nat) (part : RS → LX × RS) : Prop := ∀ r, PIn s d r → POut s d r (part r).2
theorem loop_out {s : List UInt8} {d : Nat} {part : RS → LX × RS} {kind : Int} {word : List UInt8} (hw : word ≠ []) (hp : PartOK s d part) (hs : s.length ≤ 1024) (hd : d ≤ 24) (r0 : RS) (h0 : r0.op = 24 - d) :
    ∀ (n : Nat) (acc : List LX) (r : RS), POut s d r0 r → POut s d r0 (pLoop part s kind word n acc r).2 := by
  intro n
  induction n with
  | zero => intro acc r h; exact h
  | succ n ih =>
    intro acc r h
    have fin : ∀ r1, POut s d r0 r1 → POut s d r0 (pFin kind acc r1).2 := fun r1 h1 => by unfold pFin; split <;> exact h1
    rw [pLoop]
    split
    · rename_i he
      have he : r.e = 0 := by simpa using he
      have hle := h.ok he
      have hpk := peek_ok (s := s) (r := r) (.inl hle)
      have hm := skipN_mono s r.at'
      have hat := hpk.at1
      have hop := hpk.op1
      split
      · rename_i ht
        have ht := eq_of_beq ht
        have htl := hpk.tl (by rw [ht]; exact hw)
        rw [ht] at htl
        have hin : PIn s d (pTake (pPeek s r).2 word.length) := ⟨hs, htl.2, htl.1, hd, by show (pPeek s r).2.op = _; rw [hop, h.op, h0]⟩
        have ho := hp _ hin
        refine ih _ _ ⟨?_, ho.le, ho.ok, by rw [ho.op]; show (pPeek s r).2.op = _; rw [hop, h.op]⟩
        have h2 := ho.mono
        have h3 : (pTake (pPeek s r).2 word.length).at' = (pPeek s r).2.at' + word.length := rfl
        have := h.mono
        omega
      · exact fin _ ⟨by have := h.mono; omega, by have := h.le; omega, fun _ => by omega, by rw [hop, h.op]⟩
    · exact fin _ h
theorem list_out {s : List UInt8} {d : Nat} {part : RS → LX × RS} {kind : Int} {word : List UInt8} (hw : word ≠ []) (hp : PartOK s d part) : PartOK s d (pList part s kind word) := fun r hr =>
  loop_out hw hp hr.sl hr.d24 r hr.op _ _ _ (hp r hr)
def pAtomF (s : List UInt8) (inner : Option (RS → LX × RS)) (r : RS) : LX × RS :=
  if (pPeek s r).1 == [40] then
    match inner with
    | none => (x0, pFail (pPeek s r).2 11 (pPeek s r).2.at')
    | some f =>
      let q := f { pTake (pPeek s r).2 1 with op := (pPeek s r).2.op + 1 }
      let p := pPeek s q.2
      let r5 := if p.1 != [41] then pFail p.2 4 p.2.at' else p.2
      (q.1, { pTake r5 1 with op := r5.op - 1 })
  else
    let m := pName s (pPeek s r).2
    let p := pPeek s m.2
    if p.1 == [43] then (.mk 1 m.1 [] [], pTake p.2 1)
    else if p.1 == [119, 105, 116, 104] then
      let x := pName s (pTake p.2 4)
      (.mk 0 m.1 x.1 [], x.2)
    else (.mk 0 m.1 [] [], p.2)
def pAtomD (s : List UInt8) : Nat → RS → LX × RS
  | 0 => pAtomF s none
  | d + 1 => pAtomF s (some (pList (pList (pAtomD s d) s 2 [97, 110, 100]) s 3 [111, 114]))
def pAndsD (s : List UInt8) (d : Nat) : RS → LX × RS := pList (pAtomD s d) s 2 [97, 110, 100]
def pOrsD (s : List UInt8) (d : Nat) : RS → LX × RS := pList (pAndsD s d) s 3 [111, 114]
theorem fail_at (r : RS) (e a : Int) : (pFail r e a).at' = r.at' ∧ (pFail r e a).op = r.op ∧ ((pFail r e a).e = 0 → r.e = 0 ∧ e = 0) := by
  unfold pFail
  split
  · rename_i h; exact ⟨rfl, rfl, fun he => ⟨by simpa using h, he⟩⟩
  · rename_i h; exact ⟨rfl, rfl, fun he => by rw [he] at h; exact absurd rfl h⟩
structure NameOK (s : List UInt8) (r r' : RS) : Prop where
  mono : skipN s r.at' ≤ r'.at'
  le : r'.at' ≤ max (skipN s r.at') s.length
  ok : r'.e = 0 → r'.at' ≤ s.length ∧ r.e = 0
  op : r'.op = r.op
theorem name_ok {s : List UInt8} {r : RS} (hr : r.at' ≤ s.length ∨ r.e ≠ 0) : NameOK s r (pName s r).2 ∧ (pName s r).1.length ≤ s.length := by
  have hp := peek_ok hr
  have hm := skipN_mono s r.at'
  have h1 := hp.at1
  have h2 := hp.op1
  have htl := hp.tl
  unfold pName
  split
  · have hf := fail_at (pPeek s r).2 4 (pPeek s r).2.at'
    exact ⟨⟨by rw [hf.1, h1]; exact Nat.le_refl _, by rw [hf.1, h1]; omega, fun he => absurd (hf.2.2 he).2 (by decide), by rw [hf.2.1, h2]⟩, Nat.zero_le _⟩
  · rename_i hne
    have hne' : (pPeek s r).1 ≠ [] := by
      intro h
      rw [h] at hne
      simp at hne
    have h4 := htl hne'
    split
    · have hf := fail_at (pPeek s r).2 2 (pPeek s r).2.at'
      exact ⟨⟨by rw [hf.1, h1]; exact Nat.le_refl _, by rw [hf.1, h1]; omega, fun he => absurd (hf.2.2 he).2 (by decide), by rw [hf.2.1, h2]⟩, Nat.zero_le _⟩
    · refine ⟨⟨by show skipN s r.at' ≤ (pPeek s r).2.at' + _; omega, by show (pPeek s r).2.at' + _ ≤ _; omega, fun _ => ⟨by show (pPeek s r).2.at' + _ ≤ _; omega, (hp.ok h4.1).1⟩, h2⟩, by show (pPeek s r).1.length ≤ _; omega⟩
theorem atomF_out {s : List UInt8} {d : Nat} {inner : Option (RS → LX × RS)} (hin : ∀ f, inner = some f → ∃ d', d = d' + 1 ∧ PartOK s d' f) : PartOK s d (pAtomF s inner) := by
  intro r hr
  obtain ⟨hs, hle, he, hd24, hop⟩ := hr
  have hp := peek_ok (s := s) (r := r) (.inl hle)
  have hm := skipN_mono s r.at'
  have h1 := hp.at1
  have h2 := hp.op1
  have htl := hp.tl
  unfold pAtomF
  generalize pPeek s r = P at *
  obtain ⟨t, r1⟩ := P
  dsimp only at hp h1 h2 htl ⊢
  split
  · rename_i ht
    have ht := eq_of_beq ht
    subst ht
    obtain ⟨he1, hl1⟩ := htl (by simp)
    simp only [List.length_cons, List.length_nil] at hl1
    cases inner with
    | none =>
      have hf := fail_at r1 11 r1.at'
      exact ⟨by rw [hf.1]; omega, by rw [hf.1]; omega, fun h => absurd (hf.2.2 h).2 (by decide), by rw [hf.2.1, h2]⟩
    | some f =>
      obtain ⟨d', rfl, hf⟩ := hin f rfl
      have ho := hf { pTake r1 1 with op := r1.op + 1 } ⟨hs, by show r1.at' + 1 ≤ _; omega, he1, by omega, by show r1.op + 1 = _; rw [h2, hop]; omega⟩
      dsimp only
      generalize f { pTake r1 1 with op := r1.op + 1 } = q at *
      have hmo := ho.mono
      have hleo := ho.le
      have hoko := ho.ok
      have hopo := ho.op
      have hmo : r1.at' + 1 ≤ q.2.at' := hmo
      have hopo : q.2.op = r1.op + 1 := hopo
      have hor : q.2.at' ≤ s.length ∨ q.2.e ≠ 0 := by
        by_cases h : q.2.e = 0
        · exact .inl (hoko h)
        · exact .inr h
      have hq := peek_ok hor
      have hqm := skipN_mono s q.2.at'
      have hq1 := hq.at1
      have hq2 := hq.op1
      have hqt := hq.tl
      generalize pPeek s q.2 = p at *
      have hmax : max q.2.at' s.length ≤ s.length + d' := by omega
      by_cases hc : p.1 = [41]
      · have hcb : (p.1 != [41]) = false := by rw [hc]; rfl
        rw [hcb]
        obtain ⟨h5, h6⟩ := hqt (by rw [hc]; simp)
        rw [hc] at h6
        simp only [List.length_cons, List.length_nil] at h6
        exact ⟨by show r.at' ≤ p.2.at' + 1; omega, by show p.2.at' + 1 ≤ _; omega, fun _ => by show p.2.at' + 1 ≤ _; omega, by show p.2.op - 1 = _; rw [hq2, hopo, h2]; omega⟩
      · have hcb : (p.1 != [41]) = true := by simp [bne, hc]
        rw [hcb]
        have hff := fail_at p.2 4 p.2.at'
        refine ⟨?_, ?_, fun h => absurd (hff.2.2 h).2 (by decide), ?_⟩
        · show r.at' ≤ (pFail p.2 4 p.2.at').at' + 1
          rw [hff.1]; omega
        · show (pFail p.2 4 p.2.at').at' + 1 ≤ _
          rw [hff.1]; omega
        · show (pFail p.2 4 p.2.at').op - 1 = _
          rw [hff.2.1, hq2, hopo, h2]; omega
  · have hor1 : r1.at' ≤ s.length ∨ r1.e ≠ 0 := .inl (by omega)
    obtain ⟨hn, _⟩ := name_ok hor1
    have hm1 := skipN_mono s r1.at'
    have hn1 := hn.mono
    have hn2 := hn.le
    have hn3 := hn.ok
    have hn4 := hn.op
    generalize pName s r1 = m at *
    have hor2 : m.2.at' ≤ s.length ∨ m.2.e ≠ 0 := by
      by_cases h : m.2.e = 0
      · exact .inl (hn3 h).1
      · exact .inr h
    have hq := peek_ok hor2
    have hqm := skipN_mono s m.2.at'
    have hq1 := hq.at1
    have hq2 := hq.op1
    have hqt := hq.tl
    generalize pPeek s m.2 = p at *
    split
    · rename_i hc
      have hc := eq_of_beq hc
      obtain ⟨h5, h6⟩ := hqt (by rw [hc]; simp)
      rw [hc] at h6
      simp only [List.length_cons, List.length_nil] at h6
      exact ⟨by show r.at' ≤ p.2.at' + 1; omega, by show p.2.at' + 1 ≤ _; omega, fun _ => by show p.2.at' + 1 ≤ _; omega, by show p.2.op = _; rw [hq2, hn4, h2]⟩
    · split
      · rename_i hc
        have hc := eq_of_beq hc
        obtain ⟨h5, h6⟩ := hqt (by rw [hc]; simp)
        rw [hc] at h6
        simp only [List.length_cons, List.length_nil] at h6
        obtain ⟨hx, _⟩ := name_ok (s := s) (r := pTake p.2 4) (.inl (by show p.2.at' + 4 ≤ _; omega))
        have hx1 := hx.mono
        have hx2 := hx.le
        have hx3 := hx.ok
        have hx4 := hx.op
        have ha : (pTake p.2 4).at' = p.2.at' + 4 := rfl
        have hb : (pTake p.2 4).op = p.2.op := rfl
        rw [ha] at hx1 hx2
        have hmm := skipN_mono s (p.2.at' + 4)
        exact ⟨by show r.at' ≤ (pName s (pTake p.2 4)).2.at'; omega, by show (pName s (pTake p.2 4)).2.at' ≤ _; omega, fun h => (hx3 h).1, by show (pName s (pTake p.2 4)).2.op = _; rw [hx4, hb, hq2, hn4, h2]⟩
      · refine ⟨by show r.at' ≤ p.2.at'; omega, by show p.2.at' ≤ _; omega, fun h => ?_, by show p.2.op = _; rw [hq2, hn4, h2]⟩
        show p.2.at' ≤ _
        have := (hq.ok h).1
        have := (hn3 this).1
        omega
theorem atom_out {s : List UInt8} : ∀ d, PartOK s d (pAtomD s d)
  | 0 => atomF_out (fun f h => by cases h)
  | d + 1 => atomF_out (fun f h => by cases h; exact ⟨d, rfl, list_out (by simp) (list_out (by simp) (atom_out d))⟩)
theorem ands_out {s : List UInt8} (d : Nat) : PartOK s d (pAndsD s d) := list_out (by simp) (atom_out d)
theorem ors_out {s : List UInt8} (d : Nat) : PartOK s d (pOrsD s d) := list_out (by simp) (ands_out d)
noncomputable def g_pands (d : Nat) := locSpec (fun _ : List UInt8 × RS => [.ptr 0 0, .data (i64 2), .data (.str [97, 110, 100]), .bnd 89 [.ptr 0 0]]) (fun x => [oRS x.1 x.2]) (fun x => PIn x.1 d x.2) (fun x => (.data (eX (pList (pAtomD x.1 d) x.1 2 [97, 110, 100] x.2).1), [oRS x.1 (pList (pAtomD x.1 d) x.1 2 [97, 110, 100] x.2).2]))
theorem g_pands_eq (d : Nat) (s : List UInt8) (r : RS) (hd : PIn s d r) : g_pands d [.ptr 0 0, .data (.int .i64 2), .data (.str [97, 110, 100]), .bnd 89 [.ptr 0 0]] [oRS s r] = some (.data (eX (pList (pAtomD s d) s 2 [97, 110, 100] r).1), [oRS s (pList (pAtomD s d) s 2 [97, 110, 100] r).2]) := locSpec_eq (x := (s, r)) hd fun y _ h2 => by
  obtain ⟨y1, y2⟩ := y
  simp only [List.cons.injEq, and_true] at h2
  obtain ⟨rfl, rfl⟩ := oRS_inj h2
  rfl
theorem f_pands_ok (d : Nat) (hd24 : d ≤ 24) (gp : List AV → List Obj → Option (AV × List Obj)) (ih : LocOK Tryz.prog 89 gp) (hpart : ∀ s, s.length ≤ 1024 → PartOK s d (pAtomD s d))
    (cp : ∀ k n tab s r, PIn s d r → callLoc k ⟨(0, oRS s r) ::  tab, n⟩ gp [.ptr 0 0] = some (.data (eX (pAtomD s d r).1), ⟨(0, oRS s (pAtomD s d r).2) ::  tab, k⟩)) : LocOK Tryz.prog 87 (g_pands d) := by
  have hΓ := (Γq ih (Γq f_peek_ok (Γq f_take_ok (Γn))))
  refine loc_enc (n := 45) (rs := [.cell 8 33]) Tryz.func87 (by kernel_rfl) rfl (by kernel_rfl) (by kernel_rfl) ?_
  rintro ⟨s, ⟨a0, o, e, h⟩⟩ hI k hz0
  dsimp only [oRS] at hz0 ⊢
  simp only [List.length_cons, List.length_nil] at hz0
  dsimp only at hI
  obtain ⟨hs, ha, he, _, ho⟩ := hI
  dsimp only at ha he ho
  subst he
  have hpart := hpart s hs
  have cp0 := fun k n tab => cp k n tab s ⟨a0, o, 0, h⟩ ⟨hs, ha, rfl, hd24, ho⟩
  simp only [oRS] at cp0
  have ho1 := hpart ⟨a0, o, 0, h⟩ ⟨hs, ha, rfl, hd24, ho⟩
  generalize hR : pList (pAtomD s d) s 2 [97, 110, 100] ⟨a0, o, 0, h⟩ = R
  unfold pList at hR
  generalize pAtomD s d ⟨a0, o, 0, h⟩ = P0 at *
  obtain ⟨y0, r1⟩ := P0
  dsimp only at ho1 hR cp0
  have h6 : [y0].map eX = [.agg [.int .i64 y0.kind, .str y0.name, .str y0.exc, .list (y0.kids.map eX)]] := by rw [List.map_cons, List.map_nil, eX_eq]
  rw [start_frameA (by simp)]; simp only [enumA, enumO, List.length_cons, List.length_nil, Nat.reduceAdd, go_sem]
  repeat (first
    | (apply axJ; (focus ((with_reducible constructor) <;> rfl)))
    | (apply awT mixedOK hΓ (by kernel_rfl); (simp (disch := omega) only [go_sem, ↓reduceIte, ↓lk, ↓ty_build33, dk, ↓cp0] <;> with_reducible rfl))
    | ((first | apply awR hΓ | apply awG | apply awH mixedOK hΓ rfl (by kernel_rfl) | apply ovE rfl); (simp (disch := omega) only [go_sem, ↓reduceIte, ↓lk, ↓ty_build33, dk, ↓cp0] <;> with_reducible rfl); exact trivial)
    | rfl)
  refine awp_loop_at (X := Nat × List LX × RS) (fun y => (frame 45 [(0, .ptr 0 0), (2, .data (.str [97, 110, 100])), (3, .bnd 89 [.ptr 0 0]), (8, .ptr 1 0), (9, .ptr 7 0)]))
    (fun y => [(0, .box [.data (.str s), .data (.int .i64 y.2.2.at'), .data (.int .i64 y.2.2.op), .data (.int .i64 y.2.2.e), .data (.int .i64 y.2.2.here)]), (1, .box [.data (.int .i64 0), .data (.str []), .data (.str []), .nils]), (7, .box [.data (.int .i64 2), .data (.str []), .data (.str []), .row 5 y.2.1.length]), (5, .row 33 4 (y.2.1.map eX))]) 12
    (fun y => y.2.1 ≠ [] ∧ y.2.1.length ≤ y.2.2.at' + 1 ∧ POut s d ⟨a0, o, 0, h⟩ y.2.2 ∧ (1 ≤ y.1 ∧ s.length < y.1 + y.2.2.at') ∧ pLoop (pAtomD s d) s 2 [97, 110, 100] y.1 y.2.1 y.2.2 = R) (fun y => y.1) (s.length + 1, [y0], r1) ⟨by simp, by simp, ho1, ⟨by dsimp only; omega, by dsimp only; omega⟩, hR⟩ (by rw [hz0]; exact Weak.ofF (by omega) (by (simp [ConvF, lookV, Conv, ints, h6]; done)) (by (simp (disch := omega) only [TabSub, look, if_pos, if_neg, Obj.refsOK, refsOKs, AV.refsOK, decide_eq_true_eq, Bool.and_true, Bool.and_self, h6] ) <;> ((repeat' apply And.intro) <;> first | exact True.intro | omega | (simp; done) | rfl)) (by simp (disch := omega) only [refsF, refsOKs, AV.refsOK, Bool.and_true, Bool.and_self, decide_eq_true_eq, Bool.true_and, Bool.and_eq_true]; (repeat' apply And.intro) <;> omega)) ?_
  rintro ⟨n, acc, ⟨a, o1, e1, h1⟩⟩ ⟨hne, hal, hpo, ⟨hn1, hn⟩, hL⟩
  dsimp only at hne hal hn1 hn hL hpo ⊢
  have hpole := hpo.le
  have hpoop := hpo.op
  have hpook := hpo.ok
  dsimp only at hpole hpoop hpook
  cases n with
  | zero => omega
  | succ n =>
    rw [pLoop] at hL
    dsimp only at hL
    by_cases hee : e1 = 0
    · subst hee
      have hle := hpook rfl
      have h0b : ((0 : Int) == 0) = true := rfl
      have hpk := peek_ok (s := s) (r := ⟨a, o1, 0, h1⟩) (.inl hle)
      have cpk := fun k n tab => call_peek k n tab s a o1 0 h1 ⟨by omega, by dsimp only; omega, .inl hle⟩
      generalize pPeek s ⟨a, o1, 0, h1⟩ = P at *
      obtain ⟨t, ⟨a2, o2, e2, h2⟩⟩ := P
      dsimp only at hpk hL cpk
      have hm := skipN_mono s a
      have hat := hpk.at1
      have hop := hpk.op1
      have htl := hpk.tl
      dsimp only at hat hop htl
      rw [h0b] at hL
      simp only [if_true] at hL
      cases htw : (t == [97, 110, 100]) with
      | true =>
        rw [htw] at hL
        simp only [if_true] at hL
        have htt := eq_of_beq htw
        obtain ⟨hz2, hlen⟩ := htl (by rw [htt]; simp)
        rw [htt] at hlen
        simp only [List.length_cons, List.length_nil] at hlen
        subst hz2
        have ctk := fun k n tab => call_take k n tab s a2 o2 0 h2 [97, 110, 100] (by omega) (by simp)
        have hin : PIn s d (pTake ⟨a2, o2, 0, h2⟩ ([97, 110, 100] : List UInt8).length) := ⟨hs, hlen, rfl, hd24, by show o2 = _; rw [hop, hpoop, ho]⟩
        have cp1 := fun k n tab => cp k n tab s _ hin
        have hpo2 := hpart _ hin
        simp only [pTake, oRS, List.length_cons, List.length_nil, Nat.reduceAdd] at ctk cp1 hpo2 hL
        generalize pAtomD s d _ = P2 at *
        obtain ⟨y2, r2⟩ := P2
        dsimp only at hL cp1 hpo2
        have hm2 := hpo2.mono
        dsimp only at hm2
        rw [hz0]
        (repeat (first | (apply axJ; (focus ((with_reducible constructor) <;> rfl))) | ((first | apply awR hΓ | apply awG | apply ovE rfl); (simp (disch := omega) only [go_sem, ↓reduceIte, dk, h0b, ↓cpk, htw, ↓ctk] <;> with_reducible rfl); exact trivial) | rfl))
        (apply awp_lane3 (nst := false) (nst' := false) [false, false, false, true, false, true] mixedOK hΓ (n1 := 6) (by kernel_rfl) (by kernel_rfl); (focus (dsimp only [List.take_succ_cons, List.take_zero, Array.toList]; (repeat (first | (apply lane3_loud; (focus rfl); (focus rfl); (simp (disch := omega) only [go_sem, ↓reduceIte, ↓lk, dk, ↓cp1, look_upd] <;> with_reducible rfl); (focus (first | (simp (disch := omega) only [go_sem, ↓reduceIte, ↓lk, dk, ↓cp1, look_upd]; done) | (simp (disch := omega) only [go_sem, ↓reduceIte, ↓lk, dk, ↓cp1, look_upd]; omega)))) | (apply lane3_quiet; (simp (disch := omega) only [go_sem, ↓reduceIte, ↓lk, dk, ↓cp1, look_upd] <;> with_reducible rfl)))); exact lane3_nil)); (focus ((repeat' (first | exact True.intro | refine And.intro ?_ ?_)); all_goals (first | (left; decide) | (left; rfl) | (right; simp (disch := omega) only [go_sem, ↓reduceIte, ↓lk, dk, ↓cp1, look_upd]; try with_reducible rfl)))); (simp (disch := omega) only [go_sem, ↓reduceIte, ↓lk, dk, ↓cp1, look_upd] <;> with_reducible rfl))
        (repeat (first | (apply axJ; (focus ((with_reducible constructor) <;> rfl))) | ((first | apply awR hΓ | apply awG | apply ovE rfl); (simp (disch := omega) only [go_sem, ↓reduceIte, dk] <;> with_reducible rfl); exact trivial) | rfl))
        have h5 : (acc ++ [y2]).map eX = acc.map eX ++ [.agg [.int .i64 y2.kind, .str y2.name, .str y2.exc, .list (y2.kids.map eX)]] := by rw [List.map_append, List.map_cons, List.map_nil, eX_eq]
        exact ⟨(n, acc ++ [y2], r2), ⟨by simp, by simp; omega, ⟨by show a0 ≤ r2.at'; have := hpo.mono; dsimp only at this; omega, hpo2.le, hpo2.ok, by rw [hpo2.op]; show o2 = o; rw [hop, hpoop]⟩, ⟨by dsimp only; omega, by dsimp only; omega⟩, hL⟩, by dsimp only; omega, Weak.ofF (by omega) (by (simp [ConvF, lookV, Conv, ints, h5]; done)) (by (simp (disch := omega) only [TabSub, look, if_pos, if_neg, Obj.refsOK, refsOKs, AV.refsOK, decide_eq_true_eq, Bool.and_true, Bool.and_self, h5] ) <;> ((repeat' apply And.intro) <;> first | exact True.intro | omega | (simp; done) | rfl)) (by simp (disch := omega) only [refsF, refsOKs, AV.refsOK, Bool.and_true, Bool.and_self, decide_eq_true_eq, Bool.true_and, Bool.and_eq_true]; (repeat' apply And.intro) <;> omega)⟩
      | false =>
        rw [htw] at hL
        simp only [Bool.false_eq_true, if_false] at hL
        unfold pFin at hL
        have hl1 : ((acc.length : Int) == 1) = (acc.length == 1) := by rw [Bool.eq_iff_iff]; simp only [beq_iff_eq]; omega
        rw [hz0]
        cases hab : (acc.length == 1) with
        | true =>
          rw [hab] at hL hl1
          simp only [if_true] at hL
          obtain ⟨y, rfl⟩ : ∃ y, acc = [y] := List.length_eq_one_iff.1 (by simpa using hab)
          simp only [List.headD_cons] at hL
          subst hL
          have h11 : (((1 : Nat) : Int) == 1) = true := rfl
          (repeat (first | (apply axJ; (focus ((with_reducible constructor) <;> rfl))) | ((first | apply awR hΓ | apply awG | apply ovE rfl); (simp (disch := omega) only [go_sem, ↓reduceIte, ↓lk, dk, Int.reduceToNat, List.getElem?_cons_zero, List.getElem?_cons_succ, h0b, ↓cpk, htw, h11] <;> with_reducible rfl); exact trivial) | rfl))
          exact retL_x rfl (by simp (disch := omega) only [go_sem, ↓reduceIte, dk] <;> rfl) (Weak.of (by simp) ⟨rfl, trivial⟩ (by simp [TabSub, oRS, enumO, look, Obj.refsOK, refsOKs, AV.refsOK]) rfl)
        | false =>
          rw [hab] at hL hl1
          simp only [Bool.false_eq_true, if_false] at hL
          subst hL
          (repeat (first | (apply axJ; (focus ((with_reducible constructor) <;> rfl))) | ((first | apply awR hΓ | apply awG | apply ovE rfl); (simp (disch := omega) only [go_sem, ↓reduceIte, ↓lk, dk, Int.reduceToNat, List.getElem?_cons_zero, List.getElem?_cons_succ, h0b, ↓cpk, htw, hl1] <;> with_reducible rfl); exact trivial) | rfl))
          show RetL _ _ _ (.data (.agg [.int .i64 2, .str [], .str [], .list (acc.map eX)])) _ _ _ _
          refine retL_x rfl (x := .agg [.data (.int .i64 2), .data (.str []), .data (.str []), .row 5 acc.length]) (by simp (disch := omega) only [go_sem, ↓reduceIte, dk] <;> rfl) ?_
          exact ((Weak.freeze (o := 5) rfl).trans ((Weak.agg1 (l := [.data (.int .i64 2), .data (.str []), .data (.str []), .row 5 acc.length]) (ds := [.int .i64 2, .str [], .str [], .list (acc.map eX)]) ⟨rfl, rfl, rfl, Or.inr (Or.inr ⟨5, _, rfl, rfl, by simp⟩), trivial⟩ rfl).trans (Weak.of (by simp) ⟨rfl, trivial⟩ (by simp [Heap.set, upd, TabSub, oRS, enumO, look, Obj.refsOK, refsOKs, AV.refsOK]) rfl)))
    · have heb : (e1 == 0) = false := beq_eq_false_iff_ne.2 hee
      rw [heb] at hL
      simp only [Bool.false_eq_true, if_false] at hL
      unfold pFin at hL
      have hl1 : ((acc.length : Int) == 1) = (acc.length == 1) := by rw [Bool.eq_iff_iff]; simp only [beq_iff_eq]; omega
      rw [hz0]
      cases hab : (acc.length == 1) with
      | true =>
        rw [hab] at hL hl1
        simp only [if_true] at hL
        obtain ⟨y, rfl⟩ : ∃ y, acc = [y] := List.length_eq_one_iff.1 (by simpa using hab)
        simp only [List.headD_cons] at hL
        subst hL
        have h11 : (((1 : Nat) : Int) == 1) = true := rfl
        (repeat (first | (apply axJ; (focus ((with_reducible constructor) <;> rfl))) | ((first | apply awR hΓ | apply awG | apply ovE rfl); (simp (disch := omega) only [go_sem, ↓reduceIte, ↓lk, dk, Int.reduceToNat, List.getElem?_cons_zero, List.getElem?_cons_succ, heb, h11] <;> with_reducible rfl); exact trivial) | rfl))
        exact retL_x rfl (by simp (disch := omega) only [go_sem, ↓reduceIte, dk] <;> rfl) (Weak.of (by simp) ⟨rfl, trivial⟩ (by simp [TabSub, oRS, enumO, look, Obj.refsOK, refsOKs, AV.refsOK]) rfl)
      | false =>
        rw [hab] at hL hl1
        simp only [Bool.false_eq_true, if_false] at hL
        subst hL
        (repeat (first | (apply axJ; (focus ((with_reducible constructor) <;> rfl))) | ((first | apply awR hΓ | apply awG | apply ovE rfl); (simp (disch := omega) only [go_sem, ↓reduceIte, ↓lk, dk, Int.reduceToNat, List.getElem?_cons_zero, List.getElem?_cons_succ, heb, hl1] <;> with_reducible rfl); exact trivial) | rfl))
        show RetL _ _ _ (.data (.agg [.int .i64 2, .str [], .str [], .list (acc.map eX)])) _ _ _ _
        refine retL_x rfl (x := .agg [.data (.int .i64 2), .data (.str []), .data (.str []), .row 5 acc.length]) (by simp (disch := omega) only [go_sem, ↓reduceIte, dk] <;> rfl) ?_
        exact ((Weak.freeze (o := 5) rfl).trans ((Weak.agg1 (l := [.data (.int .i64 2), .data (.str []), .data (.str []), .row 5 acc.length]) (ds := [.int .i64 2, .str [], .str [], .list (acc.map eX)]) ⟨rfl, rfl, rfl, Or.inr (Or.inr ⟨5, _, rfl, rfl, by simp⟩), trivial⟩ rfl).trans (Weak.of (by simp) ⟨rfl, trivial⟩ (by simp [Heap.set, upd, TabSub, oRS, enumO, look, Obj.refsOK, refsOKs, AV.refsOK]) rfl)))
noncomputable def g_pcloP (d : Nat) := locSpec (fun _ : List UInt8 × RS => [.ptr 0 0]) (fun x => [.box [.ptr 1 0], oRS x.1 x.2]) (fun x => PIn x.1 d x.2) (fun x => (.data (eX (pAndsD x.1 d x.2).1), [.box [.ptr 1 0], oRS x.1 (pAndsD x.1 d x.2).2]))
theorem g_pcloP_eq (d : Nat) (s : List UInt8) (r : RS) (hd : PIn s d r) : g_pcloP d [.ptr 0 0] [.box [.ptr 1 0], oRS s r] = some (.data (eX (pAndsD s d r).1), [.box [.ptr 1 0], oRS s (pAndsD s d r).2]) := locSpec_eq (x := (s, r)) hd fun y _ h2 => by
  obtain ⟨y1, y2⟩ := y
  simp only [List.cons.injEq, and_true, true_and] at h2
  obtain ⟨rfl, rfl⟩ := oRS_inj h2
  rfl
theorem f_pcloP_ok (d : Nat) (ih : LocOK Tryz.prog 87 (g_pands d)) : LocOK Tryz.prog 88 (g_pcloP d) := by
  have hΓ := (Γq ih (Γn))
  refine loc_enc (n := 6) (rs := [.cell 1 33]) Tryz.func88 (by kernel_rfl) rfl (by kernel_rfl) (by kernel_rfl) ?_
  rintro ⟨s, ⟨a, o, e, h⟩⟩ hI k hz0
  dsimp only [oRS] at hz0 hI ⊢
  simp only [List.length_cons, List.length_nil] at hz0
  have c1 : ∀ (k n : Nat) (tab : List (Nat × Obj)), callLoc k ⟨(0, .box [.ptr 1 0]) :: (1, .box [.data (.str s), .data (.int .i64 a), .data (.int .i64 o), .data (.int .i64 e), .data (.int .i64 h)]) :: tab, n⟩ (g_pands d) [.ptr 1 0, .data (.int .i64 2), .data (.str [97, 110, 100]), .bnd 89 [.ptr 1 0]] = some (.data (eX (pList (pAtomD s d) s 2 [97, 110, 100] ⟨a, o, e, h⟩).1), ⟨(0, .box [.ptr 1 0]) :: (1, oRS s (pList (pAtomD s d) s 2 [97, 110, 100] ⟨a, o, e, h⟩).2) :: tab, k⟩) := fun k n tab => (callLoc_of (fp := [1]) rfl rfl rfl (g_pands_eq d s ⟨a, o, e, h⟩ hI) (Nat.le_refl _)).trans rfl
  unfold pAndsD
  generalize pList (pAtomD s d) s 2 [97, 110, 100] ⟨a, o, e, h⟩ = R at *
  obtain ⟨y, ⟨a', o', e', h'⟩⟩ := R
  dsimp only at c1 ⊢
  rw [start_frameA (by simp)]; simp only [enumA, enumO, List.length_cons, List.length_nil, Nat.reduceAdd, go_sem]
  (repeat (first | (apply axJ; (focus ((with_reducible constructor) <;> rfl))) | ((first | apply awR hΓ | apply awG | apply ovE rfl); (simp (disch := omega) only [go_sem, ↓reduceIte, ↓lk, dk, ↓c1] <;> with_reducible rfl); exact trivial) | rfl))
  exact retL_x rfl (by simp (disch := omega) only [go_sem, ↓reduceIte, dk] <;> rfl) (Weak.of (by simp) ⟨rfl, trivial⟩ (by simp [TabSub, oRS, enumO, look, Obj.refsOK, refsOKs, AV.refsOK]) rfl)
theorem call_pcloP (d k n : Nat) (tab : List (Nat × Obj)) (s : List UInt8) (r : RS) (hd : PIn s d r) : callLoc k ⟨(0, oRS s r) :: (1, .box [.ptr 0 0]) :: tab, n⟩ (g_pcloP d) [.ptr 1 0] = some (.data (eX (pAndsD s d r).1), ⟨(0, oRS s (pAndsD s d r).2) :: (1, .box [.ptr 0 0]) :: tab, k⟩) :=
  (callLoc_of (fp := [1, 0]) rfl rfl rfl (g_pcloP_eq d s r hd) (Nat.le_refl _)).trans rfl
noncomputable def g_pcloA (d : Nat) := locSpec (fun _ : List UInt8 × RS => [.ptr 0 0]) (fun x => [.box [.ptr 1 0], oRS x.1 x.2]) (fun x => PIn x.1 d x.2) (fun x => (.data (eX (pAndsD x.1 d x.2).1), [.box [.ptr 1 0], oRS x.1 (pAndsD x.1 d x.2).2]))
theorem g_pcloA_eq (d : Nat) (s : List UInt8) (r : RS) (hd : PIn s d r) : g_pcloA d [.ptr 0 0] [.box [.ptr 1 0], oRS s r] = some (.data (eX (pAndsD s d r).1), [.box [.ptr 1 0], oRS s (pAndsD s d r).2]) := locSpec_eq (x := (s, r)) hd fun y _ h2 => by
  obtain ⟨y1, y2⟩ := y
  simp only [List.cons.injEq, and_true, true_and] at h2
  obtain ⟨rfl, rfl⟩ := oRS_inj h2
  rfl
theorem f_pcloA_ok (d : Nat) (ih : LocOK Tryz.prog 87 (g_pands d)) : LocOK Tryz.prog 118 (g_pcloA d) := by
  have hΓ := (Γq ih (Γn))
  refine loc_enc (n := 6) (rs := [.cell 1 33]) Tryz.func118 (by kernel_rfl) rfl (by kernel_rfl) (by kernel_rfl) ?_
  rintro ⟨s, ⟨a, o, e, h⟩⟩ hI k hz0
  dsimp only [oRS] at hz0 hI ⊢
  simp only [List.length_cons, List.length_nil] at hz0
  have c1 : ∀ (k n : Nat) (tab : List (Nat × Obj)), callLoc k ⟨(0, .box [.ptr 1 0]) :: (1, .box [.data (.str s), .data (.int .i64 a), .data (.int .i64 o), .data (.int .i64 e), .data (.int .i64 h)]) :: tab, n⟩ (g_pands d) [.ptr 1 0, .data (.int .i64 2), .data (.str [97, 110, 100]), .bnd 89 [.ptr 1 0]] = some (.data (eX (pList (pAtomD s d) s 2 [97, 110, 100] ⟨a, o, e, h⟩).1), ⟨(0, .box [.ptr 1 0]) :: (1, oRS s (pList (pAtomD s d) s 2 [97, 110, 100] ⟨a, o, e, h⟩).2) :: tab, k⟩) := fun k n tab => (callLoc_of (fp := [1]) rfl rfl rfl (g_pands_eq d s ⟨a, o, e, h⟩ hI) (Nat.le_refl _)).trans rfl
  unfold pAndsD
  generalize pList (pAtomD s d) s 2 [97, 110, 100] ⟨a, o, e, h⟩ = R at *
  obtain ⟨y, ⟨a', o', e', h'⟩⟩ := R
  dsimp only at c1 ⊢
  rw [start_frameA (by simp)]; simp only [enumA, enumO, List.length_cons, List.length_nil, Nat.reduceAdd, go_sem]
  (repeat (first | (apply axJ; (focus ((with_reducible constructor) <;> rfl))) | ((first | apply awR hΓ | apply awG | apply ovE rfl); (simp (disch := omega) only [go_sem, ↓reduceIte, ↓lk, dk, ↓c1] <;> with_reducible rfl); exact trivial) | rfl))
  exact retL_x rfl (by simp (disch := omega) only [go_sem, ↓reduceIte, dk] <;> rfl) (Weak.of (by simp) ⟨rfl, trivial⟩ (by simp [TabSub, oRS, enumO, look, Obj.refsOK, refsOKs, AV.refsOK]) rfl)
theorem call_pcloA (d k n : Nat) (tab : List (Nat × Obj)) (s : List UInt8) (r : RS) (hd : PIn s d r) : callLoc k ⟨(0, oRS s r) :: (1, .box [.ptr 0 0]) :: tab, n⟩ (g_pcloA d) [.ptr 1 0] = some (.data (eX (pAndsD s d r).1), ⟨(0, oRS s (pAndsD s d r).2) :: (1, .box [.ptr 0 0]) :: tab, k⟩) :=
  (callLoc_of (fp := [1, 0]) rfl rfl rfl (g_pcloA_eq d s r hd) (Nat.le_refl _)).trans rfl
noncomputable def g_porsP (d : Nat) := locSpec (fun _ : List UInt8 × RS => [.ptr 0 0, .data (i64 3), .data (.str [111, 114]), .fn 88 [.ptr 1 0]]) (fun x => [oRS x.1 x.2, .box [.ptr 0 0]]) (fun x => PIn x.1 d x.2) (fun x => (.data (eX (pList (pAndsD x.1 d) x.1 3 [111, 114] x.2).1), [oRS x.1 (pList (pAndsD x.1 d) x.1 3 [111, 114] x.2).2, .box [.ptr 0 0]]))
theorem g_porsP_eq (d : Nat) (s : List UInt8) (r : RS) (hd : PIn s d r) : g_porsP d [.ptr 0 0, .data (.int .i64 3), .data (.str [111, 114]), .fn 88 [.ptr 1 0]] [oRS s r, .box [.ptr 0 0]] = some (.data (eX (pList (pAndsD s d) s 3 [111, 114] r).1), [oRS s (pList (pAndsD s d) s 3 [111, 114] r).2, .box [.ptr 0 0]]) := locSpec_eq (x := (s, r)) hd fun y _ h2 => by
  obtain ⟨y1, y2⟩ := y
  simp only [List.cons.injEq, and_true] at h2
  obtain ⟨rfl, rfl⟩ := oRS_inj h2
  rfl
theorem f_porsP_ok (d : Nat) (hd24 : d ≤ 24) (gp : List AV → List Obj → Option (AV × List Obj)) (ih : LocOK Tryz.prog 88 gp) (hpart : ∀ s, s.length ≤ 1024 → PartOK s d (pAndsD s d))
    (cp : ∀ k n tab s r, PIn s d r → callLoc k ⟨(0, oRS s r) :: (1, .box [.ptr 0 0]) :: tab, n⟩ gp [.ptr 1 0] = some (.data (eX (pAndsD s d r).1), ⟨(0, oRS s (pAndsD s d r).2) :: (1, .box [.ptr 0 0]) :: tab, k⟩)) : LocOK Tryz.prog 87 (g_porsP d) := by
  have hΓ := (Γq ih (Γq f_peek_ok (Γq f_take_ok (Γn))))
  refine loc_enc (n := 45) (rs := [.cell 8 33]) Tryz.func87 (by kernel_rfl) rfl (by kernel_rfl) (by kernel_rfl) ?_
  rintro ⟨s, ⟨a0, o, e, h⟩⟩ hI k hz0
  dsimp only [oRS] at hz0 ⊢
  simp only [List.length_cons, List.length_nil] at hz0
  dsimp only at hI
  obtain ⟨hs, ha, he, _, ho⟩ := hI
  dsimp only at ha he ho
  subst he
  have hpart := hpart s hs
  have cp0 := fun k n tab => cp k n tab s ⟨a0, o, 0, h⟩ ⟨hs, ha, rfl, hd24, ho⟩
  simp only [oRS] at cp0
  have ho1 := hpart ⟨a0, o, 0, h⟩ ⟨hs, ha, rfl, hd24, ho⟩
  generalize hR : pList (pAndsD s d) s 3 [111, 114] ⟨a0, o, 0, h⟩ = R
  unfold pList at hR
  generalize pAndsD s d ⟨a0, o, 0, h⟩ = P0 at *
  obtain ⟨y0, r1⟩ := P0
  dsimp only at ho1 hR cp0
  have h6 : [y0].map eX = [.agg [.int .i64 y0.kind, .str y0.name, .str y0.exc, .list (y0.kids.map eX)]] := by rw [List.map_cons, List.map_nil, eX_eq]
  rw [start_frameA (by simp)]; simp only [enumA, enumO, List.length_cons, List.length_nil, Nat.reduceAdd, go_sem]
  repeat (first
    | (apply axJ; (focus ((with_reducible constructor) <;> rfl)))
    | (apply awT mixedOK hΓ (by kernel_rfl); (simp (disch := omega) only [go_sem, ↓reduceIte, ↓lk, ↓ty_build33, dk, ↓cp0] <;> with_reducible rfl))
    | ((first | apply awR hΓ | apply awG | apply awH mixedOK hΓ rfl (by kernel_rfl) | apply ovE rfl); (simp (disch := omega) only [go_sem, ↓reduceIte, ↓lk, ↓ty_build33, dk, ↓cp0] <;> with_reducible rfl); exact trivial)
    | rfl)
  refine awp_loop_at (X := Nat × List LX × RS) (fun y => (frame 45 [(0, .ptr 0 0), (2, .data (.str [111, 114])), (3, .fn 88 [.ptr 1 0]), (8, .ptr 2 0), (9, .ptr 8 0)]))
    (fun y => [(0, .box [.data (.str s), .data (.int .i64 y.2.2.at'), .data (.int .i64 y.2.2.op), .data (.int .i64 y.2.2.e), .data (.int .i64 y.2.2.here)]), (1, .box [.ptr 0 0]), (2, .box [.data (.int .i64 0), .data (.str []), .data (.str []), .nils]), (8, .box [.data (.int .i64 3), .data (.str []), .data (.str []), .row 6 y.2.1.length]), (6, .row 33 4 (y.2.1.map eX))]) 12
    (fun y => y.2.1 ≠ [] ∧ y.2.1.length ≤ y.2.2.at' + 1 ∧ POut s d ⟨a0, o, 0, h⟩ y.2.2 ∧ (1 ≤ y.1 ∧ s.length < y.1 + y.2.2.at') ∧ pLoop (pAndsD s d) s 3 [111, 114] y.1 y.2.1 y.2.2 = R) (fun y => y.1) (s.length + 1, [y0], r1) ⟨by simp, by simp, ho1, ⟨by dsimp only; omega, by dsimp only; omega⟩, hR⟩ (by rw [hz0]; exact Weak.ofF (by omega) (by (simp [ConvF, lookV, Conv, ints, h6]; done)) (by (simp (disch := omega) only [TabSub, look, if_pos, if_neg, Obj.refsOK, refsOKs, AV.refsOK, decide_eq_true_eq, Bool.and_true, Bool.and_self, h6] ) <;> ((repeat' apply And.intro) <;> first | exact True.intro | omega | (simp; done) | rfl)) (by simp (disch := omega) only [refsF, refsOKs, AV.refsOK, Bool.and_true, Bool.and_self, decide_eq_true_eq, Bool.true_and, Bool.and_eq_true]; (repeat' apply And.intro) <;> omega)) ?_
  rintro ⟨n, acc, ⟨a, o1, e1, h1⟩⟩ ⟨hne, hal, hpo, ⟨hn1, hn⟩, hL⟩
  dsimp only at hne hal hn1 hn hL hpo ⊢
  have hpole := hpo.le
  have hpoop := hpo.op
  have hpook := hpo.ok
  dsimp only at hpole hpoop hpook
  cases n with
  | zero => omega
  | succ n =>
    rw [pLoop] at hL
    dsimp only at hL
    by_cases hee : e1 = 0
    · subst hee
      have hle := hpook rfl
      have h0b : ((0 : Int) == 0) = true := rfl
      have hpk := peek_ok (s := s) (r := ⟨a, o1, 0, h1⟩) (.inl hle)
      have cpk := fun k n tab => call_peek k n tab s a o1 0 h1 ⟨by omega, by dsimp only; omega, .inl hle⟩
      generalize pPeek s ⟨a, o1, 0, h1⟩ = P at *
      obtain ⟨t, ⟨a2, o2, e2, h2⟩⟩ := P
      dsimp only at hpk hL cpk
      have hm := skipN_mono s a
      have hat := hpk.at1
      have hop := hpk.op1
      have htl := hpk.tl
      dsimp only at hat hop htl
      rw [h0b] at hL
      simp only [if_true] at hL
      cases htw : (t == [111, 114]) with
      | true =>
        rw [htw] at hL
        simp only [if_true] at hL
        have htt := eq_of_beq htw
        obtain ⟨hz2, hlen⟩ := htl (by rw [htt]; simp)
        rw [htt] at hlen
        simp only [List.length_cons, List.length_nil] at hlen
        subst hz2
        have ctk := fun k n tab => call_take k n tab s a2 o2 0 h2 [111, 114] (by omega) (by simp)
        have hin : PIn s d (pTake ⟨a2, o2, 0, h2⟩ ([111, 114] : List UInt8).length) := ⟨hs, hlen, rfl, hd24, by show o2 = _; rw [hop, hpoop, ho]⟩
        have cp1 := fun k n tab => cp k n tab s _ hin
        have hpo2 := hpart _ hin
        simp only [pTake, oRS, List.length_cons, List.length_nil, Nat.reduceAdd] at ctk cp1 hpo2 hL
        generalize pAndsD s d _ = P2 at *
        obtain ⟨y2, r2⟩ := P2
        dsimp only at hL cp1 hpo2
        have hm2 := hpo2.mono
        dsimp only at hm2
        rw [hz0]
        (repeat (first | (apply axJ; (focus ((with_reducible constructor) <;> rfl))) | ((first | apply awR hΓ | apply awG | apply ovE rfl); (simp (disch := omega) only [go_sem, ↓reduceIte, dk, h0b, ↓cpk, htw, ↓ctk] <;> with_reducible rfl); exact trivial) | rfl))
        (apply awp_lane3 (nst := false) (nst' := false) [false, false, false, true, false, true] mixedOK hΓ (n1 := 6) (by kernel_rfl) (by kernel_rfl); (focus (dsimp only [List.take_succ_cons, List.take_zero, Array.toList]; (repeat (first | (apply lane3_loud; (focus rfl); (focus rfl); (simp (disch := omega) only [go_sem, ↓reduceIte, ↓lk, dk, ↓cp1, look_upd] <;> with_reducible rfl); (focus (first | (simp (disch := omega) only [go_sem, ↓reduceIte, ↓lk, dk, ↓cp1, look_upd]; done) | (simp (disch := omega) only [go_sem, ↓reduceIte, ↓lk, dk, ↓cp1, look_upd]; omega)))) | (apply lane3_quiet; (simp (disch := omega) only [go_sem, ↓reduceIte, ↓lk, dk, ↓cp1, look_upd] <;> with_reducible rfl)))); exact lane3_nil)); (focus ((repeat' (first | exact True.intro | refine And.intro ?_ ?_)); all_goals (first | (left; decide) | (left; rfl) | (right; simp (disch := omega) only [go_sem, ↓reduceIte, ↓lk, dk, ↓cp1, look_upd]; try with_reducible rfl)))); (simp (disch := omega) only [go_sem, ↓reduceIte, ↓lk, dk, ↓cp1, look_upd] <;> with_reducible rfl))
        (repeat (first | (apply axJ; (focus ((with_reducible constructor) <;> rfl))) | ((first | apply awR hΓ | apply awG | apply ovE rfl); (simp (disch := omega) only [go_sem, ↓reduceIte, dk] <;> with_reducible rfl); exact trivial) | rfl))
        have h5 : (acc ++ [y2]).map eX = acc.map eX ++ [.agg [.int .i64 y2.kind, .str y2.name, .str y2.exc, .list (y2.kids.map eX)]] := by rw [List.map_append, List.map_cons, List.map_nil, eX_eq]
        exact ⟨(n, acc ++ [y2], r2), ⟨by simp, by simp; omega, ⟨by show a0 ≤ r2.at'; have := hpo.mono; dsimp only at this; omega, hpo2.le, hpo2.ok, by rw [hpo2.op]; show o2 = o; rw [hop, hpoop]⟩, ⟨by dsimp only; omega, by dsimp only; omega⟩, hL⟩, by dsimp only; omega, Weak.ofF (by omega) (by (simp [ConvF, lookV, Conv, ints, h5]; done)) (by (simp (disch := omega) only [TabSub, look, if_pos, if_neg, Obj.refsOK, refsOKs, AV.refsOK, decide_eq_true_eq, Bool.and_true, Bool.and_self, h5] ) <;> ((repeat' apply And.intro) <;> first | exact True.intro | omega | (simp; done) | rfl)) (by simp (disch := omega) only [refsF, refsOKs, AV.refsOK, Bool.and_true, Bool.and_self, decide_eq_true_eq, Bool.true_and, Bool.and_eq_true]; (repeat' apply And.intro) <;> omega)⟩
      | false =>
        rw [htw] at hL
        simp only [Bool.false_eq_true, if_false] at hL
        unfold pFin at hL
        have hl1 : ((acc.length : Int) == 1) = (acc.length == 1) := by rw [Bool.eq_iff_iff]; simp only [beq_iff_eq]; omega
        rw [hz0]
        cases hab : (acc.length == 1) with
        | true =>
          rw [hab] at hL hl1
          simp only [if_true] at hL
          obtain ⟨y, rfl⟩ : ∃ y, acc = [y] := List.length_eq_one_iff.1 (by simpa using hab)
          simp only [List.headD_cons] at hL
          subst hL
          have h11 : (((1 : Nat) : Int) == 1) = true := rfl
          (repeat (first | (apply axJ; (focus ((with_reducible constructor) <;> rfl))) | ((first | apply awR hΓ | apply awG | apply ovE rfl); (simp (disch := omega) only [go_sem, ↓reduceIte, ↓lk, dk, Int.reduceToNat, List.getElem?_cons_zero, List.getElem?_cons_succ, h0b, ↓cpk, htw, h11] <;> with_reducible rfl); exact trivial) | rfl))
          exact retL_x rfl (by simp (disch := omega) only [go_sem, ↓reduceIte, dk] <;> rfl) (Weak.of (by simp) ⟨rfl, trivial⟩ (by simp [TabSub, oRS, enumO, look, Obj.refsOK, refsOKs, AV.refsOK]) rfl)
        | false =>
          rw [hab] at hL hl1
          simp only [Bool.false_eq_true, if_false] at hL
          subst hL
          (repeat (first | (apply axJ; (focus ((with_reducible constructor) <;> rfl))) | ((first | apply awR hΓ | apply awG | apply ovE rfl); (simp (disch := omega) only [go_sem, ↓reduceIte, ↓lk, dk, Int.reduceToNat, List.getElem?_cons_zero, List.getElem?_cons_succ, h0b, ↓cpk, htw, hl1] <;> with_reducible rfl); exact trivial) | rfl))
          show RetL _ _ _ (.data (.agg [.int .i64 3, .str [], .str [], .list (acc.map eX)])) _ _ _ _
          refine retL_x rfl (x := .agg [.data (.int .i64 3), .data (.str []), .data (.str []), .row 6 acc.length]) (by simp (disch := omega) only [go_sem, ↓reduceIte, dk] <;> rfl) ?_
          exact ((Weak.freeze (o := 6) rfl).trans ((Weak.agg1 (l := [.data (.int .i64 3), .data (.str []), .data (.str []), .row 6 acc.length]) (ds := [.int .i64 3, .str [], .str [], .list (acc.map eX)]) ⟨rfl, rfl, rfl, Or.inr (Or.inr ⟨6, _, rfl, rfl, by simp⟩), trivial⟩ rfl).trans (Weak.of (by simp) ⟨rfl, trivial⟩ (by simp [Heap.set, upd, TabSub, oRS, enumO, look, Obj.refsOK, refsOKs, AV.refsOK]) rfl)))
    · have heb : (e1 == 0) = false := beq_eq_false_iff_ne.2 hee
      rw [heb] at hL
      simp only [Bool.false_eq_true, if_false] at hL
      unfold pFin at hL
      have hl1 : ((acc.length : Int) == 1) = (acc.length == 1) := by rw [Bool.eq_iff_iff]; simp only [beq_iff_eq]; omega
      rw [hz0]
      cases hab : (acc.length == 1) with
      | true =>
        rw [hab] at hL hl1
        simp only [if_true] at hL
        obtain ⟨y, rfl⟩ : ∃ y, acc = [y] := List.length_eq_one_iff.1 (by simpa using hab)
        simp only [List.headD_cons] at hL
        subst hL
        have h11 : (((1 : Nat) : Int) == 1) = true := rfl
        (repeat (first | (apply axJ; (focus ((with_reducible constructor) <;> rfl))) | ((first | apply awR hΓ | apply awG | apply ovE rfl); (simp (disch := omega) only [go_sem, ↓reduceIte, ↓lk, dk, Int.reduceToNat, List.getElem?_cons_zero, List.getElem?_cons_succ, heb, h11] <;> with_reducible rfl); exact trivial) | rfl))
        exact retL_x rfl (by simp (disch := omega) only [go_sem, ↓reduceIte, dk] <;> rfl) (Weak.of (by simp) ⟨rfl, trivial⟩ (by simp [TabSub, oRS, enumO, look, Obj.refsOK, refsOKs, AV.refsOK]) rfl)
      | false =>
        rw [hab] at hL hl1
        simp only [Bool.false_eq_true, if_false] at hL
        subst hL
        (repeat (first | (apply axJ; (focus ((with_reducible constructor) <;> rfl))) | ((first | apply awR hΓ | apply awG | apply ovE rfl); (simp (disch := omega) only [go_sem, ↓reduceIte, ↓lk, dk, Int.reduceToNat, List.getElem?_cons_zero, List.getElem?_cons_succ, heb, hl1] <;> with_reducible rfl); exact trivial) | rfl))
        show RetL _ _ _ (.data (.agg [.int .i64 3, .str [], .str [], .list (acc.map eX)])) _ _ _ _
        refine retL_x rfl (x := .agg [.data (.int .i64 3), .data (.str []), .data (.str []), .row 6 acc.length]) (by simp (disch := omega) only [go_sem, ↓reduceIte, dk] <;> rfl) ?_
        exact ((Weak.freeze (o := 6) rfl).trans ((Weak.agg1 (l := [.data (.int .i64 3), .data (.str []), .data (.str []), .row 6 acc.length]) (ds := [.int .i64 3, .str [], .str [], .list (acc.map eX)]) ⟨rfl, rfl, rfl, Or.inr (Or.inr ⟨6, _, rfl, rfl, by simp⟩), trivial⟩ rfl).trans (Weak.of (by simp) ⟨rfl, trivial⟩ (by simp [Heap.set, upd, TabSub, oRS, enumO, look, Obj.refsOK, refsOKs, AV.refsOK]) rfl)))
noncomputable def g_porsA (d : Nat) := locSpec (fun _ : List UInt8 × RS => [.ptr 0 0, .data (i64 3), .data (.str [111, 114]), .fn 118 [.ptr 1 0]]) (fun x => [oRS x.1 x.2, .box [.ptr 0 0]]) (fun x => PIn x.1 d x.2) (fun x => (.data (eX (pList (pAndsD x.1 d) x.1 3 [111, 114] x.2).1), [oRS x.1 (pList (pAndsD x.1 d) x.1 3 [111, 114] x.2).2, .box [.ptr 0 0]]))
theorem g_porsA_eq (d : Nat) (s : List UInt8) (r : RS) (hd : PIn s d r) : g_porsA d [.ptr 0 0, .data (.int .i64 3), .data (.str [111, 114]), .fn 118 [.ptr 1 0]] [oRS s r, .box [.ptr 0 0]] = some (.data (eX (pList (pAndsD s d) s 3 [111, 114] r).1), [oRS s (pList (pAndsD s d) s 3 [111, 114] r).2, .box [.ptr 0 0]]) := locSpec_eq (x := (s, r)) hd fun y _ h2 => by
  obtain ⟨y1, y2⟩ := y
  simp only [List.cons.injEq, and_true] at h2
  obtain ⟨rfl, rfl⟩ := oRS_inj h2
  rfl
theorem f_porsA_ok (d : Nat) (hd24 : d ≤ 24) (gp : List AV → List Obj → Option (AV × List Obj)) (ih : LocOK Tryz.prog 118 gp) (hpart : ∀ s, s.length ≤ 1024 → PartOK s d (pAndsD s d))
    (cp : ∀ k n tab s r, PIn s d r → callLoc k ⟨(0, oRS s r) :: (1, .box [.ptr 0 0]) :: tab, n⟩ gp [.ptr 1 0] = some (.data (eX (pAndsD s d r).1), ⟨(0, oRS s (pAndsD s d r).2) :: (1, .box [.ptr 0 0]) :: tab, k⟩)) : LocOK Tryz.prog 87 (g_porsA d) := by
  have hΓ := (Γq ih (Γq f_peek_ok (Γq f_take_ok (Γn))))
  refine loc_enc (n := 45) (rs := [.cell 8 33]) Tryz.func87 (by kernel_rfl) rfl (by kernel_rfl) (by kernel_rfl) ?_
  rintro ⟨s, ⟨a0, o, e, h⟩⟩ hI k hz0
  dsimp only [oRS] at hz0 ⊢
  simp only [List.length_cons, List.length_nil] at hz0
  dsimp only at hI
  obtain ⟨hs, ha, he, _, ho⟩ := hI
  dsimp only at ha he ho
  subst he
  have hpart := hpart s hs
  have cp0 := fun k n tab => cp k n tab s ⟨a0, o, 0, h⟩ ⟨hs, ha, rfl, hd24, ho⟩
  simp only [oRS] at cp0
  have ho1 := hpart ⟨a0, o, 0, h⟩ ⟨hs, ha, rfl, hd24, ho⟩
  generalize hR : pList (pAndsD s d) s 3 [111, 114] ⟨a0, o, 0, h⟩ = R
  unfold pList at hR
  generalize pAndsD s d ⟨a0, o, 0, h⟩ = P0 at *
  obtain ⟨y0, r1⟩ := P0
  dsimp only at ho1 hR cp0
  have h6 : [y0].map eX = [.agg [.int .i64 y0.kind, .str y0.name, .str y0.exc, .list (y0.kids.map eX)]] := by rw [List.map_cons, List.map_nil, eX_eq]
  rw [start_frameA (by simp)]; simp only [enumA, enumO, List.length_cons, List.length_nil, Nat.reduceAdd, go_sem]
  repeat (first
    | (apply axJ; (focus ((with_reducible constructor) <;> rfl)))
    | (apply awT mixedOK hΓ (by kernel_rfl); (simp (disch := omega) only [go_sem, ↓reduceIte, ↓lk, ↓ty_build33, dk, ↓cp0] <;> with_reducible rfl))
    | ((first | apply awR hΓ | apply awG | apply awH mixedOK hΓ rfl (by kernel_rfl) | apply ovE rfl); (simp (disch := omega) only [go_sem, ↓reduceIte, ↓lk, ↓ty_build33, dk, ↓cp0] <;> with_reducible rfl); exact trivial)
    | rfl)
  refine awp_loop_at (X := Nat × List LX × RS) (fun y => (frame 45 [(0, .ptr 0 0), (2, .data (.str [111, 114])), (3, .fn 118 [.ptr 1 0]), (8, .ptr 2 0), (9, .ptr 8 0)]))
    (fun y => [(0, .box [.data (.str s), .data (.int .i64 y.2.2.at'), .data (.int .i64 y.2.2.op), .data (.int .i64 y.2.2.e), .data (.int .i64 y.2.2.here)]), (1, .box [.ptr 0 0]), (2, .box [.data (.int .i64 0), .data (.str []), .data (.str []), .nils]), (8, .box [.data (.int .i64 3), .data (.str []), .data (.str []), .row 6 y.2.1.length]), (6, .row 33 4 (y.2.1.map eX))]) 12
    (fun y => y.2.1 ≠ [] ∧ y.2.1.length ≤ y.2.2.at' + 1 ∧ POut s d ⟨a0, o, 0, h⟩ y.2.2 ∧ (1 ≤ y.1 ∧ s.length < y.1 + y.2.2.at') ∧ pLoop (pAndsD s d) s 3 [111, 114] y.1 y.2.1 y.2.2 = R) (fun y => y.1) (s.length + 1, [y0], r1) ⟨by simp, by simp, ho1, ⟨by dsimp only; omega, by dsimp only; omega⟩, hR⟩ (by rw [hz0]; exact Weak.ofF (by omega) (by (simp [ConvF, lookV, Conv, ints, h6]; done)) (by (simp (disch := omega) only [TabSub, look, if_pos, if_neg, Obj.refsOK, refsOKs, AV.refsOK, decide_eq_true_eq, Bool.and_true, Bool.and_self, h6] ) <;> ((repeat' apply And.intro) <;> first | exact True.intro | omega | (simp; done) | rfl)) (by simp (disch := omega) only [refsF, refsOKs, AV.refsOK, Bool.and_true, Bool.and_self, decide_eq_true_eq, Bool.true_and, Bool.and_eq_true]; (repeat' apply And.intro) <;> omega)) ?_
  rintro ⟨n, acc, ⟨a, o1, e1, h1⟩⟩ ⟨hne, hal, hpo, ⟨hn1, hn⟩, hL⟩
  dsimp only at hne hal hn1 hn hL hpo ⊢
  have hpole := hpo.le
  have hpoop := hpo.op
  have hpook := hpo.ok
  dsimp only at hpole hpoop hpook
  cases n with
  | zero => omega
  | succ n =>
    rw [pLoop] at hL
    dsimp only at hL
    by_cases hee : e1 = 0
    · subst hee
      have hle := hpook rfl
      have h0b : ((0 : Int) == 0) = true := rfl
      have hpk := peek_ok (s := s) (r := ⟨a, o1, 0, h1⟩) (.inl hle)
      have cpk := fun k n tab => call_peek k n tab s a o1 0 h1 ⟨by omega, by dsimp only; omega, .inl hle⟩
      generalize pPeek s ⟨a, o1, 0, h1⟩ = P at *
      obtain ⟨t, ⟨a2, o2, e2, h2⟩⟩ := P
      dsimp only at hpk hL cpk
      have hm := skipN_mono s a
      have hat := hpk.at1
      have hop := hpk.op1
      have htl := hpk.tl
      dsimp only at hat hop htl
      rw [h0b] at hL
      simp only [if_true] at hL
      cases htw : (t == [111, 114]) with
      | true =>
        rw [htw] at hL
        simp only [if_true] at hL
        have htt := eq_of_beq htw
        obtain ⟨hz2, hlen⟩ := htl (by rw [htt]; simp)
        rw [htt] at hlen
        simp only [List.length_cons, List.length_nil] at hlen
        subst hz2
        have ctk := fun k n tab => call_take k n tab s a2 o2 0 h2 [111, 114] (by omega) (by simp)
        have hin : PIn s d (pTake ⟨a2, o2, 0, h2⟩ ([111, 114] : List UInt8).length) := ⟨hs, hlen, rfl, hd24, by show o2 = _; rw [hop, hpoop, ho]⟩
        have cp1 := fun k n tab => cp k n tab s _ hin
        have hpo2 := hpart _ hin
        simp only [pTake, oRS, List.length_cons, List.length_nil, Nat.reduceAdd] at ctk cp1 hpo2 hL
        generalize pAndsD s d _ = P2 at *
        obtain ⟨y2, r2⟩ := P2
        dsimp only at hL cp1 hpo2
        have hm2 := hpo2.mono
        dsimp only at hm2
        rw [hz0]
        (repeat (first | (apply axJ; (focus ((with_reducible constructor) <;> rfl))) | ((first | apply awR hΓ | apply awG | apply ovE rfl); (simp (disch := omega) only [go_sem, ↓reduceIte, dk, h0b, ↓cpk, htw, ↓ctk] <;> with_reducible rfl); exact trivial) | rfl))
        (apply awp_lane3 (nst := false) (nst' := false) [false, false, false, true, false, true] mixedOK hΓ (n1 := 6) (by kernel_rfl) (by kernel_rfl); (focus (dsimp only [List.take_succ_cons, List.take_zero, Array.toList]; (repeat (first | (apply lane3_loud; (focus rfl); (focus rfl); (simp (disch := omega) only [go_sem, ↓reduceIte, ↓lk, dk, ↓cp1, look_upd] <;> with_reducible rfl); (focus (first | (simp (disch := omega) only [go_sem, ↓reduceIte, ↓lk, dk, ↓cp1, look_upd]; done) | (simp (disch := omega) only [go_sem, ↓reduceIte, ↓lk, dk, ↓cp1, look_upd]; omega)))) | (apply lane3_quiet; (simp (disch := omega) only [go_sem, ↓reduceIte, ↓lk, dk, ↓cp1, look_upd] <;> with_reducible rfl)))); exact lane3_nil)); (focus ((repeat' (first | exact True.intro | refine And.intro ?_ ?_)); all_goals (first | (left; decide) | (left; rfl) | (right; simp (disch := omega) only [go_sem, ↓reduceIte, ↓lk, dk, ↓cp1, look_upd]; try with_reducible rfl)))); (simp (disch := omega) only [go_sem, ↓reduceIte, ↓lk, dk, ↓cp1, look_upd] <;> with_reducible rfl))
        (repeat (first | (apply axJ; (focus ((with_reducible constructor) <;> rfl))) | ((first | apply awR hΓ | apply awG | apply ovE rfl); (simp (disch := omega) only [go_sem, ↓reduceIte, dk] <;> with_reducible rfl); exact trivial) | rfl))
        have h5 : (acc ++ [y2]).map eX = acc.map eX ++ [.agg [.int .i64 y2.kind, .str y2.name, .str y2.exc, .list (y2.kids.map eX)]] := by rw [List.map_append, List.map_cons, List.map_nil, eX_eq]
        exact ⟨(n, acc ++ [y2], r2), ⟨by simp, by simp; omega, ⟨by show a0 ≤ r2.at'; have := hpo.mono; dsimp only at this; omega, hpo2.le, hpo2.ok, by rw [hpo2.op]; show o2 = o; rw [hop, hpoop]⟩, ⟨by dsimp only; omega, by dsimp only; omega⟩, hL⟩, by dsimp only; omega, Weak.ofF (by omega) (by (simp [ConvF, lookV, Conv, ints, h5]; done)) (by (simp (disch := omega) only [TabSub, look, if_pos, if_neg, Obj.refsOK, refsOKs, AV.refsOK, decide_eq_true_eq, Bool.and_true, Bool.and_self, h5] ) <;> ((repeat' apply And.intro) <;> first | exact True.intro | omega | (simp; done) | rfl)) (by simp (disch := omega) only [refsF, refsOKs, AV.refsOK, Bool.and_true, Bool.and_self, decide_eq_true_eq, Bool.true_and, Bool.and_eq_true]; (repeat' apply And.intro) <;> omega)⟩
      | false =>
        rw [htw] at hL
        simp only [Bool.false_eq_true, if_false] at hL
        unfold pFin at hL
        have hl1 : ((acc.length : Int) == 1) = (acc.length == 1) := by rw [Bool.eq_iff_iff]; simp only [beq_iff_eq]; omega
        rw [hz0]
        cases hab : (acc.length == 1) with
        | true =>
          rw [hab] at hL hl1
          simp only [if_true] at hL
          obtain ⟨y, rfl⟩ : ∃ y, acc = [y] := List.length_eq_one_iff.1 (by simpa using hab)
          simp only [List.headD_cons] at hL
          subst hL
          have h11 : (((1 : Nat) : Int) == 1) = true := rfl
          (repeat (first | (apply axJ; (focus ((with_reducible constructor) <;> rfl))) | ((first | apply awR hΓ | apply awG | apply ovE rfl); (simp (disch := omega) only [go_sem, ↓reduceIte, ↓lk, dk, Int.reduceToNat, List.getElem?_cons_zero, List.getElem?_cons_succ, h0b, ↓cpk, htw, h11] <;> with_reducible rfl); exact trivial) | rfl))
          exact retL_x rfl (by simp (disch := omega) only [go_sem, ↓reduceIte, dk] <;> rfl) (Weak.of (by simp) ⟨rfl, trivial⟩ (by simp [TabSub, oRS, enumO, look, Obj.refsOK, refsOKs, AV.refsOK]) rfl)
        | false =>
          rw [hab] at hL hl1
          simp only [Bool.false_eq_true, if_false] at hL
          subst hL
          (repeat (first | (apply axJ; (focus ((with_reducible constructor) <;> rfl))) | ((first | apply awR hΓ | apply awG | apply ovE rfl); (simp (disch := omega) only [go_sem, ↓reduceIte, ↓lk, dk, Int.reduceToNat, List.getElem?_cons_zero, List.getElem?_cons_succ, h0b, ↓cpk, htw, hl1] <;> with_reducible rfl); exact trivial) | rfl))
          show RetL _ _ _ (.data (.agg [.int .i64 3, .str [], .str [], .list (acc.map eX)])) _ _ _ _
          refine retL_x rfl (x := .agg [.data (.int .i64 3), .data (.str []), .data (.str []), .row 6 acc.length]) (by simp (disch := omega) only [go_sem, ↓reduceIte, dk] <;> rfl) ?_
          exact ((Weak.freeze (o := 6) rfl).trans ((Weak.agg1 (l := [.data (.int .i64 3), .data (.str []), .data (.str []), .row 6 acc.length]) (ds := [.int .i64 3, .str [], .str [], .list (acc.map eX)]) ⟨rfl, rfl, rfl, Or.inr (Or.inr ⟨6, _, rfl, rfl, by simp⟩), trivial⟩ rfl).trans (Weak.of (by simp) ⟨rfl, trivial⟩ (by simp [Heap.set, upd, TabSub, oRS, enumO, look, Obj.refsOK, refsOKs, AV.refsOK]) rfl)))
    · have heb : (e1 == 0) = false := beq_eq_false_iff_ne.2 hee
      rw [heb] at hL
      simp only [Bool.false_eq_true, if_false] at hL
      unfold pFin at hL
      have hl1 : ((acc.length : Int) == 1) = (acc.length == 1) := by rw [Bool.eq_iff_iff]; simp only [beq_iff_eq]; omega
      rw [hz0]
      cases hab : (acc.length == 1) with
      | true =>
        rw [hab] at hL hl1
        simp only [if_true] at hL
        obtain ⟨y, rfl⟩ : ∃ y, acc = [y] := List.length_eq_one_iff.1 (by simpa using hab)
        simp only [List.headD_cons] at hL
        subst hL
        have h11 : (((1 : Nat) : Int) == 1) = true := rfl
        (repeat (first | (apply axJ; (focus ((with_reducible constructor) <;> rfl))) | ((first | apply awR hΓ | apply awG | apply ovE rfl); (simp (disch := omega) only [go_sem, ↓reduceIte, ↓lk, dk, Int.reduceToNat, List.getElem?_cons_zero, List.getElem?_cons_succ, heb, h11] <;> with_reducible rfl); exact trivial) | rfl))
        exact retL_x rfl (by simp (disch := omega) only [go_sem, ↓reduceIte, dk] <;> rfl) (Weak.of (by simp) ⟨rfl, trivial⟩ (by simp [TabSub, oRS, enumO, look, Obj.refsOK, refsOKs, AV.refsOK]) rfl)
      | false =>
        rw [hab] at hL hl1
        simp only [Bool.false_eq_true, if_false] at hL
        subst hL
        (repeat (first | (apply axJ; (focus ((with_reducible constructor) <;> rfl))) | ((first | apply awR hΓ | apply awG | apply ovE rfl); (simp (disch := omega) only [go_sem, ↓reduceIte, ↓lk, dk, Int.reduceToNat, List.getElem?_cons_zero, List.getElem?_cons_succ, heb, hl1] <;> with_reducible rfl); exact trivial) | rfl))
        show RetL _ _ _ (.data (.agg [.int .i64 3, .str [], .str [], .list (acc.map eX)])) _ _ _ _
        refine retL_x rfl (x := .agg [.data (.int .i64 3), .data (.str []), .data (.str []), .row 6 acc.length]) (by simp (disch := omega) only [go_sem, ↓reduceIte, dk] <;> rfl) ?_
        exact ((Weak.freeze (o := 6) rfl).trans ((Weak.agg1 (l := [.data (.int .i64 3), .data (.str []), .data (.str []), .row 6 acc.length]) (ds := [.int .i64 3, .str [], .str [], .list (acc.map eX)]) ⟨rfl, rfl, rfl, Or.inr (Or.inr ⟨6, _, rfl, rfl, by simp⟩), trivial⟩ rfl).trans (Weak.of (by simp) ⟨rfl, trivial⟩ (by simp [Heap.set, upd, TabSub, oRS, enumO, look, Obj.refsOK, refsOKs, AV.refsOK]) rfl)))
end Go.Ab
