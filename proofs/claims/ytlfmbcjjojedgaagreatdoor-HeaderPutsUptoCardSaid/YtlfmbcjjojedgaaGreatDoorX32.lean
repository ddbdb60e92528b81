/-
  One text of the proof (own work): contracts of functions of the program, by the abstract machine.
-/
import Derived.Test.YtlfmbcjjojedgaaGreatDoorX19
import Derived.Test.YtlfmbcjjojedgaaGreatDoorX31
set_option linter.unusedVariables false
set_option linter.unusedSimpArgs false
namespace Go.Ab
open Go Go.RowKit Go.Proofs
set_option maxRecDepth 10000
set_option maxHeartbeats 8000000
theorem goodR_mono {s : List UInt8} {a b : Nat} {r : Res} (h : GoodR s b r) (hab : a ≤ b) : GoodR s a r :=
  ⟨h.le, fun he => Nat.lt_of_le_of_lt hab (h.lt he), fun he => Nat.le_trans (h.sz he) (by omega), h.bd⟩
theorem bd_list {m : Nat} {k : Int} {l : List LX} (hz : (LX.mk k [] [] l).size ≤ m) (h : ∀ x ∈ l, x.Bd m) : (LX.mk k [] [] l).Bd m := .mk _ (Nat.zero_le _) (Nat.zero_le _) hz h
theorem good_loop {part : Nat → Res} {s : List UInt8} {kind : Int} {bw : List UInt8} (hb : 1 ≤ bw.length) (hp : ∀ a, a ≤ s.length → GoodR s a (part a)) (a0 : Nat) :
    ∀ (n a : Nat) (acc : List LX), a ≤ s.length → a0 ≤ a → LX.size.sizes acc + (if acc = [] then 0 else 1) ≤ a - a0 → (∀ x ∈ acc, x.Bd s.length) → GoodR s a0 (rLoop part s kind bw n a acc) := by
  intro n
  induction n with
  | zero => intro a acc ha h0 _ _; exact goodR_wrong ha (by decide)
  | succ n ih =>
    intro a acc ha h0 hsz hbd
    have hg := hp a ha
    rw [rLoop]
    generalize part a = r at *
    split
    · exact goodR_mono hg h0
    · rename_i he
      have he : r.err = 0 := by simpa using he
      have h1 := hg.lt he
      have h2 := hg.sz he
      have h3 := hg.bd he
      have h4 : r.at' ≤ skipN s r.at' ∧ skipN s r.at' ≤ s.length := runN_le hg.le
      have hpos := r.expr.size_pos
      have hw := wordN_le s _ h4.2
      generalize skipN s r.at' = b at *
      have hall : ∀ x ∈ acc ++ [r.expr], x.Bd s.length := fun x hx => by
        rcases List.mem_append.1 hx with hx | hx
        · exact hbd x hx
        · rw [List.mem_singleton.1 hx]; exact h3
      have hs2 : LX.size.sizes (acc ++ [r.expr]) = LX.size.sizes acc + r.expr.size := by rw [LX.sizes_append]; simp [LX.size.sizes]
      have hs3 : LX.size.sizes acc ≤ a - a0 := by omega
      split
      · rename_i hwb
        have hwl := congrArg List.length (eq_of_beq hwb)
        exact ih _ _ (by omega) (by omega) (by rw [hs2, if_neg (by simp)]; omega) hall
      · split
        · exact ⟨h4.2, fun _ => by show a0 < b; omega, fun _ => by show r.expr.size ≤ b - a0; omega, fun _ => h3⟩
        · rename_i hne
          have hsz2 : (LX.mk kind [] [] (acc ++ [r.expr])).size ≤ b - a0 := by
            rw [LX.size_eq]
            show LX.size.sizes (acc ++ [r.expr]) + 1 ≤ b - a0
            rw [if_neg (by intro h; rw [h] at hne; simp at hne)] at hsz
            omega
          exact ⟨h4.2, fun _ => by show a0 < b; omega, fun _ => hsz2, fun _ => bd_list (by omega) hall⟩
theorem good_ands {s : List UInt8} {atom : Nat → Res} (hp : ∀ a, a ≤ s.length → GoodR s a (atom a)) {a : Nat} (ha : a ≤ s.length) : GoodR s a (rAnds s atom a) :=
  good_loop (by decide) hp a _ a [] ha (Nat.le_refl _) (by simp [LX.size.sizes]) (fun x hx => by cases hx)
theorem good_ors {s : List UInt8} {atom : Nat → Res} (hp : ∀ a, a ≤ s.length → GoodR s a (atom a)) {a : Nat} (ha : a ≤ s.length) : GoodR s a (rOrs s atom a) :=
  good_loop (by decide) (fun a ha => good_ands hp ha) a _ a [] ha (Nat.le_refl _) (by simp [LX.size.sizes]) (fun x hx => by cases hx)
theorem good_atomF {s : List UInt8} {inner : Option (Nat → Res)} (hp : ∀ f, inner = some f → ∀ a, a ≤ s.length → GoodR s a (f a)) {a : Nat} (ha : a ≤ s.length) : GoodR s a (rAtomF s inner a) := by
  have h1 : a ≤ skipN s a ∧ skipN s a ≤ s.length := runN_le ha
  unfold rAtomF
  generalize skipN s a = b at *
  split
  · rename_i hb
    have hlt := isAtI_true hb
    cases inner with
    | none => exact goodR_wrong h1.2 (by decide)
    | some f =>
      have hg := hp f rfl (b + 1) (by omega)
      dsimp only
      generalize f (b + 1) = r at *
      split
      · exact goodR_mono hg (by omega)
      · rename_i he
        have he : r.err = 0 := by simpa using he
        have h2 := hg.lt he
        have h3 := hg.sz he
        have h4 : r.at' ≤ skipN s r.at' ∧ skipN s r.at' ≤ s.length := runN_le hg.le
        generalize skipN s r.at' = e at *
        split
        · rename_i hc
          have := isAtI_true hc
          exact ⟨by show e + 1 ≤ s.length; omega, fun _ => by show a < e + 1; omega, fun _ => by show r.expr.size ≤ e + 1 - a; omega, fun _ => hg.bd he⟩
        · exact goodR_wrong h4.2 (by decide)
  · have hg := goodR_name (s := s) (a := a) h1.2 h1.1
    have hk := name_kids (s := s) (a := b)
    generalize rName s b = r at *
    split
    · exact hg
    · rename_i he
      have he : r.err = 0 := by simpa using he
      have h2 := hg.lt he
      have h3 := hg.bd he
      have h4 : r.at' ≤ skipN s r.at' ∧ skipN s r.at' ≤ s.length := runN_le hg.le
      have hw := wordN_le s _ h4.2
      generalize skipN s r.at' = e at *
      have hs : ∀ k n x, (LX.mk k n x r.expr.kids).size = 1 := fun k n x => by rw [hk]; simp [LX.size, LX.size.sizes]
      split
      · rename_i hc
        have := isAtI_true hc
        refine ⟨by show e + 1 ≤ s.length; omega, fun _ => by show a < e + 1; omega, fun _ => by show (LX.mk _ _ _ _).size ≤ e + 1 - a; rw [hs]; omega, fun _ => ?_⟩
        rw [hk]
        exact bd_leaf (by omega) h3.n h3.e
      · split
        · rename_i hwb
          have hwl := congrArg List.length (eq_of_beq hwb)
          simp only [List.length_cons, List.length_nil] at hwl
          have hg2 := goodR_name (s := s) (a := e + 4) (b := e + 4) (by omega) (Nat.le_refl _)
          generalize rName s (e + 4) = q at *
          split
          · exact goodR_mono hg2 (by omega)
          · rename_i hq
            have hq : q.err = 0 := by simpa using hq
            have h5 := hg2.lt hq
            refine ⟨hg2.le, fun _ => by show a < q.at'; omega, fun _ => by show (LX.mk _ _ _ _).size ≤ q.at' - a; rw [hs]; omega, fun _ => ?_⟩
            rw [hk]
            exact bd_leaf (by omega) h3.n (hg2.bd hq).n
        · exact hg
theorem good_atom {s : List UInt8} : ∀ (d : Nat) {a : Nat}, a ≤ s.length → GoodR s a (rAtom s d a)
  | 0, a, ha => good_atomF (fun f h => by cases h) ha
  | d + 1, a, ha => good_atomF (fun f h => by cases h; exact fun a ha => good_ors (fun a ha => good_atom d ha) ha) ha
noncomputable def g_atom (d : Nat) : List D → Option D := encSpec (fun x : List UInt8 × Nat => [.str x.1, i64 x.2, i64 ((24 : Int) - d)]) (fun x => x.1.length ≤ 1099511627776 ∧ x.2 ≤ x.1.length) (fun x => eRes (rAtom x.1 d x.2))
theorem g_atom_eq {d : Nat} {s : List UInt8} {a : Nat} (hd : s.length ≤ 1099511627776 ∧ a ≤ s.length) : g_atom d [.str s, .int .i64 a, .int .i64 ((24 : Int) - d)] = some (eRes (rAtom s d a)) := encSpec_eq (x := (s, a)) hd fun y hy => by
  obtain ⟨y0, y1⟩ := y
  simp only [List.cons.injEq, and_true, true_and, D.str.injEq, D.int.injEq, Int.natCast_inj] at hy
  obtain ⟨rfl, rfl⟩ := hy
  rfl
noncomputable def g_ands (d : Nat) : List D → Option D := encSpec (fun x : List UInt8 × Nat => [.str x.1, i64 x.2, i64 ((24 : Int) - d), i64 2]) (fun x => x.1.length ≤ 1099511627776 ∧ x.2 ≤ x.1.length) (fun x => eRes (rAnds x.1 (rAtom x.1 d) x.2))
theorem g_ands_eq {d : Nat} {s : List UInt8} {a : Nat} (hd : s.length ≤ 1099511627776 ∧ a ≤ s.length) : g_ands d [.str s, .int .i64 a, .int .i64 ((24 : Int) - d), .int .i64 2] = some (eRes (rAnds s (rAtom s d) a)) := encSpec_eq (x := (s, a)) hd fun y hy => by
  obtain ⟨y0, y1⟩ := y
  simp only [List.cons.injEq, and_true, true_and, D.str.injEq, D.int.injEq, Int.natCast_inj] at hy
  obtain ⟨rfl, rfl⟩ := hy
  rfl
theorem f_ands_ok (d : Nat) (hd24 : d ≤ 24) (ih : PureOK Tryz.prog 121 false (g_atom d)) : PureOK Tryz.prog 93 false (g_ands d) := by
  have hΓ := (Γp ih (Γp f_skip_ok (Γp f_word_ok (Γn))))
  refine pure_enc (n := 62) (rs := [.cell 8 78]) Tryz.func93 (by kernel_rfl) rfl (by kernel_rfl) (by kernel_rfl) ?_
  rintro ⟨s, a0⟩ ⟨hs, ha0⟩
  dsimp only at hs ha0 ⊢
  refine ⟨fun h => (by cases h), fun k hz0 => ?_⟩
  rw [start_frame (by simp)]; simp only [enumV, go_sem, emptyH]
  repeat (first
    | (apply axJ; (focus ((with_reducible constructor) <;> rfl)))
    | (apply awT mixedOK hΓ (by kernel_rfl); (simp (disch := omega) only [go_sem, ↓reduceIte, ↓lk, ↓ty_build33, Int.reduceBEq, Int.reduceBNe, Bool.true_bne, Bool.false_bne, Bool.not_true, Bool.not_false] <;> with_reducible rfl))
    | ((first | apply awR hΓ | apply awG | apply awH mixedOK hΓ rfl (by kernel_rfl) | apply ovE rfl); (simp (disch := omega) only [go_sem, ↓reduceIte, ↓lk, ↓ty_build33, Int.reduceBEq, Int.reduceBNe, Bool.true_bne, Bool.false_bne, Bool.not_true, Bool.not_false] <;> with_reducible rfl); exact trivial)
    | rfl)
  refine awp_weak (Weak.boxnil (o := 7) (i := 3) 33 (sz := 4) (by omega) rfl rfl) ?_
  generalize hR : rAnds s (rAtom s d) a0 = R
  have hR0 : rLoop (rAtom s d) s 2 [97, 110, 100] (s.length + 1) a0 [] = R := hR
  refine awp_loop_at (X := Nat × Nat × List LX) (fun y => (frame 62 [(0, .data (.str s)), (1, .data (i64 y.2.1)), (2, .data (i64 ((24 : Int) - d))), (3, .data (i64 2)), (8, .ptr 0 0), (9, .data (.str [97, 110, 100])), (10, .ptr 7 0)]))
    (fun y => [(0, .box [.data (.int .i64 0), .data (.str []), .data (.str []), .nils, .data (.int .i64 0), .data (.int .i64 0)]), (7, .box [.data (.int .i64 2), .data (.str []), .data (.str []), .row 9 y.2.2.length]), (9, .row 33 4 (y.2.2.map eX))]) 12
    (fun y => y.2.1 ≤ s.length ∧ s.length < y.1 + y.2.1 ∧ y.2.2.length ≤ y.2.1 ∧ rLoop (rAtom s d) s 2 [97, 110, 100] y.1 y.2.1 y.2.2 = R) (fun y => s.length - y.2.1) (s.length + 1, a0, []) ⟨ha0, by dsimp only; omega, Nat.zero_le _, hR0⟩ (Weak.w) ?_
  rintro ⟨n, a, acc⟩ ⟨ha, hn, hac, hL⟩
  dsimp only at ha hn hac hL ⊢
  cases n with
  | zero => omega
  | succ n =>
    have hg : GoodR s a (rAtom s d a) := good_atom d ha
    have e1 := g_atom_eq (d := d) (s := s) (a := a) ⟨hs, ha⟩
    generalize rAtom s d = P at *
    rw [rLoop] at hL
    generalize P a = r at *
    have hle := hg.le
    have hlt := hg.lt
    have h1 : r.at' ≤ skipN s r.at' ∧ skipN s r.at' ≤ s.length := runN_le hle
    have e2 := g_skip_eq (s := s) ⟨hs, hle⟩
    have hw := wordN_le s _ h1.2
    generalize skipN s r.at' = b at *
    have e3 := g_word_eq (s := s) ⟨hs, h1.2⟩
    generalize wordN s b = w at *
    by_cases he : r.err = 0
    · have hlt := hlt he
      have heb : (r.err != 0) = false := by rw [he]; rfl
      rw [heb] at hL
      cases hwb : (w == [97, 110, 100]) with
      | true =>
        rw [hwb] at hL
        simp only [if_true, Bool.false_eq_true, if_false] at hL
        have hwl := congrArg List.length (eq_of_beq hwb)
        simp only [List.length_cons, List.length_nil] at hwl hL
        have hwn : (w != [97, 110, 100]) = false := by rw [bne, hwb]; rfl
        repeat (first
          | (apply axJ; (focus ((with_reducible constructor) <;> rfl)))
          | (apply awT mixedOK hΓ (by kernel_rfl); (simp (disch := omega) only [go_sem, ↓reduceIte, ↓lk, ↓ty_build78, dk, e1, heb, e2, e3, hwb, hwn, eRes] <;> with_reducible rfl))
          | ((first | apply awR hΓ | apply awG | apply awH mixedOK hΓ rfl (by kernel_rfl) | apply ovE rfl); (simp (disch := omega) only [go_sem, ↓reduceIte, ↓lk, ↓ty_build78, dk, e1, heb, e2, e3, hwb, hwn, eRes] <;> with_reducible rfl); exact trivial)
          | rfl)
        refine ⟨(n, b + 3, acc ++ [r.expr]), ⟨by dsimp only; omega, by dsimp only; omega, by simp; omega, hL⟩, by dsimp only; omega, ?_⟩
        have h5 : (acc ++ [r.expr]).map eX = acc.map eX ++ [.agg [.int .i64 r.expr.kind, .str r.expr.name, .str r.expr.exc, .list (r.expr.kids.map eX)]] := by rw [List.map_append, List.map_cons, List.map_nil, eX_eq]
        exact Weak.v (by (simp [ConvF, lookV, Conv, ints, h5]; done)) (by (simp (disch := omega) only [TabSub, look, if_pos, if_neg, Obj.refsOK, refsOKs, AV.refsOK, decide_eq_true_eq, Bool.and_true, Bool.and_self, h5] ) <;> ((repeat' apply And.intro) <;> first | exact True.intro | omega | (simp; done) | rfl))
      | false =>
        rw [hwb] at hL
        simp only [if_true, Bool.false_eq_true, if_false] at hL
        have hwn : (w != [97, 110, 100]) = true := by rw [bne, hwb]; rfl
        have hl1 : (((acc.length + 1 : Nat) : Int) == 1) = (acc.length == 0) := by rw [Bool.eq_iff_iff]; simp only [beq_iff_eq]; omega
        cases hab : (acc.length == 0) with
        | true =>
          rw [hab] at hL hl1
          simp only [if_true] at hL
          subst hL
          repeat (first
            | (apply axJ; (focus ((with_reducible constructor) <;> rfl)))
            | (apply awT mixedOK hΓ (by kernel_rfl); (simp (disch := omega) only [go_sem, ↓reduceIte, ↓lk, ↓ty_build78, dk, e1, heb, e2, e3, hwb, hwn, hl1, eRes, List.map_append] <;> with_reducible rfl))
            | ((first | apply awR hΓ | apply awG | apply awH mixedOK hΓ rfl (by kernel_rfl) | apply ovE rfl); (simp (disch := omega) only [go_sem, ↓reduceIte, ↓lk, ↓ty_build78, dk, e1, heb, e2, e3, hwb, hwn, hl1, eRes, List.map_append] <;> with_reducible rfl); exact trivial)
            | rfl)
          (try (simp only [if_true, if_false, Bool.false_eq_true, eRes, lx_kind, lx_name, lx_exc, lx_kids, List.map_append, List.map_cons, List.map_nil, eX_eq]; try rfl))
        | false =>
          rw [hab] at hL hl1
          simp only [Bool.false_eq_true, if_false] at hL
          subst hL
          repeat (first
            | (apply axJ; (focus ((with_reducible constructor) <;> rfl)))
            | (apply awT mixedOK hΓ (by kernel_rfl); (simp (disch := omega) only [go_sem, ↓reduceIte, ↓lk, ↓ty_build78, dk, e1, heb, e2, e3, hwb, hwn, hl1, eRes, List.map_append] <;> with_reducible rfl))
            | ((first | apply awR hΓ | apply awG | apply awH mixedOK hΓ rfl (by kernel_rfl) | apply ovE rfl); (simp (disch := omega) only [go_sem, ↓reduceIte, ↓lk, ↓ty_build78, dk, e1, heb, e2, e3, hwb, hwn, hl1, eRes, List.map_append] <;> with_reducible rfl); exact trivial)
            | rfl)
          (try (simp only [if_true, if_false, Bool.false_eq_true, eRes, lx_kind, lx_name, lx_exc, lx_kids, List.map_append, List.map_cons, List.map_nil, eX_eq]; try rfl))
    · have heb : (r.err != 0) = true := by simp [bne, he]
      rw [heb] at hL
      simp only [if_true] at hL
      subst hL
      repeat (first
        | (apply axJ; (focus ((with_reducible constructor) <;> rfl)))
        | (apply awT mixedOK hΓ (by kernel_rfl); (simp (disch := omega) only [go_sem, ↓reduceIte, ↓lk, ↓ty_build78, dk, e1, heb, eRes] <;> with_reducible rfl))
        | ((first | apply awR hΓ | apply awG | apply awH mixedOK hΓ rfl (by kernel_rfl) | apply ovE rfl); (simp (disch := omega) only [go_sem, ↓reduceIte, ↓lk, ↓ty_build78, dk, e1, heb, eRes] <;> with_reducible rfl); exact trivial)
        | rfl)
noncomputable def g_ors (d : Nat) : List D → Option D := encSpec (fun x : List UInt8 × Nat => [.str x.1, i64 x.2, i64 ((24 : Int) - d), i64 3]) (fun x => x.1.length ≤ 1099511627776 ∧ x.2 ≤ x.1.length) (fun x => eRes (rOrs x.1 (rAtom x.1 d) x.2))
theorem g_ors_eq {d : Nat} {s : List UInt8} {a : Nat} (hd : s.length ≤ 1099511627776 ∧ a ≤ s.length) : g_ors d [.str s, .int .i64 a, .int .i64 ((24 : Int) - d), .int .i64 3] = some (eRes (rOrs s (rAtom s d) a)) := encSpec_eq (x := (s, a)) hd fun y hy => by
  obtain ⟨y0, y1⟩ := y
  simp only [List.cons.injEq, and_true, true_and, D.str.injEq, D.int.injEq, Int.natCast_inj] at hy
  obtain ⟨rfl, rfl⟩ := hy
  rfl
theorem f_ors_ok (d : Nat) (hd24 : d ≤ 24) (ih : PureOK Tryz.prog 93 false (g_ands d)) : PureOK Tryz.prog 93 false (g_ors d) := by
  have hΓ := (Γp ih (Γp f_skip_ok (Γp f_word_ok (Γn))))
  refine pure_enc (n := 62) (rs := [.cell 8 78]) Tryz.func93 (by kernel_rfl) rfl (by kernel_rfl) (by kernel_rfl) ?_
  rintro ⟨s, a0⟩ ⟨hs, ha0⟩
  dsimp only at hs ha0 ⊢
  refine ⟨fun h => (by cases h), fun k hz0 => ?_⟩
  rw [start_frame (by simp)]; simp only [enumV, go_sem, emptyH]
  repeat (first
    | (apply axJ; (focus ((with_reducible constructor) <;> rfl)))
    | (apply awT mixedOK hΓ (by kernel_rfl); (simp (disch := omega) only [go_sem, ↓reduceIte, ↓lk, ↓ty_build33, Int.reduceBEq, Int.reduceBNe, Bool.true_bne, Bool.false_bne, Bool.not_true, Bool.not_false] <;> with_reducible rfl))
    | ((first | apply awR hΓ | apply awG | apply awH mixedOK hΓ rfl (by kernel_rfl) | apply ovE rfl); (simp (disch := omega) only [go_sem, ↓reduceIte, ↓lk, ↓ty_build33, Int.reduceBEq, Int.reduceBNe, Bool.true_bne, Bool.false_bne, Bool.not_true, Bool.not_false] <;> with_reducible rfl); exact trivial)
    | rfl)
  refine awp_weak (Weak.boxnil (o := 6) (i := 3) 33 (sz := 4) (by omega) rfl rfl) ?_
  generalize hR : rOrs s (rAtom s d) a0 = R
  have hR0 : rLoop (rAnds s (rAtom s d)) s 3 [111, 114] (s.length + 1) a0 [] = R := hR
  refine awp_loop_at (X := Nat × Nat × List LX) (fun y => (frame 62 [(0, .data (.str s)), (1, .data (i64 y.2.1)), (2, .data (i64 ((24 : Int) - d))), (3, .data (i64 3)), (8, .ptr 0 0), (9, .data (.str [111, 114])), (10, .ptr 6 0)]))
    (fun y => [(0, .box [.data (.int .i64 0), .data (.str []), .data (.str []), .nils, .data (.int .i64 0), .data (.int .i64 0)]), (6, .box [.data (.int .i64 3), .data (.str []), .data (.str []), .row 8 y.2.2.length]), (8, .row 33 4 (y.2.2.map eX))]) 12
    (fun y => y.2.1 ≤ s.length ∧ s.length < y.1 + y.2.1 ∧ y.2.2.length ≤ y.2.1 ∧ rLoop (rAnds s (rAtom s d)) s 3 [111, 114] y.1 y.2.1 y.2.2 = R) (fun y => s.length - y.2.1) (s.length + 1, a0, []) ⟨ha0, by dsimp only; omega, Nat.zero_le _, hR0⟩ (Weak.w) ?_
  rintro ⟨n, a, acc⟩ ⟨ha, hn, hac, hL⟩
  dsimp only at ha hn hac hL ⊢
  cases n with
  | zero => omega
  | succ n =>
    have hg : GoodR s a (rAnds s (rAtom s d) a) := good_ands (fun a ha => good_atom d ha) ha
    have e1 := g_ands_eq (d := d) (s := s) (a := a) ⟨hs, ha⟩
    generalize rAnds s (rAtom s d) = P at *
    rw [rLoop] at hL
    generalize P a = r at *
    have hle := hg.le
    have hlt := hg.lt
    have h1 : r.at' ≤ skipN s r.at' ∧ skipN s r.at' ≤ s.length := runN_le hle
    have e2 := g_skip_eq (s := s) ⟨hs, hle⟩
    have hw := wordN_le s _ h1.2
    generalize skipN s r.at' = b at *
    have e3 := g_word_eq (s := s) ⟨hs, h1.2⟩
    generalize wordN s b = w at *
    by_cases he : r.err = 0
    · have hlt := hlt he
      have heb : (r.err != 0) = false := by rw [he]; rfl
      rw [heb] at hL
      cases hwb : (w == [111, 114]) with
      | true =>
        rw [hwb] at hL
        simp only [if_true, Bool.false_eq_true, if_false] at hL
        have hwl := congrArg List.length (eq_of_beq hwb)
        simp only [List.length_cons, List.length_nil] at hwl hL
        have hwn : (w != [111, 114]) = false := by rw [bne, hwb]; rfl
        repeat (first
          | (apply axJ; (focus ((with_reducible constructor) <;> rfl)))
          | (apply awT mixedOK hΓ (by kernel_rfl); (simp (disch := omega) only [go_sem, ↓reduceIte, ↓lk, ↓ty_build78, dk, e1, heb, e2, e3, hwb, hwn, eRes] <;> with_reducible rfl))
          | ((first | apply awR hΓ | apply awG | apply awH mixedOK hΓ rfl (by kernel_rfl) | apply ovE rfl); (simp (disch := omega) only [go_sem, ↓reduceIte, ↓lk, ↓ty_build78, dk, e1, heb, e2, e3, hwb, hwn, eRes] <;> with_reducible rfl); exact trivial)
          | rfl)
        refine ⟨(n, b + 2, acc ++ [r.expr]), ⟨by dsimp only; omega, by dsimp only; omega, by simp; omega, hL⟩, by dsimp only; omega, ?_⟩
        have h5 : (acc ++ [r.expr]).map eX = acc.map eX ++ [.agg [.int .i64 r.expr.kind, .str r.expr.name, .str r.expr.exc, .list (r.expr.kids.map eX)]] := by rw [List.map_append, List.map_cons, List.map_nil, eX_eq]
        exact Weak.v (by (simp [ConvF, lookV, Conv, ints, h5]; done)) (by (simp (disch := omega) only [TabSub, look, if_pos, if_neg, Obj.refsOK, refsOKs, AV.refsOK, decide_eq_true_eq, Bool.and_true, Bool.and_self, h5] ) <;> ((repeat' apply And.intro) <;> first | exact True.intro | omega | (simp; done) | rfl))
      | false =>
        rw [hwb] at hL
        simp only [if_true, Bool.false_eq_true, if_false] at hL
        have hwn : (w != [111, 114]) = true := by rw [bne, hwb]; rfl
        have hl1 : (((acc.length + 1 : Nat) : Int) == 1) = (acc.length == 0) := by rw [Bool.eq_iff_iff]; simp only [beq_iff_eq]; omega
        cases hab : (acc.length == 0) with
        | true =>
          rw [hab] at hL hl1
          simp only [if_true] at hL
          subst hL
          repeat (first
            | (apply axJ; (focus ((with_reducible constructor) <;> rfl)))
            | (apply awT mixedOK hΓ (by kernel_rfl); (simp (disch := omega) only [go_sem, ↓reduceIte, ↓lk, ↓ty_build78, dk, e1, heb, e2, e3, hwb, hwn, hl1, eRes, List.map_append] <;> with_reducible rfl))
            | ((first | apply awR hΓ | apply awG | apply awH mixedOK hΓ rfl (by kernel_rfl) | apply ovE rfl); (simp (disch := omega) only [go_sem, ↓reduceIte, ↓lk, ↓ty_build78, dk, e1, heb, e2, e3, hwb, hwn, hl1, eRes, List.map_append] <;> with_reducible rfl); exact trivial)
            | rfl)
          (try (simp only [if_true, if_false, Bool.false_eq_true, eRes, lx_kind, lx_name, lx_exc, lx_kids, List.map_append, List.map_cons, List.map_nil, eX_eq]; try rfl))
        | false =>
          rw [hab] at hL hl1
          simp only [Bool.false_eq_true, if_false] at hL
          subst hL
          repeat (first
            | (apply axJ; (focus ((with_reducible constructor) <;> rfl)))
            | (apply awT mixedOK hΓ (by kernel_rfl); (simp (disch := omega) only [go_sem, ↓reduceIte, ↓lk, ↓ty_build78, dk, e1, heb, e2, e3, hwb, hwn, hl1, eRes, List.map_append] <;> with_reducible rfl))
            | ((first | apply awR hΓ | apply awG | apply awH mixedOK hΓ rfl (by kernel_rfl) | apply ovE rfl); (simp (disch := omega) only [go_sem, ↓reduceIte, ↓lk, ↓ty_build78, dk, e1, heb, e2, e3, hwb, hwn, hl1, eRes, List.map_append] <;> with_reducible rfl); exact trivial)
            | rfl)
          (try (simp only [if_true, if_false, Bool.false_eq_true, eRes, lx_kind, lx_name, lx_exc, lx_kids, List.map_append, List.map_cons, List.map_nil, eX_eq]; try rfl))
    · have heb : (r.err != 0) = true := by simp [bne, he]
      rw [heb] at hL
      simp only [if_true] at hL
      subst hL
      repeat (first
        | (apply axJ; (focus ((with_reducible constructor) <;> rfl)))
        | (apply awT mixedOK hΓ (by kernel_rfl); (simp (disch := omega) only [go_sem, ↓reduceIte, ↓lk, ↓ty_build78, dk, e1, heb, eRes] <;> with_reducible rfl))
        | ((first | apply awR hΓ | apply awG | apply awH mixedOK hΓ rfl (by kernel_rfl) | apply ovE rfl); (simp (disch := omega) only [go_sem, ↓reduceIte, ↓lk, ↓ty_build78, dk, e1, heb, eRes] <;> with_reducible rfl); exact trivial)
        | rfl)
theorem f_atom_step (d : Nat) (hd24 : d ≤ 24) (inner : List UInt8 → Option (Nat → Res)) (hin : ∀ s, rAtom s d = rAtomF s (inner s)) (gi : List D → Option D) (hgi : PureOK Tryz.prog 93 false gi)
    (h0 : ∀ s f, inner s = some f → 1 ≤ d ∧ (∀ a, a ≤ s.length → GoodR s a (f a)) ∧ ∀ a, s.length ≤ 1099511627776 → a ≤ s.length → gi [.str s, .int .i64 a, .int .i64 ((24 : Int) - d + 1), .int .i64 3] = some (eRes (f a))) (hn : ∀ s, inner s = none → d = 0) : PureOK Tryz.prog 121 false (g_atom d) := by
  have hΓ := (Γp f_skip_ok (Γp f_word_ok (Γp f_wrong_ok (Γp f_rname_ok (Γp hgi (Γn))))))
  refine pure_enc (n := 107) (rs := [.cell 6 78]) Tryz.func121 (by kernel_rfl) rfl (by kernel_rfl) (by kernel_rfl) ?_
  rintro ⟨s, a⟩ ⟨hs, ha⟩
  dsimp only at hs ha ⊢
  refine ⟨fun h => (by cases h), fun k hz0 => ?_⟩
  have h1 : a ≤ skipN s a ∧ skipN s a ≤ s.length := runN_le ha
  have e1 := g_skip_eq (s := s) ⟨hs, ha⟩
  rw [hin s]
  have hnn := hn s
  have h00 := h0 s
  generalize inner s = inn at *
  unfold rAtomF
  generalize skipN s a = b at *
  generalize ho : (24 : Int) - d = o at *
  rw [start_frame (by simp)]; simp only [enumV, go_sem, emptyH]
  repeat (first
    | (apply axJ; (focus ((with_reducible constructor) <;> rfl)))
    | (apply awT mixedOK hΓ (by kernel_rfl); (simp (disch := omega) only [go_sem, ↓reduceIte, dk, e1] <;> with_reducible rfl))
    | ((first | apply awR hΓ | apply awG | apply awH mixedOK hΓ rfl (by kernel_rfl) | apply ovE rfl); (simp (disch := omega) only [go_sem, ↓reduceIte, dk, e1] <;> with_reducible rfl); exact trivial)
    | rfl)
  refine awp_mid (fun _ : Unit => (frame 107 [(0, .data (.str s)), (1, .data (i64 b)), (2, .data (i64 o)), (6, .ptr 0 0), (24, .data (.bool (isAtI s b 40)))])) (fun _ => [(0, .box [.data (.int .i64 0), .data (.str []), .data (.str []), .nils, .data (.int .i64 0), .data (.int .i64 0)])]) 5 (fun _ => True) ?_ ?_
  · by_cases hb : b < s.length
    · have hat := isAtI_lt (c := 40) hb
      generalize hy : s[b] = y at hat
      repeat (first
        | (apply axJ; (focus ((with_reducible constructor) <;> rfl)))
        | (apply awT mixedOK hΓ (by kernel_rfl); (simp (disch := omega) only [go_sem, ↓reduceIte, dk, hy] <;> with_reducible rfl))
        | ((first | apply awR hΓ | apply awG | apply awH mixedOK hΓ rfl (by kernel_rfl) | apply ovE rfl); (simp (disch := omega) only [go_sem, ↓reduceIte, dk, hy] <;> with_reducible rfl); exact trivial)
        | rfl)
      exact ⟨(), trivial, Weak.v (by (simp [ConvF, lookV, Conv, ints, hat]; done)) (by (simp (disch := omega) only [TabSub, look, if_pos, if_neg, Obj.refsOK, refsOKs, AV.refsOK, decide_eq_true_eq, Bool.and_true, Bool.and_self, hat] ) <;> ((repeat' apply And.intro) <;> first | exact True.intro | omega | (simp; done) | rfl))⟩
    · have hat := isAtI_ge (s := s) (i := b) (c := 40) (by omega)
      repeat (first
        | (apply axJ; (focus ((with_reducible constructor) <;> rfl)))
        | (apply awT mixedOK hΓ (by kernel_rfl); (simp (disch := omega) only [go_sem, ↓reduceIte, dk] <;> with_reducible rfl))
        | ((first | apply awR hΓ | apply awG | apply awH mixedOK hΓ rfl (by kernel_rfl) | apply ovE rfl); (simp (disch := omega) only [go_sem, ↓reduceIte, dk] <;> with_reducible rfl); exact trivial)
        | rfl)
      exact ⟨(), trivial, Weak.v (by (simp [ConvF, lookV, Conv, ints, hat]; done)) (by (simp (disch := omega) only [TabSub, look, if_pos, if_neg, Obj.refsOK, refsOKs, AV.refsOK, decide_eq_true_eq, Bool.and_true, Bool.and_self, hat] ) <;> ((repeat' apply And.intro) <;> first | exact True.intro | omega | (simp; done) | rfl))⟩
  intro _ _
  cases hp : isAtI s b 40 with
  | true =>
    have hb := isAtI_true hp
    cases inn with
    | none =>
      have hd0 := hnn rfl
      subst hd0
      have e2 := g_wrong_eq (a := b) (e := 11) trivial
      repeat (first
        | (apply axJ; (focus ((with_reducible constructor) <;> rfl)))
        | (apply awT mixedOK hΓ (by kernel_rfl); (simp (disch := omega) only [go_sem, ↓reduceIte, dk, e2, eRes] <;> with_reducible rfl))
        | ((first | apply awR hΓ | apply awG | apply awH mixedOK hΓ rfl (by kernel_rfl) | apply ovE rfl); (simp (disch := omega) only [go_sem, ↓reduceIte, dk, e2, eRes] <;> with_reducible rfl); exact trivial)
        | rfl)
    | some f =>
      obtain ⟨hd1, hgf, hgi2⟩ := h00 f rfl
      have e2 := hgi2 (b + 1) hs (by omega)
      have hg := hgf (b + 1) (by omega)
      simp only
      generalize f (b + 1) = r at *
      rw [show ((b + 1 : Nat) : Int) = (b : Int) + 1 by omega] at e2
      by_cases he : r.err = 0
      · have heb : (r.err != 0) = false := by rw [he]; rfl
        have h2 := hg.lt he
        have h4 : r.at' ≤ skipN s r.at' ∧ skipN s r.at' ≤ s.length := runN_le hg.le
        have e3 := g_skip_eq (s := s) ⟨hs, hg.le⟩
        rw [heb]
        generalize skipN s r.at' = c at *
        have e4 := g_wrong_eq (a := c) (e := 4) trivial
        repeat (first
          | (apply axJ; (focus ((with_reducible constructor) <;> rfl)))
          | (apply awT mixedOK hΓ (by kernel_rfl); (simp (disch := omega) only [go_sem, ↓reduceIte, ↓lk, dk, e2, eRes, heb, e3] <;> with_reducible rfl))
          | ((first | apply awR hΓ | apply awG | apply awH mixedOK hΓ rfl (by kernel_rfl) | apply ovE rfl); (simp (disch := omega) only [go_sem, ↓reduceIte, ↓lk, dk, e2, eRes, heb, e3] <;> with_reducible rfl); exact trivial)
          | rfl)
        by_cases hc : c < s.length
        · have hat := isAtI_lt (c := 41) hc
          have hcl : ((c : Int) == (s.length : Int)) = false := by rw [beq_eq_false_iff_ne]; omega
          generalize hy : s[c] = y at hat
          cases hq : isAtI s c 41 with
          | true =>
            rw [hq] at hat
            have hat2 : ((y.toNat : Int) != 41) = false := by rw [bne, ← hat]; rfl
            repeat (first
              | (apply axJ; (focus ((with_reducible constructor) <;> rfl)))
              | (apply awT mixedOK hΓ (by kernel_rfl); (simp (disch := omega) only [go_sem, ↓reduceIte, ↓lk, dk, hy, hcl, hat2, eRes] <;> with_reducible rfl))
              | ((first | apply awR hΓ | apply awG | apply awH mixedOK hΓ rfl (by kernel_rfl) | apply ovE rfl); (simp (disch := omega) only [go_sem, ↓reduceIte, ↓lk, dk, hy, hcl, hat2, eRes] <;> with_reducible rfl); exact trivial)
              | rfl)
            (try (simp only [if_true, if_false, Bool.false_eq_true, eRes, lx_kind, lx_name, lx_exc, lx_kids, List.map_append, List.map_cons, List.map_nil, eX_eq, he]; try rfl))
          | false =>
            rw [hq] at hat
            have hat2 : ((y.toNat : Int) != 41) = true := by rw [bne, ← hat]; rfl
            repeat (first
              | (apply axJ; (focus ((with_reducible constructor) <;> rfl)))
              | (apply awT mixedOK hΓ (by kernel_rfl); (simp (disch := omega) only [go_sem, ↓reduceIte, ↓lk, dk, hy, hcl, hat2, eRes, e4] <;> with_reducible rfl))
              | ((first | apply awR hΓ | apply awG | apply awH mixedOK hΓ rfl (by kernel_rfl) | apply ovE rfl); (simp (disch := omega) only [go_sem, ↓reduceIte, ↓lk, dk, hy, hcl, hat2, eRes, e4] <;> with_reducible rfl); exact trivial)
              | rfl)
        · have hat := isAtI_ge (s := s) (i := c) (c := 41) (by omega)
          have hcl : ((c : Int) == (s.length : Int)) = true := by rw [beq_iff_eq]; omega
          rw [hat]
          repeat (first
            | (apply axJ; (focus ((with_reducible constructor) <;> rfl)))
            | (apply awT mixedOK hΓ (by kernel_rfl); (simp (disch := omega) only [go_sem, ↓reduceIte, ↓lk, dk, hcl, eRes, e4] <;> with_reducible rfl))
            | ((first | apply awR hΓ | apply awG | apply awH mixedOK hΓ rfl (by kernel_rfl) | apply ovE rfl); (simp (disch := omega) only [go_sem, ↓reduceIte, ↓lk, dk, hcl, eRes, e4] <;> with_reducible rfl); exact trivial)
            | rfl)
      · have heb : (r.err != 0) = true := by simp [bne, he]
        rw [heb]
        repeat (first
          | (apply axJ; (focus ((with_reducible constructor) <;> rfl)))
          | (apply awT mixedOK hΓ (by kernel_rfl); (simp (disch := omega) only [go_sem, ↓reduceIte, ↓lk, dk, e2, eRes, heb] <;> with_reducible rfl))
          | ((first | apply awR hΓ | apply awG | apply awH mixedOK hΓ rfl (by kernel_rfl) | apply ovE rfl); (simp (disch := omega) only [go_sem, ↓reduceIte, ↓lk, dk, e2, eRes, heb] <;> with_reducible rfl); exact trivial)
          | rfl)
  | false =>
    have e2 := g_rname_eq (s := s) ⟨hs, h1.2⟩
    have hg := goodR_name (s := s) (a := b) h1.2 (Nat.le_refl _)
    generalize rName s b = r at *
    by_cases he : r.err = 0
    case neg =>
      have heb : (r.err != 0) = true := by simp [bne, he]
      rw [heb]
      repeat (first
        | (apply axJ; (focus ((with_reducible constructor) <;> rfl)))
        | (apply awT mixedOK hΓ (by kernel_rfl); (simp (disch := omega) only [go_sem, ↓reduceIte, ↓lk, dk, e2, eRes, heb] <;> with_reducible rfl))
        | ((first | apply awR hΓ | apply awG | apply awH mixedOK hΓ rfl (by kernel_rfl) | apply ovE rfl); (simp (disch := omega) only [go_sem, ↓reduceIte, ↓lk, dk, e2, eRes, heb] <;> with_reducible rfl); exact trivial)
        | rfl)
    have heb : (r.err != 0) = false := by rw [he]; rfl
    have h2 := hg.lt he
    have h4 : r.at' ≤ skipN s r.at' ∧ skipN s r.at' ≤ s.length := runN_le hg.le
    have e3 := g_skip_eq (s := s) ⟨hs, hg.le⟩
    rw [heb]
    have hw := wordN_le s _ h4.2
    generalize skipN s r.at' = c at *
    repeat (first
      | (apply axJ; (focus ((with_reducible constructor) <;> rfl)))
      | (apply awT mixedOK hΓ (by kernel_rfl); (simp (disch := omega) only [go_sem, ↓reduceIte, ↓lk, dk, e2, eRes, heb, e3] <;> with_reducible rfl))
      | ((first | apply awR hΓ | apply awG | apply awH mixedOK hΓ rfl (by kernel_rfl) | apply ovE rfl); (simp (disch := omega) only [go_sem, ↓reduceIte, ↓lk, dk, e2, eRes, heb, e3] <;> with_reducible rfl); exact trivial)
      | rfl)
    refine awp_mid (fun _ : Unit => (frame 107 [(0, .data (.str s)), (6, .ptr 0 0), (9, .ptr 8 0), (10, .data (i64 c)), (79, .data (.bool (isAtI s c 43)))])) (fun _ => [(0, .box [.data (.int .i64 0), .data (.str []), .data (.str []), .nils, .data (.int .i64 0), .data (.int .i64 0)]), (8, .box [.data (.int .i64 r.expr.kind), .data (.str r.expr.name), .data (.str r.expr.exc), .data (.list (r.expr.kids.map eX)), .data (.int .i64 r.at'), .data (.int .i64 r.err)])]) 20 (fun _ => True) ?_ ?_
    · by_cases hb : c < s.length
      · have hat := isAtI_lt (c := 43) hb
        generalize hy : s[c] = y at hat
        repeat (first
          | (apply axJ; (focus ((with_reducible constructor) <;> rfl)))
          | (apply awT mixedOK hΓ (by kernel_rfl); (simp (disch := omega) only [go_sem, ↓reduceIte, dk, hy] <;> with_reducible rfl))
          | ((first | apply awR hΓ | apply awG | apply awH mixedOK hΓ rfl (by kernel_rfl) | apply ovE rfl); (simp (disch := omega) only [go_sem, ↓reduceIte, dk, hy] <;> with_reducible rfl); exact trivial)
          | rfl)
        exact ⟨(), trivial, Weak.v (by (simp [ConvF, lookV, Conv, ints, hat]; done)) (by (simp (disch := omega) only [TabSub, look, if_pos, if_neg, Obj.refsOK, refsOKs, AV.refsOK, decide_eq_true_eq, Bool.and_true, Bool.and_self, hat] ) <;> ((repeat' apply And.intro) <;> first | exact True.intro | omega | (simp; done) | rfl))⟩
      · have hat := isAtI_ge (s := s) (i := c) (c := 43) (by omega)
        repeat (first
          | (apply axJ; (focus ((with_reducible constructor) <;> rfl)))
          | (apply awT mixedOK hΓ (by kernel_rfl); (simp (disch := omega) only [go_sem, ↓reduceIte, dk] <;> with_reducible rfl))
          | ((first | apply awR hΓ | apply awG | apply awH mixedOK hΓ rfl (by kernel_rfl) | apply ovE rfl); (simp (disch := omega) only [go_sem, ↓reduceIte, dk] <;> with_reducible rfl); exact trivial)
          | rfl)
        exact ⟨(), trivial, Weak.v (by (simp [ConvF, lookV, Conv, ints, hat]; done)) (by (simp (disch := omega) only [TabSub, look, if_pos, if_neg, Obj.refsOK, refsOKs, AV.refsOK, decide_eq_true_eq, Bool.and_true, Bool.and_self, hat] ) <;> ((repeat' apply And.intro) <;> first | exact True.intro | omega | (simp; done) | rfl))⟩
    intro _ _
    cases hq : isAtI s c 43 with
    | true =>
      repeat (first
        | (apply axJ; (focus ((with_reducible constructor) <;> rfl)))
        | (apply awT mixedOK hΓ (by kernel_rfl); (simp (disch := omega) only [go_sem, ↓reduceIte, ↓lk, dk, eRes] <;> with_reducible rfl))
        | ((first | apply awR hΓ | apply awG | apply awH mixedOK hΓ rfl (by kernel_rfl) | apply ovE rfl); (simp (disch := omega) only [go_sem, ↓reduceIte, ↓lk, dk, eRes] <;> with_reducible rfl); exact trivial)
        | rfl)
      (try (simp only [if_true, if_false, Bool.false_eq_true, eRes, lx_kind, lx_name, lx_exc, lx_kids, List.map_append, List.map_cons, List.map_nil, eX_eq, he]; try rfl))
    | false =>
      have e4 := g_word_eq (s := s) ⟨hs, h4.2⟩
      generalize wordN s c = w at *
      cases hwb : (w == [119, 105, 116, 104]) with
      | true =>
        have hwl := congrArg List.length (eq_of_beq hwb)
        simp only [List.length_cons, List.length_nil] at hwl
        have e5 := g_rname_eq (s := s) (a := c + 4) ⟨hs, by omega⟩
        rw [show ((c + 4 : Nat) : Int) = (c : Int) + 4 by omega] at e5
        generalize rName s (c + 4) = q at *
        by_cases hqe : q.err = 0
        · have hqb : (q.err != 0) = false := by rw [hqe]; rfl
          rw [hqb]
          repeat (first
            | (apply axJ; (focus ((with_reducible constructor) <;> rfl)))
            | (apply awT mixedOK hΓ (by kernel_rfl); (simp (disch := omega) only [go_sem, ↓reduceIte, ↓lk, dk, e4, hwb, e5, hqb, eRes] <;> with_reducible rfl))
            | ((first | apply awR hΓ | apply awG | apply awH mixedOK hΓ rfl (by kernel_rfl) | apply ovE rfl); (simp (disch := omega) only [go_sem, ↓reduceIte, ↓lk, dk, e4, hwb, e5, hqb, eRes] <;> with_reducible rfl); exact trivial)
            | rfl)
          (try (simp only [if_true, if_false, Bool.false_eq_true, eRes, lx_kind, lx_name, lx_exc, lx_kids, List.map_append, List.map_cons, List.map_nil, eX_eq, he]; try rfl))
        · have hqb : (q.err != 0) = true := by simp [bne, hqe]
          rw [hqb]
          repeat (first
            | (apply axJ; (focus ((with_reducible constructor) <;> rfl)))
            | (apply awT mixedOK hΓ (by kernel_rfl); (simp (disch := omega) only [go_sem, ↓reduceIte, ↓lk, dk, e4, hwb, e5, hqb, eRes] <;> with_reducible rfl))
            | ((first | apply awR hΓ | apply awG | apply awH mixedOK hΓ rfl (by kernel_rfl) | apply ovE rfl); (simp (disch := omega) only [go_sem, ↓reduceIte, ↓lk, dk, e4, hwb, e5, hqb, eRes] <;> with_reducible rfl); exact trivial)
            | rfl)
          (try (simp only [if_true, if_false, Bool.false_eq_true, eRes, lx_kind, lx_name, lx_exc, lx_kids, List.map_append, List.map_cons, List.map_nil, eX_eq, he]; try rfl))
      | false =>
        repeat (first
          | (apply axJ; (focus ((with_reducible constructor) <;> rfl)))
          | (apply awT mixedOK hΓ (by kernel_rfl); (simp (disch := omega) only [go_sem, ↓reduceIte, ↓lk, dk, e4, hwb, eRes] <;> with_reducible rfl))
          | ((first | apply awR hΓ | apply awG | apply awH mixedOK hΓ rfl (by kernel_rfl) | apply ovE rfl); (simp (disch := omega) only [go_sem, ↓reduceIte, ↓lk, dk, e4, hwb, eRes] <;> with_reducible rfl); exact trivial)
          | rfl)
        (try (simp only [if_true, if_false, Bool.false_eq_true, eRes, lx_kind, lx_name, lx_exc, lx_kids, List.map_append, List.map_cons, List.map_nil, eX_eq, he]; try rfl))
theorem f_atom_ok : ∀ d : Nat, d ≤ 24 → PureOK Tryz.prog 121 false (g_atom d)
 | 0, h => f_atom_step 0 h (fun _ => none) (fun _ => rfl) (fun _ => none) (fun ds d hd => by cases hd) (fun s f hf => by cases hf) (fun _ _ => rfl)
 | d + 1, h => f_atom_step (d + 1) h (fun s => some (rOrs s (rAtom s d))) (fun _ => rfl) (g_ors d) (f_ors_ok d (by omega) (f_ands_ok d (by omega) (f_atom_ok d (by omega)))) (fun s f hf => by
    cases hf
    refine ⟨by omega, fun a ha => good_ors (fun a ha => good_atom d ha) ha, fun a hs ha => ?_⟩
    rw [show (24 : Int) - ((d + 1 : Nat) : Int) + 1 = (24 : Int) - d by omega]
    exact g_ors_eq ⟨hs, ha⟩) (fun s hf => by cases hf)
theorem f_top_ok : PureOK Tryz.prog 93 false (g_ors 24) := f_ors_ok 24 (Nat.le_refl _) (f_ands_ok 24 (Nat.le_refl _) (f_atom_ok 24 (Nat.le_refl _)))
def rParse (s : List UInt8) : Res :=
  if decide ((s.length : Int) > 1024) then wrongR 0 10
  else if (rOrs s (rAtom s 24) 0).err != 0 then rOrs s (rAtom s 24) 0
  else if decide ((rOrs s (rAtom s 24) 0).at' < s.length) then wrongR (rOrs s (rAtom s 24) 0).at' 4
  else if decide (((rOrs s (rAtom s 24) 0).expr.size : Int) > 64) then wrongR 0 10
  else if decide (((rOrs s (rAtom s 24) 0).expr.hgt : Int) > 24) then wrongR 0 11
  else ⟨(rOrs s (rAtom s 24) 0).expr, 0, 0⟩
theorem bd_mono {m m' : Nat} (h : m ≤ m') {x : LX} : x.Bd m → x.Bd m' := by
  refine LX.ind (p := fun x => x.Bd m → x.Bd m') (fun k n e l ih hx => ?_) x
  exact .mk _ (Nat.le_trans hx.n h) (Nat.le_trans hx.e h) (Nat.le_trans hx.z h) (fun y hy => ih y hy (hx.k hy))
noncomputable def g_parseR : List D → Option D := encSpec (fun x : (List UInt8) => [.str x]) (fun x : (List UInt8) => x.length ≤ 1099511627776) (fun x : (List UInt8) => eRes (rParse x))
theorem g_parseR_eq {s : List UInt8} (hd : s.length ≤ 1099511627776) : g_parseR [.str s] = some (eRes (rParse s)) := encSpec_eq (x := s) hd fun y hy => by
    simp only [List.cons.injEq, and_true, true_and, D.str.injEq, D.int.injEq, D.list.injEq, D.bool.injEq, D.agg.injEq, D.clo.injEq, Int.natCast_inj, inj_ie, lx_ie] at hy
    rw [hy]
theorem f_parseR_ok : PureOK Tryz.prog 55 false g_parseR := by
  have hΓ := Γp f_wrong_ok (Γp f_top_ok (Γp (f_size_ok 1099511627776) (Γp (f_depthR_ok 1099511627776) (Γn))))
  refine pure_enc (n := 35) (rs := [.cell 2 78]) Tryz.func55 (by kernel_rfl) rfl (by kernel_rfl) (by kernel_rfl) ?_
  rintro s hd
  (try dsimp only at hd ⊢)
  refine ⟨fun h => (by cases h), fun k hz0 => ?_⟩
  have hw := fun a e => g_wrong_eq (a := a) (e := e) trivial
  have hw0 : ∀ e, g_wrong [.int .i64 0, .int .i64 e] = some (eRes (wrongR 0 e)) := fun e => hw 0 e
  have hg := good_ors (s := s) (a := 0) (fun a ha => good_atom 24 ha) (Nat.zero_le _)
  have e1 : g_ors 24 [.str s, .int .i64 0, .int .i64 0, .int .i64 3] = some (eRes (rOrs s (rAtom s 24) 0)) := g_ors_eq (d := 24) (a := 0) ⟨hd, Nat.zero_le _⟩
  unfold rParse
  generalize hc0 : decide ((s.length : Int) > 1024) = c0
  generalize rOrs s (rAtom s 24) 0 = r at *
  have e2 := hw r.at' 4
  rw [start_frame (by simp)]; simp only [enumV, go_sem, emptyH]
  cases c0
  case true =>
    repeat (first
      | (apply axJ; (focus ((with_reducible constructor) <;> rfl)))
      | (apply awT mixedOK hΓ (by kernel_rfl); (simp (disch := omega) only [go_sem, ↓reduceIte, ↓lk, ↓ty_build33, hc0, hw0, eRes] <;> with_reducible rfl))
      | ((first | apply awR hΓ | apply awG | apply awH mixedOK hΓ rfl (by kernel_rfl) | apply ovE rfl); (simp (disch := omega) only [go_sem, ↓reduceIte, ↓lk, ↓ty_build33, hc0, hw0, eRes] <;> with_reducible rfl); exact trivial)
      | rfl)
    (try (simp only [if_true, if_false, Bool.false_eq_true, eRes, lx_kind, lx_name, lx_exc, lx_kids, List.map_append, List.map_cons, List.map_nil, eX_eq, he]; try rfl))
  by_cases he : r.err = 0
  case neg =>
    have heb : (r.err != 0) = true := by simp [bne, he]
    rw [heb]
    repeat (first
      | (apply axJ; (focus ((with_reducible constructor) <;> rfl)))
      | (apply awT mixedOK hΓ (by kernel_rfl); (simp (disch := omega) only [go_sem, ↓reduceIte, ↓lk, dk, hc0, e1, eRes, heb] <;> with_reducible rfl))
      | ((first | apply awR hΓ | apply awG | apply awH mixedOK hΓ rfl (by kernel_rfl) | apply ovE rfl); (simp (disch := omega) only [go_sem, ↓reduceIte, ↓lk, dk, hc0, e1, eRes, heb] <;> with_reducible rfl); exact trivial)
      | rfl)
    (try (simp only [if_true, if_false, Bool.false_eq_true, eRes, lx_kind, lx_name, lx_exc, lx_kids, List.map_append, List.map_cons, List.map_nil, eX_eq, he]; try rfl))
  have heb : (r.err != 0) = false := by rw [he]; rfl
  rw [heb]
  have hbd := bd_mono hd (hg.bd he)
  have hh : r.expr.hgt ≤ 1099511627776 := Nat.le_trans r.expr.hgt_le hbd.z
  have e3 := g_size_eq ⟨hh, hbd⟩
  have e4 := g_depthR_eq ⟨hh, hbd⟩
  generalize hc1 : decide (r.at' < s.length) = c1
  generalize hc2 : decide ((r.expr.size : Int) > 64) = c2
  generalize hc3 : decide ((r.expr.hgt : Int) > 24) = c3
  (cases c1; (focus (cases c2; (focus (cases c3; (focus ((repeat (first | (apply axJ; (focus ((with_reducible constructor) <;> rfl))) | (apply awT mixedOK hΓ (by kernel_rfl); (simp (disch := omega) only [go_sem, ↓reduceIte, ↓lk, ↓ty_build78, hc0, hc1, hc2, hc3, e1, e2, e3, e4, hw0, eRes, heb, Int.ofNat_lt] <;> with_reducible rfl)) | ((first | apply awR hΓ | apply awG | apply awH mixedOK hΓ rfl (by kernel_rfl) | apply ovE rfl); (simp (disch := omega) only [go_sem, ↓reduceIte, ↓lk, ↓ty_build78, hc0, hc1, hc2, hc3, e1, e2, e3, e4, hw0, eRes, heb, Int.ofNat_lt] <;> with_reducible rfl); exact trivial) | rfl)); (first | done | rfl | (try (simp only [if_true, if_false, Bool.false_eq_true, eRes, lx_kind, lx_name, lx_exc, lx_kids, List.map_append, List.map_cons, List.map_nil, eX_eq, he]; try rfl))))); (focus ((repeat (first | (apply axJ; (focus ((with_reducible constructor) <;> rfl))) | (apply awT mixedOK hΓ (by kernel_rfl); (simp (disch := omega) only [go_sem, ↓reduceIte, ↓lk, ↓ty_build78, hc0, hc1, hc2, hc3, e1, e2, e3, e4, hw0, eRes, heb, Int.ofNat_lt] <;> with_reducible rfl)) | ((first | apply awR hΓ | apply awG | apply awH mixedOK hΓ rfl (by kernel_rfl) | apply ovE rfl); (simp (disch := omega) only [go_sem, ↓reduceIte, ↓lk, ↓ty_build78, hc0, hc1, hc2, hc3, e1, e2, e3, e4, hw0, eRes, heb, Int.ofNat_lt] <;> with_reducible rfl); exact trivial) | rfl)); (first | done | rfl | (try (simp only [if_true, if_false, Bool.false_eq_true, eRes, lx_kind, lx_name, lx_exc, lx_kids, List.map_append, List.map_cons, List.map_nil, eX_eq, he]; try rfl))))))); (focus ((repeat (first | (apply axJ; (focus ((with_reducible constructor) <;> rfl))) | (apply awT mixedOK hΓ (by kernel_rfl); (simp (disch := omega) only [go_sem, ↓reduceIte, ↓lk, ↓ty_build78, hc0, hc1, hc2, hc3, e1, e2, e3, e4, hw0, eRes, heb, Int.ofNat_lt] <;> with_reducible rfl)) | ((first | apply awR hΓ | apply awG | apply awH mixedOK hΓ rfl (by kernel_rfl) | apply ovE rfl); (simp (disch := omega) only [go_sem, ↓reduceIte, ↓lk, ↓ty_build78, hc0, hc1, hc2, hc3, e1, e2, e3, e4, hw0, eRes, heb, Int.ofNat_lt] <;> with_reducible rfl); exact trivial) | rfl)); (first | done | rfl | (try (simp only [if_true, if_false, Bool.false_eq_true, eRes, lx_kind, lx_name, lx_exc, lx_kids, List.map_append, List.map_cons, List.map_nil, eX_eq, he]; try rfl))))))); (focus ((repeat (first | (apply axJ; (focus ((with_reducible constructor) <;> rfl))) | (apply awT mixedOK hΓ (by kernel_rfl); (simp (disch := omega) only [go_sem, ↓reduceIte, ↓lk, ↓ty_build78, hc0, hc1, hc2, hc3, e1, e2, e3, e4, hw0, eRes, heb, Int.ofNat_lt] <;> with_reducible rfl)) | ((first | apply awR hΓ | apply awG | apply awH mixedOK hΓ rfl (by kernel_rfl) | apply ovE rfl); (simp (disch := omega) only [go_sem, ↓reduceIte, ↓lk, ↓ty_build78, hc0, hc1, hc2, hc3, e1, e2, e3, e4, hw0, eRes, heb, Int.ofNat_lt] <;> with_reducible rfl); exact trivial) | rfl)); (first | done | rfl | (try (simp only [if_true, if_false, Bool.false_eq_true, eRes, lx_kind, lx_name, lx_exc, lx_kids, List.map_append, List.map_cons, List.map_nil, eX_eq, he]; try rfl))))))
end Go.Ab
