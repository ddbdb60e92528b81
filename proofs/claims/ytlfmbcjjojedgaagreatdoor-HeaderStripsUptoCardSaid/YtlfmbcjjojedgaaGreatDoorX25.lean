/-
  One text of the proof (own work): contracts of functions of the program, by the abstract machine.
-/
import Derived.Test.YtlfmbcjjojedgaaGreatDoorX19
import Derived.Test.YtlfmbcjjojedgaaGreatDoorX24
import Derived.Test.YtlfmbcjjojedgaaGreatDoorX22
set_option linter.unusedVariables false
set_option linter.unusedSimpArgs false
namespace Go.Ab
open Go Go.RowKit Go.Proofs Go.Shelf
set_option maxRecDepth 10000
set_option maxHeartbeats 8000000
noncomputable def g_readP : List D → Option D := encSpec (fun x : Bs × Int => [.str x.1, i64 x.2]) (fun x : Bs × Int => x.1.length ≤ 1099511627776) (fun x : Bs × Int => .tup [.agg [i64 (hdB x.2 x.1).1.kind, i64 (hdB x.2 x.1).1.line, .str (hdB x.2 x.1).1.text], .bool (hdB x.2 x.1).2])
theorem g_readP_eq {s : Bs} {n : Int} (hd : s.length ≤ 1099511627776) : g_readP [.str s, .int .i64 n] = some (.tup [.agg [i64 (hdB n s).1.kind, i64 (hdB n s).1.line, .str (hdB n s).1.text], .bool (hdB n s).2]) := encSpec_eq (x := (s, n)) hd fun y hy => by
    obtain ⟨y0, y1⟩ := y; simp only [List.cons.injEq, and_true, true_and, D.str.injEq, D.int.injEq, D.list.injEq, D.bool.injEq, D.agg.injEq, D.clo.injEq, Int.natCast_inj, inj_ie, UInt8.toNat_inj] at hy
    (try obtain ⟨rfl, rfl⟩ := hy)
    (try subst_vars)
    rfl
theorem f_readP_ok : PureOK Tryz.prog 46 true g_readP := by
  have hΓ := Γp f_trimLC_ok (Γp f_trimC_ok (Γp f_wordsP_ok (Γp f_cutPs_ok (Γp f_isText_ok (Γn)))))
  refine pure_enc (n := 37) (rs := [.cell 4 26, .tmp 5]) Tryz.func46 (by kernel_rfl) rfl (by kernel_rfl) (by kernel_rfl) ?_
  rintro ⟨s, n⟩ hd
  (try dsimp only at hd ⊢)
  refine ⟨fun _ => by (refine .tup _ (fun d hd => ?_); simp only [List.mem_cons, List.not_mem_nil, or_false] at hd; repeat (first | exact .int _ _ | exact .bool _ | exact .str _ | (rcases hd with rfl | hd) | subst hd | (refine .agg _ (fun d hd => ?_); simp only [List.mem_cons, List.not_mem_nil, or_false] at hd))), fun k hz0 => ?_⟩
  unfold hdB hdT
  have e0 := g_trimLC_eq (s := s) (c := [32, 9, 47, 42, 35, 59, 45]) ⟨hd, by simp, by unfold asciiS; decide⟩
  rw [pre_prog] at e0
  have hl := dw_len preB s
  generalize s.dropWhile preB = t at *
  have ew := g_wordsP_eq
  have e1 := g_cutPs_eq (s := t) (p := kLic) ⟨by omega, by decide⟩
  have e2 := g_cutPs_eq (s := t) (p := kCop) ⟨by omega, by decide⟩
  have l1 : (t.drop kLic.length).length ≤ 1099511627776 := by rw [List.length_drop]; omega
  have l2 : (t.drop kCop.length).length ≤ 1099511627776 := by rw [List.length_drop]; omega
  have t1 := g_trimC_eq (s := t.drop kLic.length) (c := [32, 9, 42, 47]) ⟨l1, by simp, by unfold asciiS; decide⟩
  have t2 := g_trimC_eq (s := t.drop kCop.length) (c := [32, 9, 42, 47]) ⟨l2, by simp, by unfold asciiS; decide⟩
  rw [trim_prog] at t1 t2
  have x1 := g_isText_eq (s := trimE (t.drop kLic.length)) (Nat.le_trans (trimE_len _) l1)
  have x2 := g_isText_eq (s := trimE (t.drop kCop.length)) (Nat.le_trans (trimE_len _) l2)
  unfold cutPf at e1 e2
  rw [show kLic.length = 8 from rfl] at e1 t1 x1 l1
  rw [show kCop.length = 10 from rfl] at e2 t2 x2 l2
  generalize trimE (t.drop 8) = y1 at *
  generalize trimE (t.drop 10) = y2 at *
  generalize isT y1 = z1 at *
  generalize isT y2 = z2 at *
  generalize t.drop 8 = r1 at *
  generalize t.drop 10 = r2 at *
  generalize hk1 : kLic = k1 at *
  generalize hk2 : kCop = k2 at *
  rw [start_frame (by simp)]; simp only [enumV, go_sem, emptyH]
  repeat (first
    | (apply axJ; (focus ((with_reducible constructor) <;> rfl)))
    | (apply awT mixedOK hΓ (by kernel_rfl); (simp (disch := omega) only [go_sem, ↓reduceIte, dk, ↓lk, Int.reduceBEq, Int.reduceBNe, Bool.true_bne, Bool.false_bne, Bool.not_true, Bool.not_false, e0, ew] <;> with_reducible rfl))
    | ((first | apply awR hΓ | apply awG | apply awH mixedOK hΓ rfl (by kernel_rfl) | apply ovE rfl); (simp (disch := omega) only [go_sem, ↓reduceIte, dk, ↓lk, Int.reduceBEq, Int.reduceBNe, Bool.true_bne, Bool.false_bne, Bool.not_true, Bool.not_false, e0, ew] <;> with_reducible rfl); exact trivial)
    | rfl)
  refine awp_loop_at (X := Nat) (fun i => (frame 37 [(0, .data (.str t)), (1, .data (i64 n)), (4, .ptr 0 0), (13, .data (.list [.str k1, .str k2])), (14, .data (i64 ((2 : Nat) : Int))), (15, .data (i64 i))])) (fun _ => [(0, .box [.data (.int .i64 0), .data (.int .i64 0), .data (.str [])])]) 8
    (fun i => i ≤ 2 ∧ (1 ≤ i → k1.isPrefixOf t = false) ∧ (2 ≤ i → k2.isPrefixOf t = false)) (fun i => 2 - i) 0 ⟨by omega, fun h => absurd h (by omega), fun h => absurd h (by omega)⟩ (Weak.w) ?_
  rintro i ⟨hi, h1, h2⟩
  have n1 : (((1 : Nat) : Int)).toNat = 1 := rfl
  have n0 : (((0 : Nat) : Int)).toNat = 0 := rfl
  match i, hi, h1, h2 with
  | 0, _, _, _ =>
    clear e2 t2 x2
    generalize hq : k1.isPrefixOf t = q at *
    cases q
    · have e1 : g_cutPs [.str t, .str k1] = some (.tup [.str t, .bool false]) := e1
      repeat (first
        | (apply axJ; (focus ((with_reducible constructor) <;> rfl)))
        | (apply awT mixedOK hΓ (by kernel_rfl); (simp (disch := omega) only [go_sem, ↓reduceIte, dk, ↓lk, Int.reduceBEq, Int.reduceBNe, Bool.true_bne, Bool.false_bne, Bool.not_true, Bool.not_false, Int.reduceToNat, List.getElem?_cons_zero, List.getElem?_cons_succ, e1] <;> with_reducible rfl))
        | ((first | apply awR hΓ | apply awG | apply awH mixedOK hΓ rfl (by kernel_rfl) | apply ovE rfl); (simp (disch := omega) only [go_sem, ↓reduceIte, dk, ↓lk, Int.reduceBEq, Int.reduceBNe, Bool.true_bne, Bool.false_bne, Bool.not_true, Bool.not_false, Int.reduceToNat, List.getElem?_cons_zero, List.getElem?_cons_succ, e1] <;> with_reducible rfl); exact trivial)
        | rfl)
      exact ⟨1, ⟨by omega, fun _ => rfl, fun h => absurd h (by omega)⟩, by omega, Weak.w⟩
    · have e1 : g_cutPs [.str t, .str k1] = some (.tup [.str r1, .bool true]) := e1
      rw [if_pos rfl]
      repeat (first
        | (apply axJ; (focus ((with_reducible constructor) <;> rfl)))
        | (apply awT mixedOK hΓ (by kernel_rfl); (simp (disch := omega) only [go_sem, ↓reduceIte, dk, ↓lk, ↓ty_build26, Int.reduceBEq, Int.reduceBNe, Bool.true_bne, Bool.false_bne, Bool.not_true, Bool.not_false, Int.reduceToNat, List.getElem?_cons_zero, List.getElem?_cons_succ, e1, t1, x1] <;> with_reducible rfl))
        | ((first | apply awR hΓ | apply awG | apply awH mixedOK hΓ rfl (by kernel_rfl) | apply ovE rfl); (simp (disch := omega) only [go_sem, ↓reduceIte, dk, ↓lk, ↓ty_build26, Int.reduceBEq, Int.reduceBNe, Bool.true_bne, Bool.false_bne, Bool.not_true, Bool.not_false, Int.reduceToNat, List.getElem?_cons_zero, List.getElem?_cons_succ, e1, t1, x1] <;> with_reducible rfl); exact trivial)
        | rfl)
      try rfl
  | 1, _, h1, _ =>
    clear e1 t1 x1
    rw [if_neg (by rw [h1 (by omega)]; decide)]
    generalize hq : k2.isPrefixOf t = q at *
    cases q
    · have e2 : g_cutPs [.str t, .str k2] = some (.tup [.str t, .bool false]) := e2
      repeat (first
        | (apply axJ; (focus ((with_reducible constructor) <;> rfl)))
        | (apply awT mixedOK hΓ (by kernel_rfl); (simp (disch := omega) only [go_sem, ↓reduceIte, dk, ↓lk, Int.reduceBEq, Int.reduceBNe, Bool.true_bne, Bool.false_bne, Bool.not_true, Bool.not_false, Int.reduceToNat, List.getElem?_cons_zero, List.getElem?_cons_succ, e2] <;> with_reducible rfl))
        | ((first | apply awR hΓ | apply awG | apply awH mixedOK hΓ rfl (by kernel_rfl) | apply ovE rfl); (simp (disch := omega) only [go_sem, ↓reduceIte, dk, ↓lk, Int.reduceBEq, Int.reduceBNe, Bool.true_bne, Bool.false_bne, Bool.not_true, Bool.not_false, Int.reduceToNat, List.getElem?_cons_zero, List.getElem?_cons_succ, e2] <;> with_reducible rfl); exact trivial)
        | rfl)
      exact ⟨2, ⟨by omega, fun _ => h1 (by omega), fun _ => rfl⟩, by omega, Weak.w⟩
    · have e2 : g_cutPs [.str t, .str k2] = some (.tup [.str r2, .bool true]) := e2
      rw [if_pos rfl]
      repeat (first
        | (apply axJ; (focus ((with_reducible constructor) <;> rfl)))
        | (apply awT mixedOK hΓ (by kernel_rfl); (simp (disch := omega) only [go_sem, ↓reduceIte, dk, ↓lk, ↓ty_build26, Int.reduceBEq, Int.reduceBNe, Bool.true_bne, Bool.false_bne, Bool.not_true, Bool.not_false, Int.reduceToNat, List.getElem?_cons_zero, List.getElem?_cons_succ, e2, t2, x2] <;> with_reducible rfl))
        | ((first | apply awR hΓ | apply awG | apply awH mixedOK hΓ rfl (by kernel_rfl) | apply ovE rfl); (simp (disch := omega) only [go_sem, ↓reduceIte, dk, ↓lk, ↓ty_build26, Int.reduceBEq, Int.reduceBNe, Bool.true_bne, Bool.false_bne, Bool.not_true, Bool.not_false, Int.reduceToNat, List.getElem?_cons_zero, List.getElem?_cons_succ, e2, t2, x2] <;> with_reducible rfl); exact trivial)
        | rfl)
      try rfl
  | 2, _, h1, h2 =>
    rw [if_neg (by rw [h1 (by omega)]; decide), if_neg (by rw [h2 (by omega)]; decide)]
    repeat (first
      | (apply axJ; (focus ((with_reducible constructor) <;> rfl)))
      | (apply awT mixedOK hΓ (by kernel_rfl); (simp (disch := omega) only [go_sem, ↓reduceIte, dk, ↓lk, ↓ty_build26, Int.reduceBEq, Int.reduceBNe, Bool.true_bne, Bool.false_bne, Bool.not_true, Bool.not_false, Int.reduceToNat, List.getElem?_cons_zero, List.getElem?_cons_succ, decide_false] <;> with_reducible rfl))
      | ((first | apply awR hΓ | apply awG | apply awH mixedOK hΓ rfl (by kernel_rfl) | apply ovE rfl); (simp (disch := omega) only [go_sem, ↓reduceIte, dk, ↓lk, ↓ty_build26, Int.reduceBEq, Int.reduceBNe, Bool.true_bne, Bool.false_bne, Bool.not_true, Bool.not_false, Int.reduceToNat, List.getElem?_cons_zero, List.getElem?_cons_succ, decide_false] <;> with_reducible rfl); exact trivial)
      | rfl)
    try rfl
end Go.Ab
namespace Go.Ab
open Go Go.RowKit Go.Proofs Go.Shelf
set_option maxRecDepth 100000
set_option maxHeartbeats 4000000
attribute [local go_sem] Oper.semAt_some
def enumL : Nat → List Bs → List (Nat × Bs)
  | _, [] => []
  | n, s :: r => (n, s) :: enumL (n + 1) r
theorem enumL_len : ∀ (l : List Bs) (n : Nat), (enumL n l).length = l.length
  | [], _ => rfl
  | s :: l, n => by rw [enumL, List.length_cons, enumL_len l, List.length_cons]
def intW : Value → Nat
  | .int _ n => n.toNat
  | _ => 0
theorem below_grown {A B : World} (h : Below A.heap.size A B) : A.grownBy B none := ⟨h.os, h.tape, h.output, h.size, fun k hk _ => h.block k hk⟩
theorem lines1_gives {W0 : World} {m bd : Nat} {s : Bs} {Kp : World → World → Prop} (hs : s.length ≤ 1099511627776) (hbd : bd < W0.heap.size) (hbx : Boxed W0 bd 9 (.string ⟨s.toArray⟩)) (hKp : ∀ A B v, Kp A B → Boxed A bd 9 v → Boxed B bd 9 v) :
    Gives Fence.wide m Tryz.prog 81 #[.pointer (some ⟨bd, 0, none⟩)] (fun p : Nat × Bs => #[.int .i64 p.1, .string ⟨p.2.toArray⟩]) Kp bd (fun xs => xs = enumL 0 (splitB 10 s)) (fun p => p.2.length ≤ s.length) (splitB 10 s).length W0 := by
  intro l J W hW hJc hJg hY h0
  have hbW : Boxed W bd 9 (.string ⟨s.toArray⟩) := (hW.block bd hbd).trans hbx
  refine callsIn_of_wp Tryz.func81 rfl trivial ?_ rfl
  simp only [Tryz.ntmps81, List.size_toArray, List.length_cons, List.length_nil, Nat.reduceAdd, Nat.reduceSub, Array.replicate_succ, Array.replicate_zero, List.push_toArray, List.append_toArray, List.nil_append, List.cons_append]
  gi_wp2
  gi_loopw [3] (fun p wr => ∃ (pre : List (Nat × Bs)) (d : Bs) (k : Nat), p = .int .i64 k ∧ enumL 0 (splitB 10 s) = pre ++ enumL k (splitB 10 d) ∧ pre.length = k ∧ d.length ≤ s.length ∧ Boxed wr bd 9 (.string ⟨d.toArray⟩) ∧ J pre wr)
    (fun p wr => (splitB 10 s).length - intW p)
  case atStart => exact ⟨[], s, 0, rfl, rfl, rfl, Nat.le_refl _, hbW, h0⟩
  case round =>
    obtain ⟨pre, d, k, rfl, he, hk, hd, hb, hJ⟩ := hrel
    have hc := hb.cell
    have hcut := f_cutS1_ok.valsT (g_cutS1_eq (s := d) (c := 10) (Nat.le_trans hd hs)) rfl rfl wr
    obtain ⟨c1, c2, c3⟩ := cutB_split 10 d
    generalize cutB 10 d = q at *
    obtain ⟨a, b, more⟩ := q
    dsimp only at hcut c1 c2 c3
    have hcutI : CallsIn Fence.wide (m - 1) Tryz.prog 82 #[.string ⟨d.toArray⟩, .string ⟨#[10]⟩] wr fun e w' => e = .returned (.tuple #[.string ⟨a.toArray⟩, .string ⟨b.toArray⟩, .bool more]) ∧ Below wr.heap.size wr w' := callsIn_wide.2 hcut
    gi_wp2
    refine ⟨trivial, ?_⟩
    refine And.intro (fun h => absurd h (by decide)) ?_
    refine hcutI.mono ?_
    rintro e W2 ⟨rfl, hb2⟩
    have hJ2 := hJg _ _ _ hJ (below_grown hb2)
    have hbx2 : Boxed W2 bd 9 (.string ⟨d.toArray⟩) := (hb2.block bd hb.lt).trans hb
    have he2 : enumL 0 (splitB 10 s) = pre ++ ((k, a) :: enumL (k + 1) (if more then splitB 10 b else [])) := by rw [he, c1]; rfl
    have hlt : pre.length < (splitB 10 s).length := by
      have := congrArg List.length he2
      rw [enumL_len, List.length_append, List.length_cons] at this
      omega
    obtain ⟨fn, tmps, assign, body, hy, hR⟩ := hY pre (k, a) W2 hJ2 hlt (Nat.le_trans c3 hd)
    have hkb : (k : Int) < 1099511627778 := by
      have := splitB_len 10 s
      omega
    have hwr : IntKind.i64.wrap ((k : Int) + 1) = ((k + 1 : Nat) : Int) := by
      rw [show ((k : Int) + 1) = ((k + 1 : Nat) : Int) by omega]
      exact wrap_in (by omega) (by omega)
    gi_wp2
    refine And.intro (fun h => absurd h (by decide)) (hR.mono ?_)
    rintro e W3 ⟨rfl, hJ3, hk3⟩
    have hb3 : Boxed W3 bd 9 (.string ⟨d.toArray⟩) := hKp _ _ _ hk3 hbx2
    have hc3 := hb3.cell
    have hf3 := hb3.frozen
    cases more
    · gi_wp2
      refine bodyPost_ret (results_none rfl _ _ _) rfl ?_
      exact ⟨⟨_, rfl⟩, pre ++ [(k, a)], by rw [he2]; rfl, hJ3⟩
    · gi_wp2
      go_roundw
      case rel => exact ⟨pre ++ [(k, a)], b, k + 1, by first | rfl | (rw [hwr]), by rw [he2]; simp, by simp [hk], Nat.le_trans c2 hd, hb3.set _, hJc _ _ _ hJ3⟩
      case measure =>
        show (splitB 10 s).length - Int.toNat ((k : Int) + 1) < (splitB 10 s).length - Int.toNat (k : Int)
        omega
end Go.Ab
namespace Go.Ab
open Go Go.RowKit Go.Proofs Go.Shelf
set_option maxRecDepth 100000
set_option maxHeartbeats 4000000
attribute [local go_sem] Oper.semAt_some
def hdV (h : Hd) : List Value := [.int .i64 h.kind, .int .i64 h.line, .string ⟨h.text.toArray⟩]
def scanP (l : List (Nat × Bs)) : List Hd := l.flatMap fun p => if (hdB p.1 p.2).2 then [(hdB p.1 p.2).1] else []
theorem scanP_enum : ∀ (l : List Bs) (n : Nat), scanP (enumL n l) = scanGo n l
  | [], _ => rfl
  | s :: l, n => by
    rw [enumL, scanGo, ← scanP_enum l (n + 1)]
    show (if (hdB (n : Int) s).2 then [(hdB (n : Int) s).1] else []) ++ scanP (enumL (n + 1) l) = _
    split <;> rfl
theorem scanP_snoc (l : List (Nat × Bs)) (p : Nat × Bs) : scanP (l ++ [p]) = scanP l ++ (if (hdB p.1 p.2).2 then [(hdB p.1 p.2).1] else []) := by
  unfold scanP
  rw [List.flatMap_append]
  simp
theorem lines_calls (s : Bs) (w : World) : Calls Tryz.prog 45 #[.string ⟨s.toArray⟩] w fun e w' => e = .returned (.func (.func 81) #[] #[.pointer (some ⟨w.heap.size, 0, none⟩)]) ∧ w' = w.alloc (.cells #[.string ⟨s.toArray⟩] 9) := by
  refine (callsIn_wide (n := 6)).1 ?_
  refine callsIn_of_wp Tryz.func45 rfl trivial ?_ rfl
  simp only [Tryz.ntmps45, List.size_toArray, List.length_cons, List.length_nil, Nat.reduceAdd, Nat.reduceSub, Array.replicate_succ, Array.replicate_zero, List.push_toArray, List.append_toArray, List.nil_append, List.cons_append]
  gi_wp2
  go_ret
  exact ⟨rfl, rfl⟩
theorem info_hd : (Tryz.prog.info? 26).map (fun i => (i.zero, i.size, i.bytes)) = some (some (.agg #[.int .i64 0, .int .i64 0, .string ⟨#[]⟩]), 3, 32) := by kernel_rfl
theorem und_hds : Tryz.prog.underlying 24 = some (.slice 26) := by kernel_rfl
theorem cells3_new (A : World) (a b c : Value) (t : TypeId) (j : Nat) (u : Value) (h : [a, b, c][j]? = some u) : (A.alloc (.cells #[a, b, c] t)).cell? (Addr.add ⟨A.heap.size, 0, none⟩ j) = some u := by
  have hn := World.alloc_heap_new A (.cells #[a, b, c] t)
  unfold World.cell?
  rw [block_add, hn]
  match j, h with
  | 0, h => exact h
  | 1, h => exact h
  | 2, h => exact h
theorem cells3n (A : World) (n : Nat) (a b c : Value) (t : TypeId) (hn : n = A.heap.size) (j : Nat) (u : Value) (h : [a, b, c][j]? = some u) : (A.alloc (.cells #[a, b, c] t)).cell? (Addr.add ⟨n, 0, none⟩ j) = some u := by
  subst hn
  exact cells3_new A a b c t j u h
theorem scanP_len (l : List (Nat × Bs)) : (scanP l).length ≤ l.length := by
  induction l with
  | nil => exact Nat.le_refl _
  | cons p l ih =>
    show ((if (hdB p.1 p.2).2 then [(hdB p.1 p.2).1] else []) ++ scanP l).length ≤ _
    rw [List.length_append, List.length_cons]
    split <;> simp <;> omega
theorem box_out {W : World} {B n₀ : Nat} {e : TypeId} {size k : Nat} {v : Value} {xs : List Value} (hB : B < n₀) (hr : W.ownsRow n₀ e size v k xs) : some B ≠ v.ownBlock := by
  rcases hr.2 with ⟨rfl, _⟩ | ⟨g, cap, cur, rfl, hg, _⟩
  · simp [Value.ownBlock]
  · simp [Value.ownBlock]
    omega
theorem appendedB {W w1 : World} {n₀ B : Nat} {t e : TypeId} {size : Nat} {v v' : Value} {k m : Nat} {xs ys : List Value} {tmp : Go.Obj} (hv : Boxed W B t v) (hB : B < n₀) (hrow : W.ownsRow n₀ e size v k xs) (hn₀ : n₀ ≤ W.heap.size)
    (hown' : w1.ownsRow n₀ e size v' m ys) (hgrow : (W.alloc tmp).grownBy w1 v.ownBlock) :
    Boxed w1 B t v ∧ Boxed (w1.setCell ⟨B, 0, none⟩ v') B t v' ∧ (w1.setCell ⟨B, 0, none⟩ v').ownsRow n₀ e size v' m ys ∧ KeepsOthers W (w1.setCell ⟨B, 0, none⟩ v') ∧ (∀ b t u, Boxed W b t u → b < n₀ → b ≠ B → Boxed (w1.setCell ⟨B, 0, none⟩ v') b t u) ∧ Below B W (w1.setCell ⟨B, 0, none⟩ v') := by
  have hv1 : Boxed w1 B t v := (hv.alloc tmp).kept hgrow (box_out hB hrow)
  refine ⟨hv1, hv1.set v', hown'.kept (grownBy_setCell' w1 B v') (.inr (box_out hB hown').symm), ?_, fun b t u h hb hne => ((h.alloc tmp).kept hgrow (box_out hb hrow)).kept (grownBy_setCell' w1 B v') (fun e => hne (by cases e; rfl)), ?_⟩
  · refine ((KeepsOthers.alloc W tmp).trans (KeepsOthers.of_grownBy hgrow fun j o ej hj => ?_)).trans (KeepsOthers.setCell _ _ _)
    rcases (hrow.alloc tmp).2 with ⟨rfl, _⟩ | ⟨g, cap, cur, rfl, _, hgb, _⟩
    · simp [Value.ownBlock] at ej
    · obtain rfl : g = j := by simpa [Value.ownBlock] using ej
      rw [hgb] at hj; cases hj; rfl
  · refine (((Below.refl B W).alloc (by omega) tmp).grown hgrow (by simp; omega) fun j ej => ?_).setCell (p := ⟨B, 0, none⟩) (Nat.le_refl _) v'
    rcases hrow.2 with ⟨rfl, _⟩ | ⟨g, cap, cur, rfl, hb, _, _⟩
    · simp [Value.ownBlock] at ej
    · simp [Value.ownBlock] at ej
      omega
theorem scan_calls {W : World} {s : Bs} (hs : s.length ≤ 1000000000) : Calls Tryz.prog 13 #[.string ⟨s.toArray⟩] W fun e W' => ∃ v, e = .returned v ∧ W'.ownsRow (W.heap.size + 2) 26 3 v (scanB s).length ((scanB s).flatMap hdV) ∧ Below W.heap.size W W' := by
  have hcall := lines_calls s (W.alloc (.cells #[.slice none 0 0] 24))
  rw [World.size_alloc] at hcall
  refine (callsIn_wide (n := 6)).1 ?_
  refine callsIn_of_wp_marks Tryz.func13 rfl trivial ?_ rfl
  simp only [Tryz.ntmps13, List.size_toArray, List.length_cons, List.length_nil, Nat.reduceAdd, Nat.reduceSub, Array.replicate_succ, Array.replicate_zero, List.push_toArray, List.append_toArray, List.nil_append, List.cons_append]
  gi_wp2
  refine ⟨trivial, ?_⟩
  refine (callsIn_wide.2 hcall).mono ?_
  rintro e w' ⟨rfl, rfl⟩
  gi_wp2
  have hbx := Boxed.new (W.alloc (.cells #[.slice none 0 0] 24)) 9 (.string ⟨s.toArray⟩)
  rw [World.size_alloc] at hbx
  have hb0 := (Boxed.new W 24 (.slice none 0 0)).alloc (.cells #[.string ⟨s.toArray⟩] 9)
  have hbl : Below W.heap.size W ((W.alloc (.cells #[.slice none 0 0] 24)).alloc (.cells #[.string ⟨s.toArray⟩] 9)) := ((Below.refl _ W).alloc (Nat.le_refl _) _).alloc (by simp) _
  have hsz : W.heap.size + 2 = ((W.alloc (.cells #[.slice none 0 0] 24)).alloc (.cells #[.string ⟨s.toArray⟩] 9)).heap.size := by simp
  generalize ((W.alloc (.cells #[.slice none 0 0] 24)).alloc (.cells #[.string ⟨s.toArray⟩] 9)) = W2 at *
  refine wpIn_range rfl (by omega) (gf := 81) (lb := #[.pointer (some ⟨W.heap.size + 1, 0, none⟩)]) rfl trivial (enters_of Tryz.func81 (by kernel_rfl) rfl)
    (lines1_gives (W0 := W2) (Kp := fun A B => ∀ v, Boxed A (W.heap.size + 1) 9 v → Boxed B (W.heap.size + 1) 9 v) (Nat.le_trans hs (by decide)) (by omega) hbx (fun A B v k => k v)) (by omega) (fun h k v hv => k v (h v hv))
    (fun A l o o' hl ho hc _ v hv => hv.kept (grownBy_putObj' A l o') (fun e => by cases e; omega)) (Below.refl _ _) (fun _ => rfl)
    (fun pre A => (∃ v, Boxed A W.heap.size 24 v ∧ A.ownsRow (W.heap.size + 2) 26 3 v (scanP pre).length ((scanP pre).flatMap hdV) ∧ True) ∧ (∃ u, Boxed A (W.heap.size + 1) 9 u) ∧ Below W.heap.size W A)
    ?own ?cb ⟨⟨_, hb0, World.ownsRow_nil _ _ _ _, trivial⟩, ⟨_, hbx⟩, hbl⟩
    (fun p => { tmps := #[.string ⟨s.toArray⟩, undef, .slice none 0 0, .pointer (some ⟨W.heap.size, 0, none⟩), .int .i64 p.1, .string ⟨p.2.toArray⟩, undef, undef, .string ⟨s.toArray⟩, .func (.func 81) #[] #[.pointer (some ⟨W.heap.size + 1, 0, none⟩)], .int .i64 p.1, .string ⟨p.2.toArray⟩, undef, undef, undef, undef, undef, undef, undef, undef, undef, undef, undef, undef], defers := [] }) ?assign ?body ?done
  case own =>
    refine OwnFrom.and (Own.from (holdsRow_own (W.heap.size + 2) W.heap.size 24 26 3 (fun pre => (scanP pre).length) (fun pre => (scanP pre).flatMap hdV) (fun _ _ => True)) _) (OwnFrom.and ?_ (ownFrom_below (Nat.le_refl _) (by omega)))
    rintro pre A B row ⟨u, hu⟩ hg hr
    exact ⟨u, hu.kept hg (fun e => by obtain ⟨h1, _⟩ := hr _ e.symm; omega)⟩
  case cb =>
    rintro pre A v ⟨⟨x, h1, h2, _⟩, ⟨u, h3⟩, h4⟩
    exact ⟨⟨x, h1.other (by omega) v, h2.kept (grownBy_setCell' A _ v) (.inr (box_out (by omega) h2).symm), trivial⟩, ⟨v, h3.set v⟩, h4.setCell (p := ⟨W.heap.size + 1, 0, none⟩) (Nat.le_succ _) v⟩
  case assign =>
    intro l x A K hK
    gi_wp2
    exact hK
  case body =>
    rintro l pre ⟨k, t⟩ A ⟨⟨v, hv, hrow, _⟩, ⟨u, hu⟩, hB⟩ hlt ht
    dsimp only at ht
    have hrd := f_readP_ok.valsT (g_readP_eq (s := t) (n := (k : Int)) (Nat.le_trans ht (Nat.le_trans hs (by decide)))) rfl rfl A
    generalize hh : hdB (k : Int) t = q at *
    obtain ⟨h, ok⟩ := q
    have hrd : Calls Tryz.prog 46 #[.string ⟨t.toArray⟩, .int .i64 k] A fun e w' => e = .returned (.tuple #[.agg #[.int .i64 h.kind, .int .i64 h.line, .string ⟨h.text.toArray⟩], .bool ok]) ∧ Below A.heap.size A w' := hrd
    gi_wp2
    refine ⟨trivial, ?_⟩
    refine (CallsIn.inRound l (callsIn_wide.2 hrd)).mono ?_
    rintro e A2 ⟨rfl, hb2⟩
    have hv2 : Boxed A2 W.heap.size 24 v := (hb2.block _ hv.lt).trans hv
    have hu2 : Boxed A2 (W.heap.size + 1) 9 u := (hb2.block _ hu.lt).trans hu
    have hrow2 : A2.ownsRow (W.heap.size + 2) 26 3 v (scanP pre).length ((scanP pre).flatMap hdV) := hrow.kept (below_grown hb2) (by
      rcases hrow.2 with ⟨rfl, _⟩ | ⟨g, cap, cur, rfl, _⟩
      · exact .inl rfl
      · exact .inr (by simp [Value.ownBlock]))
    have hv3 := hv2.alloc (.cells #[.int .i64 h.kind, .int .i64 h.line, .string ⟨h.text.toArray⟩] 26)
    have hc3 := hv3.cell
    have hrow3 := hrow2.alloc (.cells #[.int .i64 h.kind, .int .i64 h.line, .string ⟨h.text.toArray⟩] 26)
    have hbx3 := World.alloc_heap_new A2 (.cells #[.int .i64 h.kind, .int .i64 h.line, .string ⟨h.text.toArray⟩] 26)
    have hsz3 := World.size_alloc A2 (.cells #[.int .i64 h.kind, .int .i64 h.line, .string ⟨h.text.toArray⟩] 26)
    obtain ⟨i0, hi, hz0, hz1, hz2⟩ := info_parts info_hd
    have hA := hu.lt
    have hpl := scanP_len pre
    have hsl := splitB_len 10 s
    have hkA : KeepsFrom W2.heap.size A A2 := ⟨hb2.size, fun k o hk ho hc => (hb2.block k (heap_lt ho)).trans ho⟩
    have hsn := scanP_snoc pre (k, t)
    dsimp only at hsn
    rw [hh] at hsn
    dsimp only at hsn
    gi_wp2_with (gi_at_builtin; refine wpListIn_append_own _ rfl _ _ 24 rfl (W.heap.size + 2) 26 i0 _ 3 32 und_hds hi hz0 hz1 hz2 rfl (by decide) _ _ _ rfl (hrow3.alloc _) ⟨A2.heap.size + 1, 0, none⟩ 1 1 (hdV h) rfl rfl (fun j u hj => cells3n _ (A2.heap.size + 1) _ _ _ _ hsz3.symm j u hj) (by simp [hdV, Value.oneCell']) (by unfold maxLen; omega) (by omega) (by have := hb2.size; simp; omega) ?_; intro v' w1 hown' hgrow _; obtain ⟨g', cap', rfl⟩ := ownsRow_succ hown'; obtain ⟨q1, q2, q3, q4, q5, q6⟩ := appendedB hv3 (by omega) hrow3 (by have := hb2.size; simp; omega) hown' hgrow; have hc1 := q1.cell; have hf1 := q1.frozen)
    · have hok : ok = true := by assumption
      subst hok
      rw [if_pos rfl] at hsn
      exact ⟨hkA.trans (((KeepsOthers.alloc A2 _).trans q4).from _), fun z hz => q5 _ _ _ (Boxed.alloc (show Boxed A2 (W.heap.size + 1) 9 z from (hb2.block _ hz.lt).trans hz) _) (by omega) (by omega), by rw [← hsz]; exact ⟨_, q2, q3⟩, ⟨u, q5 _ _ _ (hu2.alloc _) (by omega) (by omega)⟩, ((hB.trans (hb2.mono (by omega))).alloc (by have := hb2.size; omega) _).trans q6⟩
    · have hok : ok = false := by first | assumption | simpa using ‹¬ ok = true›
      subst hok
      rw [if_neg (by decide), List.append_nil] at hsn
      exact ⟨hkA.trans ((KeepsOthers.alloc A2 _).from _), fun z hz => Boxed.alloc (show Boxed A2 (W.heap.size + 1) 9 z from (hb2.block _ hz.lt).trans hz) _, by rw [← hsz]; exact ⟨v, hv3, hrow3⟩, ⟨u, hu2.alloc _⟩, (hB.trans (hb2.mono (by omega))).alloc (by have := hb2.size; omega) _⟩
  case done =>
    rintro D ys A hD rfl ⟨⟨v, hv, hrow, _⟩, _, hB⟩ hK
    have hc := hv.cell
    rw [scanP_enum] at hrow
    gi_wp2
    refine ⟨by simp, .inl ⟨_, _, rfl, run_takeDeferred hK, ?_⟩⟩
    exact ⟨_, results_tmp rfl _ _ _, v, rfl, ownsRow_putObj hrow _ hK rfl, hB.grown (grownBy_putObj' A D _) hB.size (fun k e => by cases e; omega)⟩
end Go.Ab
