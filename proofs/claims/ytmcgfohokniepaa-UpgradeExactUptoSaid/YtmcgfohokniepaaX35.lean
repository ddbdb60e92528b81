/-
  One text of the proof (own work): contracts of functions of the program, by the abstract machine.
-/
import Derived.Test.YtmcgfohokniepaaX21
import Derived.Test.YtmcgfohokniepaaX24
import Derived.Test.YtmcgfohokniepaaX25
import Derived.Test.YtmcgfohokniepaaX26
import Derived.Test.YtmcgfohokniepaaX18
import Derived.Test.YtmcgfohokniepaaX34
set_option linter.unusedVariables false
set_option linter.unusedSimpArgs false
namespace Go.Ab
open Go Go.RowKit Go.Proofs
set_option maxRecDepth 4000
set_option maxHeartbeats 40000000
theorem f117_24 {e : Ev} (hz : EvOK e) (b4 b5 b6 : Bool) : axp Try.prog 0 (navF Try.f117 [1,1,1,1,1,1,1,1]) (RetX Try.prog [.tmp 2] (fun d => ∃ n : Int, d = i64 n)) ((frame 248 [(1, .ptr 0 0), (4, .data (.bool b4)), (5, .data (.bool b5)), (6, .data (.bool b6))])) ⟨[(0, .box [.data (i64 e.k), .data (.str e.au), .data (i64 e.n), .data (.list (e.ns.map .str)), .data (.str e.ro), .data (i64 e.kb), .data (i64 e.kh), .data (.str e.pk), .data (.str e.dg), .data (.str e.q), .data (.str e.sc), .data (.str e.an), .data (i64 e.u), .data (.list (e.tg.map .str)), .data (i64 0), .data (.list []), .data (.list []), .data (.list [])])], 1⟩ := by
  have hΓ := Γ117_ok
  conv => arg 3; whnf
  have e109 := eq109 e.kb e.kh
  generalize decide ((e.kb, e.kh) = (0, 0)) = d13 at e109
  generalize d12e : (e.ro == []) = d12
  generalize d14e : (e.pk == []) = d14
  generalize d15e : (e.dg == []) = d15
  (repeat (first | (apply axJ; (focus ((with_reducible constructor) <;> rfl))) | ((first | apply axR hΓ | apply axG | apply ovX rfl | apply ovE rfl); (simp (disch := omega) only [go_sem, ↓reduceIte, dk] <;> with_reducible rfl); exact trivial) | rfl))
  refine axp_mid (Y := Bool) (fun y => (frame 248 [(1, .ptr 0 0), (4, .data (.bool b4)), (5, .data (.bool b5)), (6, .data (.bool b6)), (210, .data (.bool y))])) (fun _ => [(0, .box [.data (i64 e.k), .data (.str e.au), .data (i64 e.n), .data (.list (e.ns.map .str)), .data (.str e.ro), .data (i64 e.kb), .data (i64 e.kh), .data (.str e.pk), .data (.str e.dg), .data (.str e.q), .data (.str e.sc), .data (.str e.an), .data (i64 e.u), .data (.list (e.tg.map .str)), .data (i64 0), .data (.list []), .data (.list []), .data (.list [])])]) (fun _ => 1) (fun _ => True) ?_ ?_
  · ((first | apply axp_regB hΓ | (apply axp_regfB mixedOK hΓ (by kernel_rfl); (simp only [go_sem] <;> with_reducible rfl)) | (apply axp_regtB mixedOK hΓ rfl (by kernel_rfl); (simp only [go_sem] <;> with_reducible rfl))); (try simp (disch := omega) only [go_sem, ↓reduceIte, dk, Int.reduceBEq, Int.reduceBNe, Bool.true_bne, Bool.false_bne, Bool.not_true, Bool.not_false, ↓lk, ↓ty_build109, ↓e109, d12e, d14e, d15e]); (repeat' (first | (first | refine runs_some ?_ | (refine runsQ_some ?_; (try simp (disch := omega) only [go_sem, ↓reduceIte, dk, Int.reduceBEq, Int.reduceBNe, Bool.true_bne, Bool.false_bne, Bool.not_true, Bool.not_false, ↓lk, ↓ty_build109, ↓e109, d12e, d14e, d15e]); refine runs_some ?_) | refine runsQ_some ?_) | ((first | show Runs _ _ | show RunsQ _ _); (first | cases b4 | cases d12 | cases d13 | cases b5 | cases d14 | cases b6 | cases d15) <;> (try simp (disch := omega) only [go_sem, ↓reduceIte, dk, Int.reduceBEq, Int.reduceBNe, Bool.true_bne, Bool.false_bne, Bool.not_true, Bool.not_false, ↓lk, ↓ty_build109, ↓e109, d12e, d14e, d15e])))))
    all_goals exact ⟨_, Weak.u⟩
  rintro y -
  cases y with
  | true => ((repeat (first | (apply axJ; (focus ((with_reducible constructor) <;> rfl))) | (apply axT mixedOK hΓ (by kernel_rfl); (simp (disch := omega) only [go_sem, ↓reduceIte, dk] <;> with_reducible rfl)) | ((first | apply axR hΓ | apply axG | apply axH mixedOK hΓ rfl (by kernel_rfl) | apply ovX rfl | apply ovE rfl); (simp (disch := omega) only [go_sem, ↓reduceIte, dk] <;> with_reducible rfl); exact trivial) | rfl)); (exact ⟨_, rfl⟩))
  | false =>
  refine axp_cond_f (by simp (disch := omega) only [go_sem, ↓reduceIte, dk] <;> rfl) ?_
  refine axp_skip ?_
  exact axp_weak (Weak.u) (f117_26 hz b4 b5 b6)
theorem f117_22 {e : Ev} (hz : EvOK e) (b4 b5 b6 y : Bool) : axp Try.prog 0 (navF Try.f117 [1,1,1,1,1,1,1]) (RetX Try.prog [.tmp 2] (fun d => ∃ n : Int, d = i64 n)) ((frame 248 [(1, .ptr 0 0), (4, .data (.bool b4)), (5, .data (.bool b5)), (6, .data (.bool b6)), (7, .data (.bool y))])) ⟨[(0, .box [.data (i64 e.k), .data (.str e.au), .data (i64 e.n), .data (.list (e.ns.map .str)), .data (.str e.ro), .data (i64 e.kb), .data (i64 e.kh), .data (.str e.pk), .data (.str e.dg), .data (.str e.q), .data (.str e.sc), .data (.str e.an), .data (i64 e.u), .data (.list (e.tg.map .str)), .data (i64 0), .data (.list []), .data (.list []), .data (.list [])])], 1⟩ := by
  have hΓ := Γ117_ok
  conv => arg 3; whnf
  cases y with
  | false => ((repeat (first | (apply axJ; (focus ((with_reducible constructor) <;> rfl))) | (apply axT mixedOK hΓ (by kernel_rfl); (simp (disch := omega) only [go_sem, ↓reduceIte, dk, Int.reduceBEq, Int.reduceBNe, Bool.true_bne, Bool.false_bne, Bool.not_true, Bool.not_false] <;> with_reducible rfl)) | ((first | apply axR hΓ | apply axG | apply axH mixedOK hΓ rfl (by kernel_rfl) | apply ovX rfl | apply ovE rfl); (simp (disch := omega) only [go_sem, ↓reduceIte, dk, Int.reduceBEq, Int.reduceBNe, Bool.true_bne, Bool.false_bne, Bool.not_true, Bool.not_false] <;> with_reducible rfl); exact trivial) | rfl)); (exact ⟨_, rfl⟩))
  | true =>
  refine axA ?_
  refine axA ?_
  (apply axp_reg hΓ; (simp (disch := omega) only [go_sem, ↓reduceIte, dk, Int.reduceBEq, Int.reduceBNe, Bool.true_bne, Bool.false_bne, Bool.not_true, Bool.not_false] <;> with_reducible rfl))
  refine then_normal ?_
  refine axp_cond_f (by simp (disch := omega) only [go_sem, ↓reduceIte, dk] <;> rfl) ?_
  refine axp_skip ?_
  exact axp_weak (Weak.u) (f117_24 hz b4 b5 b6)
theorem f117_sw {e : Ev} (hz : EvOK e) : axp Try.prog 0 (navF Try.f117 [1,1,1,1,1,1]) (RetX Try.prog [.tmp 2] (fun d => ∃ n : Int, d = i64 n)) ((frame 248 [(1, .ptr 0 0), (4, .data (.bool (e.k == 1))), (5, .data (.bool (e.k == 2))), (6, .data (.bool (e.k == 3))), (7, .data (.bool false))])) ⟨[(0, .box [.data (i64 e.k), .data (.str e.au), .data (i64 e.n), .data (.list (e.ns.map .str)), .data (.str e.ro), .data (i64 e.kb), .data (i64 e.kh), .data (.str e.pk), .data (.str e.dg), .data (.str e.q), .data (.str e.sc), .data (.str e.an), .data (i64 e.u), .data (.list (e.tg.map .str)), .data (i64 0), .data (.list []), .data (.list []), .data (.list [])])], 1⟩ := by
  have hΓ := Γ117_ok
  conv => arg 3; whnf
  have e131p := g131_eq (s := e.pk) (by have := hz.pk; omega)
  have e133r := g133_eq (s := e.ro) (by have := hz.ro; omega)
  have e133d := g133_eq (s := e.dg) (by have := hz.dg; omega)
  have e134 := g134_eq e.kb e.kh
  have e135q := g135_eq (s := e.q) (a := 33) (b := 128) (by have := hz.q; omega)
  have e135s := g135_eq (s := e.sc) (a := 33) (b := 128) (by have := hz.sc; omega)
  have e135a := g135_eq (s := e.an) (a := 32) (b := 200) (by have := hz.an; omega)
  generalize d1e : ((e.ro.length : Int) == 32) = d1 at e133r
  generalize d2e : (keyE e.kb e.kh == 0) = d2
  generalize nameB e.pk = d3 at e131p
  generalize d4e : ((e.dg.length : Int) == 32) = d4 at e133d
  generalize d5e : decide ((e.q.length : Int) > 0) = d5
  generalize bytesB e.q 33 128 = d6 at e135q
  generalize bytesB e.sc 33 128 = d7 at e135s
  generalize bytesB e.an 32 200 = d8 at e135a
  generalize d9e : decide (e.u ≥ 0) = d9
  generalize d10e : decide (e.u ≤ 1000) = d10
  refine axA ?_
  refine axp_mid (Y := Bool) (fun y => (frame 248 [(1, .ptr 0 0), (4, .data (.bool (e.k == 1))), (5, .data (.bool (e.k == 2))), (6, .data (.bool (e.k == 3))), (7, .data (.bool y))])) (fun _ => [(0, .box [.data (i64 e.k), .data (.str e.au), .data (i64 e.n), .data (.list (e.ns.map .str)), .data (.str e.ro), .data (i64 e.kb), .data (i64 e.kh), .data (.str e.pk), .data (.str e.dg), .data (.str e.q), .data (.str e.sc), .data (.str e.an), .data (i64 e.u), .data (.list (e.tg.map .str)), .data (i64 0), .data (.list []), .data (.list []), .data (.list [])])]) (fun _ => 1) (fun _ => True) ?_ (fun y _ => f117_22 hz _ _ _ y)
  generalize hb4 : (e.k == 1) = b4
  generalize hb5 : (e.k == 2) = b5
  generalize hb6 : (e.k == 3) = b6
  cases b4 with
  | true =>
    (repeat (first | (apply axJ; (focus ((with_reducible constructor) <;> rfl))) | ((first | apply axR hΓ | apply axG | apply ovX rfl | apply ovE rfl); (simp (disch := omega) only [go_sem, ↓reduceIte, dk, Int.reduceBEq, Int.reduceBNe, Bool.true_bne, Bool.false_bne, Bool.not_true, Bool.not_false] <;> with_reducible rfl); exact trivial) | rfl))
    ((first | apply axp_regB hΓ | (apply axp_regfB mixedOK hΓ (by kernel_rfl); (simp only [go_sem] <;> with_reducible rfl)) | (apply axp_regtB mixedOK hΓ rfl (by kernel_rfl); (simp only [go_sem] <;> with_reducible rfl))); (try simp (disch := omega) only [go_sem, ↓reduceIte, dk, Int.reduceBEq, Int.reduceBNe, Bool.true_bne, Bool.false_bne, Bool.not_true, Bool.not_false, Γ117, e133r, e134, d2e]); (repeat' (first | (first | refine runs_some ?_ | (refine runsQ_some ?_; (try simp (disch := omega) only [go_sem, ↓reduceIte, dk, Int.reduceBEq, Int.reduceBNe, Bool.true_bne, Bool.false_bne, Bool.not_true, Bool.not_false, Γ117, e133r, e134, d2e]); refine runs_some ?_) | refine runsQ_some ?_) | ((first | show Runs _ _ | show RunsQ _ _); (first | cases d1 | cases d2) <;> (try simp (disch := omega) only [go_sem, ↓reduceIte, dk, Int.reduceBEq, Int.reduceBNe, Bool.true_bne, Bool.false_bne, Bool.not_true, Bool.not_false, Γ117, e133r, e134, d2e])))))
    all_goals ((repeat (first | (apply axJ; (focus ((with_reducible constructor) <;> rfl))) | ((first | apply axR hΓ | apply axG | apply ovX rfl | apply ovE rfl); (simp (disch := omega) only [go_sem, ↓reduceIte, dk, Int.reduceBEq, Int.reduceBNe, Bool.true_bne, Bool.false_bne, Bool.not_true, Bool.not_false] <;> with_reducible rfl); exact trivial) | rfl)))
    all_goals exact ⟨_, Weak.u⟩
  | false =>
  cases b5 with
  | true =>
    (repeat (first | (apply axJ; (focus ((with_reducible constructor) <;> rfl))) | ((first | apply axR hΓ | apply axG | apply ovX rfl | apply ovE rfl); (simp (disch := omega) only [go_sem, ↓reduceIte, dk, Int.reduceBEq, Int.reduceBNe, Bool.true_bne, Bool.false_bne, Bool.not_true, Bool.not_false] <;> with_reducible rfl); exact trivial) | rfl))
    ((first | apply axp_regB hΓ | (apply axp_regfB mixedOK hΓ (by kernel_rfl); (simp only [go_sem] <;> with_reducible rfl)) | (apply axp_regtB mixedOK hΓ rfl (by kernel_rfl); (simp only [go_sem] <;> with_reducible rfl))); (try simp (disch := omega) only [go_sem, ↓reduceIte, dk, Int.reduceBEq, Int.reduceBNe, Bool.true_bne, Bool.false_bne, Bool.not_true, Bool.not_false, Γ117, e131p, e133d]); (repeat' (first | (first | refine runs_some ?_ | (refine runsQ_some ?_; (try simp (disch := omega) only [go_sem, ↓reduceIte, dk, Int.reduceBEq, Int.reduceBNe, Bool.true_bne, Bool.false_bne, Bool.not_true, Bool.not_false, Γ117, e131p, e133d]); refine runs_some ?_) | refine runsQ_some ?_) | ((first | show Runs _ _ | show RunsQ _ _); (first | cases d3 | cases d4) <;> (try simp (disch := omega) only [go_sem, ↓reduceIte, dk, Int.reduceBEq, Int.reduceBNe, Bool.true_bne, Bool.false_bne, Bool.not_true, Bool.not_false, Γ117, e131p, e133d])))))
    all_goals ((repeat (first | (apply axJ; (focus ((with_reducible constructor) <;> rfl))) | ((first | apply axR hΓ | apply axG | apply ovX rfl | apply ovE rfl); (simp (disch := omega) only [go_sem, ↓reduceIte, dk, Int.reduceBEq, Int.reduceBNe, Bool.true_bne, Bool.false_bne, Bool.not_true, Bool.not_false] <;> with_reducible rfl); exact trivial) | rfl)))
    all_goals exact ⟨_, Weak.u⟩
  | false =>
  cases b6 with
  | true =>
    (repeat (first | (apply axJ; (focus ((with_reducible constructor) <;> rfl))) | ((first | apply axR hΓ | apply axG | apply ovX rfl | apply ovE rfl); (simp (disch := omega) only [go_sem, ↓reduceIte, dk, Int.reduceBEq, Int.reduceBNe, Bool.true_bne, Bool.false_bne, Bool.not_true, Bool.not_false] <;> with_reducible rfl); exact trivial) | rfl))
    ((first | apply axp_regB hΓ | (apply axp_regfB mixedOK hΓ (by kernel_rfl); (simp only [go_sem] <;> with_reducible rfl)) | (apply axp_regtB mixedOK hΓ rfl (by kernel_rfl); (simp only [go_sem] <;> with_reducible rfl))); (try simp (disch := omega) only [go_sem, ↓reduceIte, dk, Int.reduceBEq, Int.reduceBNe, Bool.true_bne, Bool.false_bne, Bool.not_true, Bool.not_false, Γ117, e133d, e135q, e135s, e135a, d5e, d9e, d10e]); (repeat' (first | (first | refine runs_some ?_ | (refine runsQ_some ?_; (try simp (disch := omega) only [go_sem, ↓reduceIte, dk, Int.reduceBEq, Int.reduceBNe, Bool.true_bne, Bool.false_bne, Bool.not_true, Bool.not_false, Γ117, e133d, e135q, e135s, e135a, d5e, d9e, d10e]); refine runs_some ?_) | refine runsQ_some ?_) | ((first | show Runs _ _ | show RunsQ _ _); (first | cases d5 | cases d6 | cases d7 | cases d8 | cases d4 | cases d9 | cases d10) <;> (try simp (disch := omega) only [go_sem, ↓reduceIte, dk, Int.reduceBEq, Int.reduceBNe, Bool.true_bne, Bool.false_bne, Bool.not_true, Bool.not_false, Γ117, e133d, e135q, e135s, e135a, d5e, d9e, d10e])))))
    all_goals ((repeat (first | (apply axJ; (focus ((with_reducible constructor) <;> rfl))) | ((first | apply axR hΓ | apply axG | apply ovX rfl | apply ovE rfl); (simp (disch := omega) only [go_sem, ↓reduceIte, dk, Int.reduceBEq, Int.reduceBNe, Bool.true_bne, Bool.false_bne, Bool.not_true, Bool.not_false] <;> with_reducible rfl); exact trivial) | rfl)))
    all_goals exact ⟨_, Weak.u⟩
  | false =>
  have h1 : ¬ e.k = 1 := by simpa using hb4
  have h2 : ¬ e.k = 2 := by simpa using hb5
  have h3 : ¬ e.k = 3 := by simpa using hb6
  rcases (show e.k = 4 ∨ e.k = 5 by have := hz.k1; have := hz.k5; omega) with h4 | h4
  · obtain ⟨x, hx⟩ : ∃ x, e.tg = [x] := len1 (hz.t4 h4)
    have e132t := g132_eq (l := [x]) ⟨by simp, fun s hs => by have := hz.tgs s (by rw [hx]; exact hs); omega⟩
    simp only [List.map_cons, List.map_nil] at e132t
    generalize digsB [x] = d11 at e132t
    have hl1 : (((1 : Nat) : Int) == 1) = true := rfl
    have hk4 : (e.k == 4) = true := by rw [h4]; rfl
    rw [hx]
    (repeat (first | (apply axJ; (focus ((with_reducible constructor) <;> rfl))) | ((first | apply axR hΓ | apply axG | apply ovX rfl | apply ovE rfl); (simp (disch := omega) only [go_sem, ↓reduceIte, dk, Int.reduceBEq, Int.reduceBNe, Bool.true_bne, Bool.false_bne, Bool.not_true, Bool.not_false, hk4] <;> with_reducible rfl); exact trivial) | rfl))
    ((first | apply axp_regB hΓ | (apply axp_regfB mixedOK hΓ (by kernel_rfl); (simp only [go_sem] <;> with_reducible rfl)) | (apply axp_regtB mixedOK hΓ rfl (by kernel_rfl); (simp only [go_sem] <;> with_reducible rfl))); (try simp (disch := omega) only [go_sem, ↓reduceIte, dk, Int.reduceBEq, Int.reduceBNe, Bool.true_bne, Bool.false_bne, Bool.not_true, Bool.not_false, Γ117, e132t, hl1, Int.reduceToNat, List.getElem?_cons_zero, List.getElem?_cons_succ]); (repeat' (first | (first | refine runs_some ?_ | (refine runsQ_some ?_; (try simp (disch := omega) only [go_sem, ↓reduceIte, dk, Int.reduceBEq, Int.reduceBNe, Bool.true_bne, Bool.false_bne, Bool.not_true, Bool.not_false, Γ117, e132t, hl1, Int.reduceToNat, List.getElem?_cons_zero, List.getElem?_cons_succ]); refine runs_some ?_) | refine runsQ_some ?_) | ((first | show Runs _ _ | show RunsQ _ _); (first | cases d11) <;> (try simp (disch := omega) only [go_sem, ↓reduceIte, dk, Int.reduceBEq, Int.reduceBNe, Bool.true_bne, Bool.false_bne, Bool.not_true, Bool.not_false, Γ117, e132t, hl1, Int.reduceToNat, List.getElem?_cons_zero, List.getElem?_cons_succ])))))
    all_goals ((repeat (first | (apply axJ; (focus ((with_reducible constructor) <;> rfl))) | ((first | apply axR hΓ | apply axG | apply ovX rfl | apply ovE rfl); (simp (disch := omega) only [go_sem, ↓reduceIte, dk, Int.reduceBEq, Int.reduceBNe, Bool.true_bne, Bool.false_bne, Bool.not_true, Bool.not_false] <;> with_reducible rfl); exact trivial) | rfl)))
    all_goals exact ⟨_, Weak.u⟩
  · obtain ⟨x, y, hx⟩ : ∃ x y, e.tg = [x, y] := len2 (hz.t5 h4)
    have e132t := g132_eq (l := [x, y]) ⟨by simp, fun s hs => by have := hz.tgs s (by rw [hx]; exact hs); omega⟩
    simp only [List.map_cons, List.map_nil] at e132t
    generalize digsB [x, y] = d11 at e132t
    generalize d21e : (x == y) = d21
    have hl2 : (((2 : Nat) : Int) == 2) = true := rfl
    have hk4 : (e.k == 4) = false := by rw [h4]; rfl
    have hk5 : (e.k == 5) = true := by rw [h4]; rfl
    rw [hx]
    (repeat (first | (apply axJ; (focus ((with_reducible constructor) <;> rfl))) | ((first | apply axR hΓ | apply axG | apply ovX rfl | apply ovE rfl); (simp (disch := omega) only [go_sem, ↓reduceIte, dk, Int.reduceBEq, Int.reduceBNe, Bool.true_bne, Bool.false_bne, Bool.not_true, Bool.not_false, hk4, hk5] <;> with_reducible rfl); exact trivial) | rfl))
    ((first | apply axp_regB hΓ | (apply axp_regfB mixedOK hΓ (by kernel_rfl); (simp only [go_sem] <;> with_reducible rfl)) | (apply axp_regtB mixedOK hΓ rfl (by kernel_rfl); (simp only [go_sem] <;> with_reducible rfl))); (try simp (disch := omega) only [go_sem, ↓reduceIte, dk, Int.reduceBEq, Int.reduceBNe, Bool.true_bne, Bool.false_bne, Bool.not_true, Bool.not_false, Γ117, e132t, d21e, hl2, Int.reduceToNat, List.getElem?_cons_zero, List.getElem?_cons_succ]); (repeat' (first | (first | refine runs_some ?_ | (refine runsQ_some ?_; (try simp (disch := omega) only [go_sem, ↓reduceIte, dk, Int.reduceBEq, Int.reduceBNe, Bool.true_bne, Bool.false_bne, Bool.not_true, Bool.not_false, Γ117, e132t, d21e, hl2, Int.reduceToNat, List.getElem?_cons_zero, List.getElem?_cons_succ]); refine runs_some ?_) | refine runsQ_some ?_) | ((first | show Runs _ _ | show RunsQ _ _); (first | cases d11 | cases d21) <;> (try simp (disch := omega) only [go_sem, ↓reduceIte, dk, Int.reduceBEq, Int.reduceBNe, Bool.true_bne, Bool.false_bne, Bool.not_true, Bool.not_false, Γ117, e132t, d21e, hl2, Int.reduceToNat, List.getElem?_cons_zero, List.getElem?_cons_succ])))))
    all_goals ((repeat (first | (apply axJ; (focus ((with_reducible constructor) <;> rfl))) | ((first | apply axR hΓ | apply axG | apply ovX rfl | apply ovE rfl); (simp (disch := omega) only [go_sem, ↓reduceIte, dk, Int.reduceBEq, Int.reduceBNe, Bool.true_bne, Bool.false_bne, Bool.not_true, Bool.not_false] <;> with_reducible rfl); exact trivial) | rfl)))
    all_goals exact ⟨_, Weak.u⟩
theorem f117_8 {e : Ev} (hz : EvOK e) : axp Try.prog 0 (navF Try.f117 [1,1,1]) (RetX Try.prog [.tmp 2] (fun d => ∃ n : Int, d = i64 n)) ((frame 248 [(1, .ptr 0 0)])) ⟨[(0, .box [.data (i64 e.k), .data (.str e.au), .data (i64 e.n), .data (.list (e.ns.map .str)), .data (.str e.ro), .data (i64 e.kb), .data (i64 e.kh), .data (.str e.pk), .data (.str e.dg), .data (.str e.q), .data (.str e.sc), .data (.str e.an), .data (i64 e.u), .data (.list (e.tg.map .str)), .data (i64 0), .data (.list []), .data (.list []), .data (.list [])])], 1⟩ := by
  have hΓ := Γ117_ok
  conv => arg 3; whnf
  generalize hc1 : (e.n == 0) = c1
  generalize hc3 : ((e.ns.length : Int) == 0) = c3
  have hl := hz.ns
  generalize hk1 : (e.k == 1) = b1
  have hk1n : (e.k != 1) = !b1 := by rw [← hk1]; rfl
  refine axA ?_
  refine axA ?_
  refine axp_mid (Y := Bool) (fun y => (frame 248 [(1, .ptr 0 0), (70, .data (.bool y))])) (fun _ => [(0, .box [.data (i64 e.k), .data (.str e.au), .data (i64 e.n), .data (.list (e.ns.map .str)), .data (.str e.ro), .data (i64 e.kb), .data (i64 e.kh), .data (.str e.pk), .data (.str e.dg), .data (.str e.q), .data (.str e.sc), .data (.str e.an), .data (i64 e.u), .data (.list (e.tg.map .str)), .data (i64 0), .data (.list []), .data (.list []), .data (.list [])])]) (fun _ => 1) (fun _ => True) ?_ ?_
  · ((first | apply axp_regB hΓ | (apply axp_regfB mixedOK hΓ (by kernel_rfl); (simp only [go_sem] <;> with_reducible rfl)) | (apply axp_regtB mixedOK hΓ rfl (by kernel_rfl); (simp only [go_sem] <;> with_reducible rfl))); (try simp (disch := omega) only [go_sem, ↓reduceIte, dk, Int.reduceBEq, Int.reduceBNe, Bool.true_bne, Bool.false_bne, Bool.not_true, Bool.not_false, hc1, hc3, hk1, hk1n]); (repeat' (first | (first | refine runs_some ?_ | (refine runsQ_some ?_; (try simp (disch := omega) only [go_sem, ↓reduceIte, dk, Int.reduceBEq, Int.reduceBNe, Bool.true_bne, Bool.false_bne, Bool.not_true, Bool.not_false, hc1, hc3, hk1, hk1n]); refine runs_some ?_) | refine runsQ_some ?_) | ((first | show Runs _ _ | show RunsQ _ _); (first | cases b1 | cases c1 | cases c3) <;> (try simp (disch := omega) only [go_sem, ↓reduceIte, dk, Int.reduceBEq, Int.reduceBNe, Bool.true_bne, Bool.false_bne, Bool.not_true, Bool.not_false, hc1, hc3, hk1, hk1n])))))
    all_goals exact ⟨_, Weak.u⟩
  rintro y -
  cases y with
  | true => ((repeat (first | (apply axJ; (focus ((with_reducible constructor) <;> rfl))) | (apply axT mixedOK hΓ (by kernel_rfl); (simp (disch := omega) only [go_sem, ↓reduceIte, dk] <;> with_reducible rfl)) | ((first | apply axR hΓ | apply axG | apply axH mixedOK hΓ rfl (by kernel_rfl) | apply ovX rfl | apply ovE rfl); (simp (disch := omega) only [go_sem, ↓reduceIte, dk] <;> with_reducible rfl); exact trivial) | rfl)); (exact ⟨_, rfl⟩))
  | false =>
  refine axp_cond_f (by simp (disch := omega) only [go_sem, ↓reduceIte, dk] <;> rfl) ?_
  refine axp_skip ?_
  refine then_normal ?_
  refine axA ?_
  (apply axp_regf mixedOK hΓ (by kernel_rfl); (simp (disch := omega) only [go_sem, ↓reduceIte, dk, Int.reduceBEq, Int.reduceBNe, Bool.true_bne, Bool.false_bne, Bool.not_true, Bool.not_false] <;> with_reducible rfl); (simp only [go_sem] <;> with_reducible rfl))
  refine then_normal ?_
  refine axA ?_
  (apply axp_reg hΓ; (simp (disch := omega) only [go_sem, ↓reduceIte, dk, Int.reduceBEq, Int.reduceBNe, Bool.true_bne, Bool.false_bne, Bool.not_true, Bool.not_false] <;> with_reducible rfl))
  refine then_normal ?_
  refine axp_weak ?_ (f117_sw hz)
  rw [hk1]
  exact Weak.u
theorem f117_ex : ∃ g, PureOK Try.prog 117 true g ∧ ∀ x, EvOK x → ∃ d, (∃ n : Int, d = i64 n) ∧ g [eE x] = some d := by
  have hΓ := Γ117_ok
  refine pure_ex (enc := fun e => [eE e]) (dom := EvOK) (good := fun _ d => ∃ n : Int, d = i64 n) (n := 248) (rs := [.tmp 2]) Try.func117 (by kernel_rfl) rfl (by kernel_rfl) (by kernel_rfl) (fun a b h => eE_inj a b (by simpa using h)) ?_
  intro e hz
  refine ⟨fun _ d ⟨n, hd⟩ => hd ▸ .int _ _, ?_⟩
  have e131 := g131_eq (s := e.au) (by have := hz.au; omega)
  have e132 := g132_eq (l := e.ns) ⟨by have := hz.ns; omega, fun s hs => by have := hz.nss s hs; omega⟩
  have z3 := hz.ns
  rw [eE_eq e]
  rw [start_frame (by simp)]; simp only [enumV, go_sem, emptyH]
  (repeat (first | (apply axJ; (focus ((with_reducible constructor) <;> rfl))) | ((first | apply axR hΓ | apply axG | apply ovX rfl | apply ovE rfl); (simp (disch := omega) only [go_sem, ↓reduceIte, dk] <;> with_reducible rfl); exact trivial) | rfl))
  generalize nameB e.au = c1 at e131
  generalize hc2 : decide (e.n < 0) = c2
  generalize hc3 : decide (e.n > 63) = c3
  generalize hc4 : decide ((e.ns.length : Int) > 16) = c4
  generalize digsB e.ns = c5 at e132
  refine axp_mid (Y := Bool) (fun y => (frame 248 [(1, .ptr 0 0), (33, .data (.bool y))])) (fun _ => [(0, .box [.data (i64 e.k), .data (.str e.au), .data (i64 e.n), .data (.list (e.ns.map .str)), .data (.str e.ro), .data (i64 e.kb), .data (i64 e.kh), .data (.str e.pk), .data (.str e.dg), .data (.str e.q), .data (.str e.sc), .data (.str e.an), .data (i64 e.u), .data (.list (e.tg.map .str)), .data (i64 0), .data (.list []), .data (.list []), .data (.list [])])]) (fun _ => 1) (fun _ => True) ?_ ?_
  · ((first | apply axp_regB hΓ | (apply axp_regfB mixedOK hΓ (by kernel_rfl); (simp only [go_sem] <;> with_reducible rfl)) | (apply axp_regtB mixedOK hΓ rfl (by kernel_rfl); (simp only [go_sem] <;> with_reducible rfl))); (try simp (disch := omega) only [go_sem, ↓reduceIte, dk, Int.reduceBEq, Int.reduceBNe, Bool.true_bne, Bool.false_bne, Bool.not_true, Bool.not_false, Γ117, e131, hc2, hc3, hc4, e132]); (repeat' (first | (first | refine runs_some ?_ | (refine runsQ_some ?_; (try simp (disch := omega) only [go_sem, ↓reduceIte, dk, Int.reduceBEq, Int.reduceBNe, Bool.true_bne, Bool.false_bne, Bool.not_true, Bool.not_false, Γ117, e131, hc2, hc3, hc4, e132]); refine runs_some ?_) | refine runsQ_some ?_) | ((first | show Runs _ _ | show RunsQ _ _); (first | cases c1 | cases c2 | cases c3 | cases c4 | cases c5) <;> (try simp (disch := omega) only [go_sem, ↓reduceIte, dk, Int.reduceBEq, Int.reduceBNe, Bool.true_bne, Bool.false_bne, Bool.not_true, Bool.not_false, Γ117, e131, hc2, hc3, hc4, e132])))))
    all_goals exact ⟨_, Weak.u⟩
  rintro y -
  clear hc2 hc3 hc4
  cases y with
  | true => ((repeat (first | (apply axJ; (focus ((with_reducible constructor) <;> rfl))) | (apply axT mixedOK hΓ (by kernel_rfl); (simp (disch := omega) only [go_sem, ↓reduceIte, dk] <;> with_reducible rfl)) | ((first | apply axR hΓ | apply axG | apply axH mixedOK hΓ rfl (by kernel_rfl) | apply ovX rfl | apply ovE rfl); (simp (disch := omega) only [go_sem, ↓reduceIte, dk] <;> with_reducible rfl); exact trivial) | rfl)); (exact ⟨_, rfl⟩))
  | false =>
  (repeat (first | (apply axJ; (focus ((with_reducible constructor) <;> rfl))) | ((first | apply axR hΓ | apply axG | apply ovX rfl | apply ovE rfl); (simp (disch := omega) only [go_sem, ↓reduceIte, dk] <;> with_reducible rfl); exact trivial) | rfl))
  refine axp_loop_at (X := Nat) (fun i => (frame 248 [(1, .ptr 0 0), (3, .data (i64 i))])) (fun _ => [(0, .box [.data (i64 e.k), .data (.str e.au), .data (i64 e.n), .data (.list (e.ns.map .str)), .data (.str e.ro), .data (i64 e.kb), .data (i64 e.kh), .data (.str e.pk), .data (.str e.dg), .data (.str e.q), .data (.str e.sc), .data (.str e.an), .data (i64 e.u), .data (.list (e.tg.map .str)), .data (i64 0), .data (.list []), .data (.list []), .data (.list [])])]) 1
    (fun i => 1 ≤ i ∧ i ≤ e.ns.length + 1) (fun i => e.ns.length + 1 - i) 1 ⟨Nat.le_refl _, by omega⟩ (Weak.w) ?_
  rintro i ⟨hi1, hi⟩
  by_cases hi2 : i < e.ns.length
  · (repeat (first | (apply axJ; (focus ((with_reducible constructor) <;> rfl))) | ((first | apply axR hΓ | apply axG | apply ovX rfl | apply ovE rfl); (simp (disch := omega) only [go_sem, ↓reduceIte, dk] <;> with_reducible rfl); exact trivial) | rfl))
    (apply axp_regf mixedOK hΓ (by kernel_rfl); (simp (disch := omega) only [go_sem, ↓reduceIte, dk] <;> with_reducible rfl); (simp only [go_sem] <;> with_reducible rfl))
    (repeat (first | (apply axJ; (focus ((with_reducible constructor) <;> rfl))) | ((first | apply axR hΓ | apply axG | apply ovX rfl | apply ovE rfl); (simp (disch := omega) only [go_sem, ↓reduceIte, dk] <;> with_reducible rfl); exact trivial) | rfl))
    refine axp_cond (by simp (disch := omega) only [go_sem, ↓reduceIte]; rfl) (fun hc => ?_) (fun hc => ?_)
    · ((repeat (first | (apply axJ; (focus ((with_reducible constructor) <;> rfl))) | (apply axT mixedOK hΓ (by kernel_rfl); (simp (disch := omega) only [go_sem, ↓reduceIte, dk] <;> with_reducible rfl)) | ((first | apply axR hΓ | apply axG | apply axH mixedOK hΓ rfl (by kernel_rfl) | apply ovX rfl | apply ovE rfl); (simp (disch := omega) only [go_sem, ↓reduceIte, dk] <;> with_reducible rfl); exact trivial) | rfl)); (exact ⟨_, rfl⟩))
    (repeat (first | (apply axJ; (focus ((with_reducible constructor) <;> rfl))) | ((first | apply axR hΓ | apply axG | apply ovX rfl | apply ovE rfl); (simp (disch := omega) only [go_sem, ↓reduceIte, dk] <;> with_reducible rfl); exact trivial) | rfl))
    exact ⟨i + 1, ⟨by omega, by omega⟩, by omega, Weak.w⟩
  refine axA ?_
  refine axA ?_
  (apply axp_reg hΓ; (simp (disch := omega) only [go_sem, ↓reduceIte, dk] <;> with_reducible rfl))
  refine then_normal ?_
  refine axp_cond_f (by simp (disch := omega) only [go_sem, ↓reduceIte, dk] <;> rfl) ?_
  refine axp_exit ?_
  refine then_exit ?_
  refine then_exit ?_
  refine block_exit ?_
  refine then_normal ?_
  exact axp_weak (Weak.u) (f117_8 hz)
end Go.Ab
namespace Go.Ab
open Go Go.RowKit Go.Proofs
set_option maxRecDepth 4000
set_option maxHeartbeats 4000000
noncomputable def g117 := f117_ex.choose
theorem f117_ok : PureOK Try.prog 117 true g117 := f117_ex.choose_spec.1
theorem g117_eq {e : Ev} (h : EvOK e) : ∃ n : Int, g117 [eE e] = some (i64 n) := by
  obtain ⟨d, ⟨n, rfl⟩, h2⟩ := f117_ex.choose_spec.2 e h
  exact ⟨n, h2⟩
noncomputable def Γ90 : FuncId → Option CSpec := fun f => if f = 117 then some (.pure true (g117)) else if f = 46 then some (.pure true (g46)) else if f = 118 then some (.pure true (g118)) else if f = 119 then some (.pure true (g119)) else none
theorem Γ90_ok : ∀ f s, Γ90 f = some s → SpecOK Try.prog f s := by
  intro f s h
  unfold Γ90 at h
  split at h
  · rename_i hf; cases h; subst hf; exact f117_ok
  split at h
  · rename_i hf; cases h; subst hf; exact f46_ok
  split at h
  · rename_i hf; cases h; subst hf; exact f118_ok
  split at h
  · rename_i hf; cases h; subst hf; exact f119_ok
  · cases h
def StG (m : Nat) (d : D) : Prop := ∃ (s : List UInt8) (n : Int), d = .tup [.str s, i64 n] ∧ s.length ≤ m
theorem StG.flat {m : Nat} {d : D} (h : StG m d) : d.Flat := by
  obtain ⟨s, n, rfl, _⟩ := h
  exact flat_se _ _
theorem f90_ex : ∃ g, PureOK Try.prog 90 true g ∧ ∀ x, EvOK x → ∃ d, StG 60000 d ∧ g [eE x] = some d := by
  have hΓ := Γ90_ok
  refine pure_ex (enc := fun e => [eE e]) (dom := EvOK) (good := fun _ d => StG 60000 d) (n := 67) (rs := [.tmp 2, .tmp 3]) Try.func90 (by kernel_rfl) rfl (by kernel_rfl) (by kernel_rfl) (fun a b h => eE_inj a b (by simpa using h)) ?_
  intro e hz
  refine ⟨fun _ d h => h.flat, ?_⟩
  obtain ⟨r, e117⟩ := g117_eq hz
  obtain ⟨k, au, n, ns, ro, kb, kh, pk, dg, q, sc, an, u, tg⟩ := e
  obtain ⟨z1, z2, z3, z4, z5, z6, z7, z8, z9, z10, z11, z12, z13, z14, z15⟩ := hz
  dsimp only at z1 z2 z3 z4 z5 z6 z7 z8 z9 z10 z11 z12 z13 z14 z15
  unfold eE at e117 ⊢
  dsimp only at e117 ⊢
  have e46a := g46_eq k
  have e46b := g46_eq n
  have e46c := g46_eq kb
  have e46d := g46_eq kh
  have e46e := g46_eq u
  have e118a := g118_eq (s := au) (by omega)
  have e118b := g118_eq (s := ro) (by omega)
  have e118c := g118_eq (s := pk) (by omega)
  have e118d := g118_eq (s := dg) (by omega)
  have e118e := g118_eq (s := q) (by omega)
  have e118f := g118_eq (s := sc) (by omega)
  have e118g := g118_eq (s := an) (by omega)
  have e119a := g119_eq (l := ns) ⟨by omega, fun s hs => by have := z4 s hs; omega⟩
  have e119b := g119_eq (l := tg) ⟨by omega, fun s hs => by have := z13 s hs; omega⟩
  have l1 := numB_len k
  have l2 := numB_len n
  have l3 := numB_len kb
  have l4 := numB_len kh
  have l5 := numB_len u
  have l6 := textB_len au
  have l7 := textB_len ro
  have l8 := textB_len pk
  have l9 := textB_len dg
  have l10 := textB_len q
  have l11 := textB_len sc
  have l12 := textB_len an
  have l13 := textsB_len (l := ns) (m := 64) z4
  have l14 := textsB_len (l := tg) (m := 64) z13
  have l15 : ns.length * (64 + 20) ≤ 64 * (64 + 20) := Nat.mul_le_mul_right _ z3
  have l16 : tg.length * (64 + 20) ≤ 2 * (64 + 20) := Nat.mul_le_mul_right _ z12
  generalize numB k = s1 at *
  generalize numB n = s2 at *
  generalize numB kb = s3 at *
  generalize numB kh = s4 at *
  generalize numB u = s5 at *
  generalize textB au = s6 at *
  generalize textB ro = s7 at *
  generalize textB pk = s8 at *
  generalize textB dg = s9 at *
  generalize textB q = s10 at *
  generalize textB sc = s11 at *
  generalize textB an = s12 at *
  generalize textsB ns = s13 at *
  generalize textsB tg = s14 at *
  clear z1 z2 z4 z13 z14 z15
  generalize hc : (r != 0) = c
  rw [start_frame (by simp)]; simp only [enumV, go_sem, emptyH]
  cases c with
  | true =>
    repeat (first
      | (apply axJ; (focus ((with_reducible constructor) <;> rfl)))
      | (apply axT mixedOK hΓ (by kernel_rfl); (simp (disch := omega) only [go_sem, ↓reduceIte, dk, Γ90, e117, hc] <;> with_reducible rfl))
      | ((first | apply axR hΓ | apply axG | apply axH mixedOK hΓ rfl (by kernel_rfl) | apply ovX rfl | apply ovE rfl); (simp (disch := omega) only [go_sem, ↓reduceIte, dk, Γ90, e117, hc] <;> with_reducible rfl); exact trivial)
      | rfl)
    exact ⟨_, _, rfl, by simp⟩
  | false =>
    repeat (first
      | (apply axJ; (focus ((with_reducible constructor) <;> rfl)))
      | (apply axT mixedOK hΓ (by kernel_rfl); (simp (disch := omega) only [go_sem, ↓reduceIte, dk, Γ90, e117, hc] <;> with_reducible rfl))
      | ((first | apply axR hΓ | apply axG | apply axH mixedOK hΓ rfl (by kernel_rfl) | apply ovX rfl | apply ovE rfl); (simp (disch := omega) only [go_sem, ↓reduceIte, dk, Γ90, e117, hc] <;> with_reducible rfl); exact trivial)
      | rfl)
    repeat (first
      | (apply axJ; (focus ((with_reducible constructor) <;> rfl)))
      | (apply axT mixedOK hΓ (by kernel_rfl); (simp (disch := (first | omega | (simp only [maxLen, List.length_append, List.length_cons, List.length_nil]; omega))) only [go_sem, ↓reduceIte, ↓if_pos, ↓if_neg, decide_eq_true, decide_eq_false, if_pos, if_neg, wrap_in, Γ90, e46a, e46b, e46c, e46d, e46e, e118a, e118b, e118c, e118d, e118e, e118f, e118g, e119a, e119b] <;> with_reducible rfl))
      | ((first | apply axR hΓ | apply axG | apply axH mixedOK hΓ rfl (by kernel_rfl) | apply ovX rfl | apply ovE rfl); (simp (disch := (first | omega | (simp only [maxLen, List.length_append, List.length_cons, List.length_nil]; omega))) only [go_sem, ↓reduceIte, ↓if_pos, ↓if_neg, decide_eq_true, decide_eq_false, if_pos, if_neg, wrap_in, Γ90, e46a, e46b, e46c, e46d, e46e, e118a, e118b, e118c, e118d, e118e, e118f, e118g, e119a, e119b] <;> with_reducible rfl); exact trivial)
      | rfl)
    exact ⟨_, _, rfl, by simp only [List.length_append]; omega⟩
noncomputable def g90 := f90_ex.choose
theorem f90_ok : PureOK Try.prog 90 true g90 := f90_ex.choose_spec.1
theorem g90_eq {e : Ev} (h : EvOK e) : ∃ (s : List UInt8) (n : Int), g90 [eE e] = some (.tup [.str s, i64 n]) ∧ s.length ≤ 60000 := by
  obtain ⟨d, ⟨s, n, rfl, hl⟩, h2⟩ := f90_ex.choose_spec.2 e h
  exact ⟨s, n, h2, hl⟩
noncomputable def Γ68 : FuncId → Option CSpec := fun f => if f = 90 then some (.pure true (g90)) else if f = 36 then some (.pure true (g36)) else none
theorem Γ68_ok : ∀ f s, Γ68 f = some s → SpecOK Try.prog f s := by
  intro f s h
  unfold Γ68 at h
  split at h
  · rename_i hf; cases h; subst hf; exact f90_ok
  split at h
  · rename_i hf; cases h; subst hf; exact f36_ok
  · cases h
theorem f68_ex : ∃ g, PureOK Try.prog 68 true g ∧ ∀ x, EvOK x → ∃ d, StG 32 d ∧ g [eE x] = some d := by
  have hΓ := Γ68_ok
  refine pure_ex (enc := fun e => [eE e]) (dom := EvOK) (good := fun _ d => StG 32 d) (n := 17) (rs := [.tmp 2, .tmp 3]) Try.func68 (by kernel_rfl) rfl (by kernel_rfl) (by kernel_rfl) (fun a b h => eE_inj a b (by simpa using h)) ?_
  intro e hz
  refine ⟨fun _ d h => h.flat, ?_⟩
  obtain ⟨s, r, e90, hs⟩ := g90_eq hz
  unfold eE at e90 ⊢
  have e36 := g36_2 (a := [101, 118, 101, 110, 116]) (b := s) (by simp) (by omega)
  have hl := hsh_len [[101, 118, 101, 110, 116], s]
  generalize hsh [[101, 118, 101, 110, 116], s] = t at e36 hl
  generalize hc : (r != 0) = c
  rw [start_frame (by simp)]; simp only [enumV, go_sem, emptyH]
  cases c with
  | true =>
    repeat (first
      | (apply axJ; (focus ((with_reducible constructor) <;> rfl)))
      | (apply axT mixedOK hΓ (by kernel_rfl); (simp (disch := omega) only [go_sem, ↓reduceIte, dk, Γ68, e90, hc] <;> with_reducible rfl))
      | ((first | apply axR hΓ | apply axG | apply axH mixedOK hΓ rfl (by kernel_rfl) | apply ovX rfl | apply ovE rfl); (simp (disch := omega) only [go_sem, ↓reduceIte, dk, Γ68, e90, hc] <;> with_reducible rfl); exact trivial)
      | rfl)
    exact ⟨_, _, rfl, by simp⟩
  | false =>
    repeat (first
      | (apply axJ; (focus ((with_reducible constructor) <;> rfl)))
      | (apply axT mixedOK hΓ (by kernel_rfl); (simp (disch := omega) only [go_sem, ↓reduceIte, ↓lk, dk, Γ68, e90, e36, hc] <;> with_reducible rfl))
      | ((first | apply axR hΓ | apply axG | apply axH mixedOK hΓ rfl (by kernel_rfl) | apply ovX rfl | apply ovE rfl); (simp (disch := omega) only [go_sem, ↓reduceIte, ↓lk, dk, Γ68, e90, e36, hc] <;> with_reducible rfl); exact trivial)
      | rfl)
    exact ⟨_, _, rfl, by omega⟩
noncomputable def g68 := f68_ex.choose
theorem f68_ok : PureOK Try.prog 68 true g68 := f68_ex.choose_spec.1
theorem g68_eq {e : Ev} (h : EvOK e) : ∃ (s : List UInt8) (n : Int), g68 [eE e] = some (.tup [.str s, i64 n]) ∧ s.length ≤ 32 := by
  obtain ⟨d, ⟨s, n, rfl, hl⟩, h2⟩ := f68_ex.choose_spec.2 e h
  exact ⟨s, n, h2, hl⟩
end Go.Ab
