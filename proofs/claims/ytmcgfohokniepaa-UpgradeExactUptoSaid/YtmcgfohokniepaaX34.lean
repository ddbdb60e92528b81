/-
  One text of the proof (own work): contracts of functions of the program, by the abstract machine.
-/
import Derived.Test.YtmcgfohokniepaaX21
import Derived.Test.YtmcgfohokniepaaX24
import Derived.Test.YtmcgfohokniepaaX25
import Derived.Test.YtmcgfohokniepaaX26
import Derived.Test.YtmcgfohokniepaaX18
set_option linter.unusedVariables false
set_option linter.unusedSimpArgs false
namespace Go.Ab
open Go Go.RowKit Go.Proofs
set_option maxRecDepth 4000
set_option maxHeartbeats 40000000
noncomputable def Γ117 : FuncId → Option CSpec := fun f => if f = 131 then some (.pure true (g131)) else if f = 132 then some (.pure true (g132)) else if f = 133 then some (.pure true (g133)) else if f = 134 then some (.pure true (g134)) else if f = 135 then some (.pure true (g135)) else none
theorem Γ117_ok : ∀ f s, Γ117 f = some s → SpecOK Try.prog f s := by
  intro f s h
  unfold Γ117 at h
  split at h
  · rename_i hf; cases h; subst hf; exact f131_ok
  split at h
  · rename_i hf; cases h; subst hf; exact f132_ok
  split at h
  · rename_i hf; cases h; subst hf; exact f133_ok
  split at h
  · rename_i hf; cases h; subst hf; exact f134_ok
  split at h
  · rename_i hf; cases h; subst hf; exact f135_ok
  · cases h
theorem r26a {e : Ev} (hz : EvOK e) (b4 b5 : Bool) (K : List AV → Heap → Prop) (Q : Exit → List AV → Heap → Prop) (hK : ∀ y : Bool, K ((frame 248 [(1, .ptr 0 0), (247, .data (.bool y))])) ⟨[(0, .box [.data (i64 e.k), .data (.str e.au), .data (i64 e.n), .data (.list (e.ns.map .str)), .data (.str e.ro), .data (i64 e.kb), .data (i64 e.kh), .data (.str e.pk), .data (.str e.dg), .data (.str e.q), .data (.str e.sc), .data (.str e.an), .data (i64 e.u), .data (.list (e.tg.map .str)), .data (i64 0), .data (.list []), .data (.list []), .data (.list [])])], 1⟩) :
    axp Try.prog 0 (navF Try.f117 [1, 1, 1, 1, 1, 1, 1, 1, 1, 0, 0]) (thenA K Q) ((frame 248 [(1, .ptr 0 0), (4, .data (.bool b4)), (5, .data (.bool b5)), (6, .data (.bool true))])) ⟨[(0, .box [.data (i64 e.k), .data (.str e.au), .data (i64 e.n), .data (.list (e.ns.map .str)), .data (.str e.ro), .data (i64 e.kb), .data (i64 e.kh), .data (.str e.pk), .data (.str e.dg), .data (.str e.q), .data (.str e.sc), .data (.str e.an), .data (i64 e.u), .data (.list (e.tg.map .str)), .data (i64 0), .data (.list []), .data (.list []), .data (.list [])])], 1⟩ := by
  have hΓ := Γ117_ok
  conv => arg 3; whnf
  have ht := hz.tg
  generalize d20e : decide ((e.tg.length : Int) > 0) = d20
  refine axp_mid (Y := Bool) (fun y => (frame 248 [(1, .ptr 0 0), (247, .data (.bool y))])) (fun _ => [(0, .box [.data (i64 e.k), .data (.str e.au), .data (i64 e.n), .data (.list (e.ns.map .str)), .data (.str e.ro), .data (i64 e.kb), .data (i64 e.kh), .data (.str e.pk), .data (.str e.dg), .data (.str e.q), .data (.str e.sc), .data (.str e.an), .data (i64 e.u), .data (.list (e.tg.map .str)), .data (i64 0), .data (.list []), .data (.list []), .data (.list [])])]) (fun _ => 1) (fun _ => True) ?_ (fun y _ => hK y)
  ((first | apply axp_regB hΓ | (apply axp_regfB mixedOK hΓ (by kernel_rfl); (simp only [go_sem] <;> with_reducible rfl)) | (apply axp_regtB mixedOK hΓ rfl (by kernel_rfl); (simp only [go_sem] <;> with_reducible rfl))); (try simp (disch := omega) only [go_sem, ↓reduceIte, dk, Int.reduceBEq, Int.reduceBNe, Bool.true_bne, Bool.false_bne, Bool.not_true, Bool.not_false, d20e]); (repeat' (first | (first | refine runs_some ?_ | (refine runsQ_some ?_; (try simp (disch := omega) only [go_sem, ↓reduceIte, dk, Int.reduceBEq, Int.reduceBNe, Bool.true_bne, Bool.false_bne, Bool.not_true, Bool.not_false, d20e]); refine runs_some ?_) | refine runsQ_some ?_) | ((first | show Runs _ _ | show RunsQ _ _); (first | cases b4 | cases b5 | cases d20) <;> (try simp (disch := omega) only [go_sem, ↓reduceIte, dk, Int.reduceBEq, Int.reduceBNe, Bool.true_bne, Bool.false_bne, Bool.not_true, Bool.not_false, d20e])))))
  all_goals exact ⟨_, Weak.u⟩
theorem r26b {e : Ev} (hz : EvOK e) (b4 b5 : Bool) (d16e : (e.q == []) = true) (d17e : (e.sc == []) = true) (d18e : (e.an == []) = true) (d19e : (e.u != 0) = false) (K : List AV → Heap → Prop) (Q : Exit → List AV → Heap → Prop) (hK : ∀ y : Bool, K ((frame 248 [(1, .ptr 0 0), (247, .data (.bool y))])) ⟨[(0, .box [.data (i64 e.k), .data (.str e.au), .data (i64 e.n), .data (.list (e.ns.map .str)), .data (.str e.ro), .data (i64 e.kb), .data (i64 e.kh), .data (.str e.pk), .data (.str e.dg), .data (.str e.q), .data (.str e.sc), .data (.str e.an), .data (i64 e.u), .data (.list (e.tg.map .str)), .data (i64 0), .data (.list []), .data (.list []), .data (.list [])])], 1⟩) :
    axp Try.prog 0 (navF Try.f117 [1, 1, 1, 1, 1, 1, 1, 1, 1, 0, 0]) (thenA K Q) ((frame 248 [(1, .ptr 0 0), (4, .data (.bool b4)), (5, .data (.bool b5)), (6, .data (.bool false))])) ⟨[(0, .box [.data (i64 e.k), .data (.str e.au), .data (i64 e.n), .data (.list (e.ns.map .str)), .data (.str e.ro), .data (i64 e.kb), .data (i64 e.kh), .data (.str e.pk), .data (.str e.dg), .data (.str e.q), .data (.str e.sc), .data (.str e.an), .data (i64 e.u), .data (.list (e.tg.map .str)), .data (i64 0), .data (.list []), .data (.list []), .data (.list [])])], 1⟩ := by
  have hΓ := Γ117_ok
  conv => arg 3; whnf
  have ht := hz.tg
  generalize d20e : decide ((e.tg.length : Int) > 0) = d20
  refine axp_mid (Y := Bool) (fun y => (frame 248 [(1, .ptr 0 0), (247, .data (.bool y))])) (fun _ => [(0, .box [.data (i64 e.k), .data (.str e.au), .data (i64 e.n), .data (.list (e.ns.map .str)), .data (.str e.ro), .data (i64 e.kb), .data (i64 e.kh), .data (.str e.pk), .data (.str e.dg), .data (.str e.q), .data (.str e.sc), .data (.str e.an), .data (i64 e.u), .data (.list (e.tg.map .str)), .data (i64 0), .data (.list []), .data (.list []), .data (.list [])])]) (fun _ => 1) (fun _ => True) ?_ (fun y _ => hK y)
  ((first | apply axp_regB hΓ | (apply axp_regfB mixedOK hΓ (by kernel_rfl); (simp only [go_sem] <;> with_reducible rfl)) | (apply axp_regtB mixedOK hΓ rfl (by kernel_rfl); (simp only [go_sem] <;> with_reducible rfl))); (try simp (disch := omega) only [go_sem, ↓reduceIte, dk, Int.reduceBEq, Int.reduceBNe, Bool.true_bne, Bool.false_bne, Bool.not_true, Bool.not_false, d16e, d17e, d18e, d19e, d20e]); (repeat' (first | (first | refine runs_some ?_ | (refine runsQ_some ?_; (try simp (disch := omega) only [go_sem, ↓reduceIte, dk, Int.reduceBEq, Int.reduceBNe, Bool.true_bne, Bool.false_bne, Bool.not_true, Bool.not_false, d16e, d17e, d18e, d19e, d20e]); refine runs_some ?_) | refine runsQ_some ?_) | ((first | show Runs _ _ | show RunsQ _ _); (first | cases b4 | cases b5 | cases d20) <;> (try simp (disch := omega) only [go_sem, ↓reduceIte, dk, Int.reduceBEq, Int.reduceBNe, Bool.true_bne, Bool.false_bne, Bool.not_true, Bool.not_false, d16e, d17e, d18e, d19e, d20e])))))
  all_goals exact ⟨_, Weak.u⟩
theorem r26c {e : Ev} (hz : EvOK e) (b4 b5 : Bool) (d16e : (e.q == []) = false) (K : List AV → Heap → Prop) (Q : Exit → List AV → Heap → Prop) (hK : ∀ y : Bool, K ((frame 248 [(1, .ptr 0 0), (247, .data (.bool y))])) ⟨[(0, .box [.data (i64 e.k), .data (.str e.au), .data (i64 e.n), .data (.list (e.ns.map .str)), .data (.str e.ro), .data (i64 e.kb), .data (i64 e.kh), .data (.str e.pk), .data (.str e.dg), .data (.str e.q), .data (.str e.sc), .data (.str e.an), .data (i64 e.u), .data (.list (e.tg.map .str)), .data (i64 0), .data (.list []), .data (.list []), .data (.list [])])], 1⟩) :
    axp Try.prog 0 (navF Try.f117 [1, 1, 1, 1, 1, 1, 1, 1, 1, 0, 0]) (thenA K Q) ((frame 248 [(1, .ptr 0 0), (4, .data (.bool b4)), (5, .data (.bool b5)), (6, .data (.bool false))])) ⟨[(0, .box [.data (i64 e.k), .data (.str e.au), .data (i64 e.n), .data (.list (e.ns.map .str)), .data (.str e.ro), .data (i64 e.kb), .data (i64 e.kh), .data (.str e.pk), .data (.str e.dg), .data (.str e.q), .data (.str e.sc), .data (.str e.an), .data (i64 e.u), .data (.list (e.tg.map .str)), .data (i64 0), .data (.list []), .data (.list []), .data (.list [])])], 1⟩ := by
  have hΓ := Γ117_ok
  conv => arg 3; whnf
  have ht := hz.tg
  refine axp_mid (Y := Bool) (fun y => (frame 248 [(1, .ptr 0 0), (247, .data (.bool y))])) (fun _ => [(0, .box [.data (i64 e.k), .data (.str e.au), .data (i64 e.n), .data (.list (e.ns.map .str)), .data (.str e.ro), .data (i64 e.kb), .data (i64 e.kh), .data (.str e.pk), .data (.str e.dg), .data (.str e.q), .data (.str e.sc), .data (.str e.an), .data (i64 e.u), .data (.list (e.tg.map .str)), .data (i64 0), .data (.list []), .data (.list []), .data (.list [])])]) (fun _ => 1) (fun _ => True) ?_ (fun y _ => hK y)
  ((first | apply axp_regB hΓ | (apply axp_regfB mixedOK hΓ (by kernel_rfl); (simp only [go_sem] <;> with_reducible rfl)) | (apply axp_regtB mixedOK hΓ rfl (by kernel_rfl); (simp only [go_sem] <;> with_reducible rfl))); (try simp (disch := omega) only [go_sem, ↓reduceIte, dk, Int.reduceBEq, Int.reduceBNe, Bool.true_bne, Bool.false_bne, Bool.not_true, Bool.not_false, d16e]); (first | refine runs_some ?_ | (refine runsQ_some ?_; (try simp (disch := omega) only [go_sem, ↓reduceIte, dk, Int.reduceBEq, Int.reduceBNe, Bool.true_bne, Bool.false_bne, Bool.not_true, Bool.not_false, d16e]); refine runs_some ?_) | refine runsQ_some ?_))
  all_goals exact ⟨_, Weak.u⟩
theorem r26d {e : Ev} (hz : EvOK e) (b4 b5 : Bool) (d16e : (e.q == []) = true) (d17e : (e.sc == []) = false) (K : List AV → Heap → Prop) (Q : Exit → List AV → Heap → Prop) (hK : ∀ y : Bool, K ((frame 248 [(1, .ptr 0 0), (247, .data (.bool y))])) ⟨[(0, .box [.data (i64 e.k), .data (.str e.au), .data (i64 e.n), .data (.list (e.ns.map .str)), .data (.str e.ro), .data (i64 e.kb), .data (i64 e.kh), .data (.str e.pk), .data (.str e.dg), .data (.str e.q), .data (.str e.sc), .data (.str e.an), .data (i64 e.u), .data (.list (e.tg.map .str)), .data (i64 0), .data (.list []), .data (.list []), .data (.list [])])], 1⟩) :
    axp Try.prog 0 (navF Try.f117 [1, 1, 1, 1, 1, 1, 1, 1, 1, 0, 0]) (thenA K Q) ((frame 248 [(1, .ptr 0 0), (4, .data (.bool b4)), (5, .data (.bool b5)), (6, .data (.bool false))])) ⟨[(0, .box [.data (i64 e.k), .data (.str e.au), .data (i64 e.n), .data (.list (e.ns.map .str)), .data (.str e.ro), .data (i64 e.kb), .data (i64 e.kh), .data (.str e.pk), .data (.str e.dg), .data (.str e.q), .data (.str e.sc), .data (.str e.an), .data (i64 e.u), .data (.list (e.tg.map .str)), .data (i64 0), .data (.list []), .data (.list []), .data (.list [])])], 1⟩ := by
  have hΓ := Γ117_ok
  conv => arg 3; whnf
  have ht := hz.tg
  refine axp_mid (Y := Bool) (fun y => (frame 248 [(1, .ptr 0 0), (247, .data (.bool y))])) (fun _ => [(0, .box [.data (i64 e.k), .data (.str e.au), .data (i64 e.n), .data (.list (e.ns.map .str)), .data (.str e.ro), .data (i64 e.kb), .data (i64 e.kh), .data (.str e.pk), .data (.str e.dg), .data (.str e.q), .data (.str e.sc), .data (.str e.an), .data (i64 e.u), .data (.list (e.tg.map .str)), .data (i64 0), .data (.list []), .data (.list []), .data (.list [])])]) (fun _ => 1) (fun _ => True) ?_ (fun y _ => hK y)
  ((first | apply axp_regB hΓ | (apply axp_regfB mixedOK hΓ (by kernel_rfl); (simp only [go_sem] <;> with_reducible rfl)) | (apply axp_regtB mixedOK hΓ rfl (by kernel_rfl); (simp only [go_sem] <;> with_reducible rfl))); (try simp (disch := omega) only [go_sem, ↓reduceIte, dk, Int.reduceBEq, Int.reduceBNe, Bool.true_bne, Bool.false_bne, Bool.not_true, Bool.not_false, d16e, d17e]); (first | refine runs_some ?_ | (refine runsQ_some ?_; (try simp (disch := omega) only [go_sem, ↓reduceIte, dk, Int.reduceBEq, Int.reduceBNe, Bool.true_bne, Bool.false_bne, Bool.not_true, Bool.not_false, d16e, d17e]); refine runs_some ?_) | refine runsQ_some ?_))
  all_goals exact ⟨_, Weak.u⟩
theorem r26e {e : Ev} (hz : EvOK e) (b4 b5 : Bool) (d16e : (e.q == []) = true) (d17e : (e.sc == []) = true) (d18e : (e.an == []) = false) (K : List AV → Heap → Prop) (Q : Exit → List AV → Heap → Prop) (hK : ∀ y : Bool, K ((frame 248 [(1, .ptr 0 0), (247, .data (.bool y))])) ⟨[(0, .box [.data (i64 e.k), .data (.str e.au), .data (i64 e.n), .data (.list (e.ns.map .str)), .data (.str e.ro), .data (i64 e.kb), .data (i64 e.kh), .data (.str e.pk), .data (.str e.dg), .data (.str e.q), .data (.str e.sc), .data (.str e.an), .data (i64 e.u), .data (.list (e.tg.map .str)), .data (i64 0), .data (.list []), .data (.list []), .data (.list [])])], 1⟩) :
    axp Try.prog 0 (navF Try.f117 [1, 1, 1, 1, 1, 1, 1, 1, 1, 0, 0]) (thenA K Q) ((frame 248 [(1, .ptr 0 0), (4, .data (.bool b4)), (5, .data (.bool b5)), (6, .data (.bool false))])) ⟨[(0, .box [.data (i64 e.k), .data (.str e.au), .data (i64 e.n), .data (.list (e.ns.map .str)), .data (.str e.ro), .data (i64 e.kb), .data (i64 e.kh), .data (.str e.pk), .data (.str e.dg), .data (.str e.q), .data (.str e.sc), .data (.str e.an), .data (i64 e.u), .data (.list (e.tg.map .str)), .data (i64 0), .data (.list []), .data (.list []), .data (.list [])])], 1⟩ := by
  have hΓ := Γ117_ok
  conv => arg 3; whnf
  have ht := hz.tg
  refine axp_mid (Y := Bool) (fun y => (frame 248 [(1, .ptr 0 0), (247, .data (.bool y))])) (fun _ => [(0, .box [.data (i64 e.k), .data (.str e.au), .data (i64 e.n), .data (.list (e.ns.map .str)), .data (.str e.ro), .data (i64 e.kb), .data (i64 e.kh), .data (.str e.pk), .data (.str e.dg), .data (.str e.q), .data (.str e.sc), .data (.str e.an), .data (i64 e.u), .data (.list (e.tg.map .str)), .data (i64 0), .data (.list []), .data (.list []), .data (.list [])])]) (fun _ => 1) (fun _ => True) ?_ (fun y _ => hK y)
  ((first | apply axp_regB hΓ | (apply axp_regfB mixedOK hΓ (by kernel_rfl); (simp only [go_sem] <;> with_reducible rfl)) | (apply axp_regtB mixedOK hΓ rfl (by kernel_rfl); (simp only [go_sem] <;> with_reducible rfl))); (try simp (disch := omega) only [go_sem, ↓reduceIte, dk, Int.reduceBEq, Int.reduceBNe, Bool.true_bne, Bool.false_bne, Bool.not_true, Bool.not_false, d16e, d17e, d18e]); (first | refine runs_some ?_ | (refine runsQ_some ?_; (try simp (disch := omega) only [go_sem, ↓reduceIte, dk, Int.reduceBEq, Int.reduceBNe, Bool.true_bne, Bool.false_bne, Bool.not_true, Bool.not_false, d16e, d17e, d18e]); refine runs_some ?_) | refine runsQ_some ?_))
  all_goals exact ⟨_, Weak.u⟩
theorem r26f {e : Ev} (hz : EvOK e) (b4 b5 : Bool) (d16e : (e.q == []) = true) (d17e : (e.sc == []) = true) (d18e : (e.an == []) = true) (d19e : (e.u != 0) = true) (K : List AV → Heap → Prop) (Q : Exit → List AV → Heap → Prop) (hK : ∀ y : Bool, K ((frame 248 [(1, .ptr 0 0), (247, .data (.bool y))])) ⟨[(0, .box [.data (i64 e.k), .data (.str e.au), .data (i64 e.n), .data (.list (e.ns.map .str)), .data (.str e.ro), .data (i64 e.kb), .data (i64 e.kh), .data (.str e.pk), .data (.str e.dg), .data (.str e.q), .data (.str e.sc), .data (.str e.an), .data (i64 e.u), .data (.list (e.tg.map .str)), .data (i64 0), .data (.list []), .data (.list []), .data (.list [])])], 1⟩) :
    axp Try.prog 0 (navF Try.f117 [1, 1, 1, 1, 1, 1, 1, 1, 1, 0, 0]) (thenA K Q) ((frame 248 [(1, .ptr 0 0), (4, .data (.bool b4)), (5, .data (.bool b5)), (6, .data (.bool false))])) ⟨[(0, .box [.data (i64 e.k), .data (.str e.au), .data (i64 e.n), .data (.list (e.ns.map .str)), .data (.str e.ro), .data (i64 e.kb), .data (i64 e.kh), .data (.str e.pk), .data (.str e.dg), .data (.str e.q), .data (.str e.sc), .data (.str e.an), .data (i64 e.u), .data (.list (e.tg.map .str)), .data (i64 0), .data (.list []), .data (.list []), .data (.list [])])], 1⟩ := by
  have hΓ := Γ117_ok
  conv => arg 3; whnf
  have ht := hz.tg
  refine axp_mid (Y := Bool) (fun y => (frame 248 [(1, .ptr 0 0), (247, .data (.bool y))])) (fun _ => [(0, .box [.data (i64 e.k), .data (.str e.au), .data (i64 e.n), .data (.list (e.ns.map .str)), .data (.str e.ro), .data (i64 e.kb), .data (i64 e.kh), .data (.str e.pk), .data (.str e.dg), .data (.str e.q), .data (.str e.sc), .data (.str e.an), .data (i64 e.u), .data (.list (e.tg.map .str)), .data (i64 0), .data (.list []), .data (.list []), .data (.list [])])]) (fun _ => 1) (fun _ => True) ?_ (fun y _ => hK y)
  ((first | apply axp_regB hΓ | (apply axp_regfB mixedOK hΓ (by kernel_rfl); (simp only [go_sem] <;> with_reducible rfl)) | (apply axp_regtB mixedOK hΓ rfl (by kernel_rfl); (simp only [go_sem] <;> with_reducible rfl))); (try simp (disch := omega) only [go_sem, ↓reduceIte, dk, Int.reduceBEq, Int.reduceBNe, Bool.true_bne, Bool.false_bne, Bool.not_true, Bool.not_false, d16e, d17e, d18e, d19e]); (first | refine runs_some ?_ | (refine runsQ_some ?_; (try simp (disch := omega) only [go_sem, ↓reduceIte, dk, Int.reduceBEq, Int.reduceBNe, Bool.true_bne, Bool.false_bne, Bool.not_true, Bool.not_false, d16e, d17e, d18e, d19e]); refine runs_some ?_) | refine runsQ_some ?_))
  all_goals exact ⟨_, Weak.u⟩
theorem f117_26 {e : Ev} (hz : EvOK e) (b4 b5 b6 : Bool) : axp Try.prog 0 (navF Try.f117 [1,1,1,1,1,1,1,1,1]) (RetX Try.prog [.tmp 2] (fun d => ∃ n : Int, d = i64 n)) ((frame 248 [(1, .ptr 0 0), (4, .data (.bool b4)), (5, .data (.bool b5)), (6, .data (.bool b6))])) ⟨[(0, .box [.data (i64 e.k), .data (.str e.au), .data (i64 e.n), .data (.list (e.ns.map .str)), .data (.str e.ro), .data (i64 e.kb), .data (i64 e.kh), .data (.str e.pk), .data (.str e.dg), .data (.str e.q), .data (.str e.sc), .data (.str e.an), .data (i64 e.u), .data (.list (e.tg.map .str)), .data (i64 0), .data (.list []), .data (.list []), .data (.list [])])], 1⟩ := by
  have hΓ := Γ117_ok
  conv => arg 3; whnf
  refine axA ?_
  refine axA ?_
  have key : ∀ (K : List AV → Heap → Prop) (Q : Exit → List AV → Heap → Prop) (hK : ∀ y : Bool, K ((frame 248 [(1, .ptr 0 0), (247, .data (.bool y))])) ⟨[(0, .box [.data (i64 e.k), .data (.str e.au), .data (i64 e.n), .data (.list (e.ns.map .str)), .data (.str e.ro), .data (i64 e.kb), .data (i64 e.kh), .data (.str e.pk), .data (.str e.dg), .data (.str e.q), .data (.str e.sc), .data (.str e.an), .data (i64 e.u), .data (.list (e.tg.map .str)), .data (i64 0), .data (.list []), .data (.list []), .data (.list [])])], 1⟩), axp Try.prog 0 (navF Try.f117 [1, 1, 1, 1, 1, 1, 1, 1, 1, 0, 0]) (thenA K Q) ((frame 248 [(1, .ptr 0 0), (4, .data (.bool b4)), (5, .data (.bool b5)), (6, .data (.bool b6))])) ⟨[(0, .box [.data (i64 e.k), .data (.str e.au), .data (i64 e.n), .data (.list (e.ns.map .str)), .data (.str e.ro), .data (i64 e.kb), .data (i64 e.kh), .data (.str e.pk), .data (.str e.dg), .data (.str e.q), .data (.str e.sc), .data (.str e.an), .data (i64 e.u), .data (.list (e.tg.map .str)), .data (i64 0), .data (.list []), .data (.list []), .data (.list [])])], 1⟩ := by
    intro K Q hK
    cases b6 with
    | true => exact r26a hz b4 b5 K Q hK
    | false =>
    cases h1 : (e.q == []) with
    | false => exact r26c hz b4 b5 h1 K Q hK
    | true =>
    cases h2 : (e.sc == []) with
    | false => exact r26d hz b4 b5 h1 h2 K Q hK
    | true =>
    cases h3 : (e.an == []) with
    | false => exact r26e hz b4 b5 h1 h2 h3 K Q hK
    | true =>
    cases h4 : (e.u != 0) with
    | false => exact r26b hz b4 b5 h1 h2 h3 h4 K Q hK
    | true => exact r26f hz b4 b5 h1 h2 h3 h4 K Q hK
  refine key _ _ fun y => ?_
  cases y with
  | true => ((repeat (first | (apply axJ; (focus ((with_reducible constructor) <;> rfl))) | (apply axT mixedOK hΓ (by kernel_rfl); (simp (disch := omega) only [go_sem, ↓reduceIte, dk] <;> with_reducible rfl)) | ((first | apply axR hΓ | apply axG | apply axH mixedOK hΓ rfl (by kernel_rfl) | apply ovX rfl | apply ovE rfl); (simp (disch := omega) only [go_sem, ↓reduceIte, dk] <;> with_reducible rfl); exact trivial) | rfl)); (exact ⟨_, rfl⟩))
  | false => ((repeat (first | (apply axJ; (focus ((with_reducible constructor) <;> rfl))) | (apply axT mixedOK hΓ (by kernel_rfl); (simp (disch := omega) only [go_sem, ↓reduceIte, dk] <;> with_reducible rfl)) | ((first | apply axR hΓ | apply axG | apply axH mixedOK hΓ rfl (by kernel_rfl) | apply ovX rfl | apply ovE rfl); (simp (disch := omega) only [go_sem, ↓reduceIte, dk] <;> with_reducible rfl); exact trivial) | rfl)); (exact ⟨_, rfl⟩))
end Go.Ab
