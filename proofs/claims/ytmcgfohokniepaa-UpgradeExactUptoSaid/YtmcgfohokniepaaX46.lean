/-
  One text of the proof (own work): contracts of functions of the program, by the abstract machine.
-/
import Derived.Test.YtmcgfohokniepaaX21
import Derived.Test.YtmcgfohokniepaaX45
import Derived.Test.YtmcgfohokniepaaX28
set_option linter.unusedVariables false
set_option linter.unusedSimpArgs false
namespace Go.Ab
open Go Go.RowKit Go.Proofs
set_option maxRecDepth 4000
set_option maxHeartbeats 4000000
def hit (r : Rev) (l : List Now) (q s : List UInt8) (d : Dc) : Bool := (d.q == q) && (d.s == s) && (stat r l d == 1)
def ansStep (r : Rev) (l : List Now) (q s : List UInt8) (acc : List (List UInt8)) (d : Dc) : List (List UInt8) := if hit r l q s d then (if acc.any (· == d.ans) then acc else acc ++ [d.ans]) else acc
def ansN (r : Rev) (l : List Now) (q s : List UInt8) (i : Nat) : List (List UInt8) := (r.dcs.take i).foldl (ansStep r l q s) []
theorem ansN_succ {r : Rev} {l : List Now} {q s : List UInt8} {i : Nat} (h : i < r.dcs.length) : ansN r l q s (i + 1) = ansStep r l q s (ansN r l q s i) r.dcs[i] := by
  unfold ansN
  rw [List.take_add_one, List.getElem?_eq_getElem h, List.foldl_append]
  rfl
theorem ansStep_len (r : Rev) (l : List Now) (q s : List UInt8) (acc : List (List UInt8)) (d : Dc) : (ansStep r l q s acc d).length ≤ acc.length + 1 := by
  unfold ansStep
  split
  · split
    · omega
    · simp
  · omega
theorem ansN_len (r : Rev) (l : List Now) (q s : List UInt8) : ∀ i, i ≤ r.dcs.length → (ansN r l q s i).length ≤ i
  | 0, _ => Nat.le_refl _
  | i + 1, h => by
    rw [ansN_succ (by omega)]
    have := ansN_len r l q s i (by omega)
    have := ansStep_len r l q s (ansN r l q s i) r.dcs[i]
    omega
noncomputable def g41 : List D → Option D := encSpec (fun x : Rev × List Now × List UInt8 × List UInt8 => [eR x.1, .list (x.2.1.map eN), .str x.2.2.1, .str x.2.2.2]) (fun x => SzA x.1 x.2.1) (fun x => .list ((ansN x.1 x.2.1 x.2.2.1 x.2.2.2 x.1.dcs.length).map .str))
theorem g41_eq {r : Rev} {l : List Now} {q s : List UInt8} (h : SzA r l) : g41 [.agg [.list (r.rvs.map eRw), .list (r.pks.map ePk), .list (r.dcs.map eDc), .list (r.dps.map eDp)], .list (l.map eN), .str q, .str s] = some (.list ((ansN r l q s r.dcs.length).map .str)) := encSpec_eq (x := (r, l, q, s)) h fun y hy => by
  obtain ⟨y1, y2, y3, y4⟩ := y
  simp only [List.cons.injEq, and_true, D.list.injEq, D.str.injEq] at hy
  rw [eR_inj _ _ hy.1, map_inj eN_inj hy.2.1, hy.2.2.1, hy.2.2.2]
noncomputable def Γ41 : FuncId → Option CSpec := fun f => if f = 40 then some (.pure true (g40)) else none
theorem Γ41_ok : ∀ f s, Γ41 f = some s → SpecOK Try.prog f s := by
  intro f s h
  unfold Γ41 at h
  split at h
  · rename_i hf; cases h; subst hf; exact f40_ok
  · cases h
theorem f41_ok : PureOK Try.prog 41 false g41 := by
  have hΓ := Γ41_ok
  refine pure_enc (n := 67) (rs := [.tmp 8]) Try.func41 (by kernel_rfl) rfl (by kernel_rfl) (by kernel_rfl) ?_
  rintro ⟨r, l, q, s⟩ hz
  dsimp only at hz ⊢
  have hdl := hz.v.r.dcs
  refine ⟨fun h => (by cases h), fun k hz0 => ?_⟩
  rw [start_frame (by simp)]; simp only [enumV, go_sem, emptyH]
  repeat (first
    | (apply axJ; (focus ((with_reducible constructor) <;> rfl)))
    | (apply awT mixedOK hΓ (by kernel_rfl); (simp (disch := omega) only [go_sem, ↓reduceIte, dk] <;> with_reducible rfl))
    | ((first | apply awR hΓ | apply awG | apply awH mixedOK hΓ rfl (by kernel_rfl) | apply ovE rfl); (simp (disch := omega) only [go_sem, ↓reduceIte, dk] <;> with_reducible rfl); exact trivial)
    | rfl)
  refine awp_loop_at (X := Nat) (fun i => (frame 67 [(1, .data (.list (l.map eN))), (2, .data (.str q)), (3, .data (.str s)), (4, .ptr 0 0), (9, .row 4 (ansN r l q s i).length), (10, .data (i64 i))]))
    (fun i => [(0, .box [.data (.list (r.rvs.map eRw)), .data (.list (r.pks.map ePk)), .data (.list (r.dcs.map eDc)), .data (.list (r.dps.map eDp))]), (4, .row 9 1 ((ansN r l q s i).map .str))]) 5
    (fun i => i ≤ r.dcs.length) (fun i => r.dcs.length - i) 0 (Nat.zero_le _) ((Weak.nilrowF (i := 9) 9 (sz := 1) (by omega) (by omega) rfl).trans (Weak.v (by (simp [ConvF, lookV, Conv, ints, ansN]; done)) (by (simp (disch := omega) only [TabSub, look, if_pos, if_neg, Obj.refsOK, refsOKs, AV.refsOK, decide_eq_true_eq, Bool.and_true, Bool.and_self, ansN] ) <;> ((repeat' apply And.intro) <;> first | exact True.intro | omega | (simp; done) | rfl)))) ?_
  intro i hi
  have hal := ansN_len r l q s i hi
  by_cases hi2 : i < r.dcs.length
  · have hq := hz.q _ (List.getElem_mem hi2)
    have hnx := ansN_succ (l := l) (q := q) (s := s) hi2
    generalize hy : r.dcs[i] = y at hq hnx
    have e40 := g40_eq hz hq
    generalize hacc : ansN r l q s i = acc at hnx hal
    cases hx1 : (y.q == q) with
    | false =>
      have hx1' : (y.q != q) = true := by simp [bne, hx1]
      have hn : ansN r l q s (i + 1) = acc := by rw [hnx]; simp [ansStep, hit, hx1]
      repeat (first
        | (apply axJ; (focus ((with_reducible constructor) <;> rfl)))
        | (apply awT mixedOK hΓ (by kernel_rfl); (simp (disch := omega) only [go_sem, ↓reduceIte, dk, eDc, hy, hx1, hx1'] <;> with_reducible rfl))
        | ((first | apply awR hΓ | apply awG | apply awH mixedOK hΓ rfl (by kernel_rfl) | apply ovE rfl); (simp (disch := omega) only [go_sem, ↓reduceIte, dk, eDc, hy, hx1, hx1'] <;> with_reducible rfl); exact trivial)
        | rfl)
      exact ⟨i + 1, by omega, by omega, Weak.v (by (simp [ConvF, lookV, Conv, ints, hn]; done)) (by (simp (disch := omega) only [TabSub, look, if_pos, if_neg, Obj.refsOK, refsOKs, AV.refsOK, decide_eq_true_eq, Bool.and_true, Bool.and_self, hn] ) <;> ((repeat' apply And.intro) <;> first | exact True.intro | omega | (simp; done) | rfl))⟩
    | true =>
    have hx1' : (y.q != q) = false := by simp [bne, hx1]
    cases hx2 : (y.s == s) with
    | false =>
      have hx2' : (y.s != s) = true := by simp [bne, hx2]
      have hn : ansN r l q s (i + 1) = acc := by rw [hnx]; simp [ansStep, hit, hx2]
      repeat (first
        | (apply axJ; (focus ((with_reducible constructor) <;> rfl)))
        | (apply awT mixedOK hΓ (by kernel_rfl); (simp (disch := omega) only [go_sem, ↓reduceIte, dk, eDc, hy, hx1, hx1', hx2, hx2'] <;> with_reducible rfl))
        | ((first | apply awR hΓ | apply awG | apply awH mixedOK hΓ rfl (by kernel_rfl) | apply ovE rfl); (simp (disch := omega) only [go_sem, ↓reduceIte, dk, eDc, hy, hx1, hx1', hx2, hx2'] <;> with_reducible rfl); exact trivial)
        | rfl)
      exact ⟨i + 1, by omega, by omega, Weak.v (by (simp [ConvF, lookV, Conv, ints, hn]; done)) (by (simp (disch := omega) only [TabSub, look, if_pos, if_neg, Obj.refsOK, refsOKs, AV.refsOK, decide_eq_true_eq, Bool.and_true, Bool.and_self, hn] ) <;> ((repeat' apply And.intro) <;> first | exact True.intro | omega | (simp; done) | rfl))⟩
    | true =>
    have hx2' : (y.s != s) = false := by simp [bne, hx2]
    cases hf : (stat r l y == 1) with
    | false =>
      have hf' : (stat r l y != 1) = true := by simp [bne, hf]
      have hn : ansN r l q s (i + 1) = acc := by rw [hnx]; simp [ansStep, hit, hf]
      repeat (first
        | (apply axJ; (focus ((with_reducible constructor) <;> rfl)))
        | (apply awT mixedOK hΓ (by kernel_rfl); (simp (disch := omega) only [go_sem, ↓reduceIte, dk, eDc, hy, hx1, hx1', hx2, hx2', Γ41, e40, hf'] <;> with_reducible rfl))
        | ((first | apply awR hΓ | apply awG | apply awH mixedOK hΓ rfl (by kernel_rfl) | apply ovE rfl); (simp (disch := omega) only [go_sem, ↓reduceIte, dk, eDc, hy, hx1, hx1', hx2, hx2', Γ41, e40, hf'] <;> with_reducible rfl); exact trivial)
        | rfl)
      exact ⟨i + 1, by omega, by omega, Weak.v (by (simp [ConvF, lookV, Conv, ints, hn]; done)) (by (simp (disch := omega) only [TabSub, look, if_pos, if_neg, Obj.refsOK, refsOKs, AV.refsOK, decide_eq_true_eq, Bool.and_true, Bool.and_self, hn] ) <;> ((repeat' apply And.intro) <;> first | exact True.intro | omega | (simp; done) | rfl))⟩
    | true =>
    have hf' : (stat r l y != 1) = false := by simp [bne, hf]
    repeat (first
      | (apply axJ; (focus ((with_reducible constructor) <;> rfl)))
      | (apply awT mixedOK hΓ (by kernel_rfl); (simp (disch := omega) only [go_sem, ↓reduceIte, dk, eDc, hy, hx1, hx1', hx2, hx2', Γ41, e40, hf'] <;> with_reducible rfl))
      | ((first | apply awR hΓ | apply awG | apply awH mixedOK hΓ rfl (by kernel_rfl) | apply ovE rfl); (simp (disch := omega) only [go_sem, ↓reduceIte, dk, eDc, hy, hx1, hx1', hx2, hx2', Γ41, e40, hf'] <;> with_reducible rfl); exact trivial)
      | rfl)
    refine awp_loop_at (X := Nat) (fun j => (frame 67 [(1, .data (.list (l.map eN))), (2, .data (.str q)), (3, .data (.str s)), (4, .ptr 0 0), (9, .row 4 acc.length), (10, .data (i64 i)), (11, .ptr 15 0), (12, .data (.bool ((acc.take j).any (· == y.ans)))), (13, .data (i64 j))]))
      (fun _ => [(0, .box [.data (.list (r.rvs.map eRw)), .data (.list (r.pks.map ePk)), .data (.list (r.dcs.map eDc)), .data (.list (r.dps.map eDp))]), (4, .row 9 1 (acc.map .str)), (15, .box [.data (.str y.id), .data (.str y.author), .data (.str y.q), .data (.str y.s), .data (.str y.ans), .data (.str y.dig), .data (i64 y.til), .data (.bool y.w), .data (.bool y.o), .data (.bool y.rp)])]) 36
      (fun j => j ≤ acc.length) (fun j => acc.length - j) 0 (Nat.zero_le _) (Weak.w) ?_
    intro j hj
    by_cases hj2 : j < acc.length
    · have hnj : ((acc.take (j + 1)).any (· == y.ans)) = ((acc.take j).any (· == y.ans) || (acc[j] == y.ans)) := by
        rw [List.take_add_one, List.getElem?_eq_getElem hj2, List.any_append]
        simp
      generalize hw : acc[j] = w at hnj
      cases hb : (acc.take j).any (· == y.ans) with
      | true =>
        rw [hb] at hnj
        repeat (first
          | (apply axJ; (focus ((with_reducible constructor) <;> rfl)))
          | (apply awT mixedOK hΓ (by kernel_rfl); (simp (disch := omega) only [go_sem, ↓reduceIte, dk, hw] <;> with_reducible rfl))
          | ((first | apply awR hΓ | apply awG | apply awH mixedOK hΓ rfl (by kernel_rfl) | apply ovE rfl); (simp (disch := omega) only [go_sem, ↓reduceIte, dk, hw] <;> with_reducible rfl); exact trivial)
          | rfl)
        exact ⟨j + 1, by omega, by omega, Weak.v (by (simp [ConvF, lookV, Conv, ints, hnj]; done)) (by (simp (disch := omega) only [TabSub, look, if_pos, if_neg, Obj.refsOK, refsOKs, AV.refsOK, decide_eq_true_eq, Bool.and_true, Bool.and_self, hnj] ) <;> ((repeat' apply And.intro) <;> first | exact True.intro | omega | (simp; done) | rfl))⟩
      | false =>
        rw [hb] at hnj
        cases hwa : (w == y.ans) with
        | true =>
          rw [hwa] at hnj
          repeat (first
            | (apply axJ; (focus ((with_reducible constructor) <;> rfl)))
            | (apply awT mixedOK hΓ (by kernel_rfl); (simp (disch := omega) only [go_sem, ↓reduceIte, dk, hw, hwa] <;> with_reducible rfl))
            | ((first | apply awR hΓ | apply awG | apply awH mixedOK hΓ rfl (by kernel_rfl) | apply ovE rfl); (simp (disch := omega) only [go_sem, ↓reduceIte, dk, hw, hwa] <;> with_reducible rfl); exact trivial)
            | rfl)
          exact ⟨j + 1, by omega, by omega, Weak.v (by (simp [ConvF, lookV, Conv, ints, hnj]; done)) (by (simp (disch := omega) only [TabSub, look, if_pos, if_neg, Obj.refsOK, refsOKs, AV.refsOK, decide_eq_true_eq, Bool.and_true, Bool.and_self, hnj] ) <;> ((repeat' apply And.intro) <;> first | exact True.intro | omega | (simp; done) | rfl))⟩
        | false =>
          rw [hwa] at hnj
          repeat (first
            | (apply axJ; (focus ((with_reducible constructor) <;> rfl)))
            | (apply awT mixedOK hΓ (by kernel_rfl); (simp (disch := omega) only [go_sem, ↓reduceIte, dk, hw, hwa] <;> with_reducible rfl))
            | ((first | apply awR hΓ | apply awG | apply awH mixedOK hΓ rfl (by kernel_rfl) | apply ovE rfl); (simp (disch := omega) only [go_sem, ↓reduceIte, dk, hw, hwa] <;> with_reducible rfl); exact trivial)
            | rfl)
          exact ⟨j + 1, by omega, by omega, Weak.v (by (simp [ConvF, lookV, Conv, ints, hnj]; done)) (by (simp (disch := omega) only [TabSub, look, if_pos, if_neg, Obj.refsOK, refsOKs, AV.refsOK, decide_eq_true_eq, Bool.and_true, Bool.and_self, hnj] ) <;> ((repeat' apply And.intro) <;> first | exact True.intro | omega | (simp; done) | rfl))⟩
    have hj3 : j = acc.length := by omega
    subst hj3
    rw [List.take_length]
    cases hb : acc.any (· == y.ans) with
    | true =>
      have hn : ansN r l q s (i + 1) = acc := by rw [hnx]; simp [ansStep, hit, hb]
      repeat (first
        | (apply axJ; (focus ((with_reducible constructor) <;> rfl)))
        | (apply awT mixedOK hΓ (by kernel_rfl); (simp (disch := omega) only [go_sem, ↓reduceIte, dk, hb] <;> with_reducible rfl))
        | ((first | apply awR hΓ | apply awG | apply awH mixedOK hΓ rfl (by kernel_rfl) | apply ovE rfl); (simp (disch := omega) only [go_sem, ↓reduceIte, dk, hb] <;> with_reducible rfl); exact trivial)
        | rfl)
      exact ⟨i + 1, by omega, by omega, Weak.v (by (simp [ConvF, lookV, Conv, ints, hn]; done)) (by (simp (disch := omega) only [TabSub, look, if_pos, if_neg, Obj.refsOK, refsOKs, AV.refsOK, decide_eq_true_eq, Bool.and_true, Bool.and_self, hn] ) <;> ((repeat' apply And.intro) <;> first | exact True.intro | omega | (simp; done) | rfl))⟩
    | false =>
      have hn : ansN r l q s (i + 1) = acc ++ [y.ans] := by rw [hnx]; simp only [ansStep, hit, hx1, hx2, hf, hb]; rfl
      have hm : acc.map D.str ++ [.str y.ans] = (ansN r l q s (i + 1)).map D.str := by rw [hn]; simp
      have hl : (ansN r l q s (i + 1)).length = acc.length + 1 := by rw [hn]; simp
      repeat (first
        | (apply axJ; (focus ((with_reducible constructor) <;> rfl)))
        | (apply awT mixedOK hΓ (by kernel_rfl); (simp (disch := omega) only [go_sem, ↓reduceIte, ↓lk, dk, hb] <;> with_reducible rfl))
        | ((first | apply awR hΓ | apply awG | apply awH mixedOK hΓ rfl (by kernel_rfl) | apply ovE rfl); (simp (disch := omega) only [go_sem, ↓reduceIte, ↓lk, dk, hb] <;> with_reducible rfl); exact trivial)
        | rfl)
      exact ⟨i + 1, by omega, by omega, Weak.v (by (simp [ConvF, lookV, Conv, ints, hl, hm]; done)) (by (simp (disch := omega) only [TabSub, look, if_pos, if_neg, Obj.refsOK, refsOKs, AV.refsOK, decide_eq_true_eq, Bool.and_true, Bool.and_self, hl, hm] ) <;> ((repeat' apply And.intro) <;> first | exact True.intro | omega | (simp; done) | rfl))⟩
  have hi3 : i = r.dcs.length := by omega
  subst hi3
  repeat (first
    | (apply axJ; (focus ((with_reducible constructor) <;> rfl)))
    | (apply awT mixedOK hΓ (by kernel_rfl); (simp (disch := omega) only [go_sem, ↓reduceIte, dk] <;> with_reducible rfl))
    | ((first | apply awR hΓ | apply awG | apply awH mixedOK hΓ rfl (by kernel_rfl) | apply ovE rfl); (simp (disch := omega) only [go_sem, ↓reduceIte, dk] <;> with_reducible rfl); exact trivial)
    | rfl)
end Go.Ab
namespace Go.Ab
open Go Go.RowKit Go.Proofs
set_option maxRecDepth 4000
set_option maxHeartbeats 4000000
def open1 (r : Rev) (l : List Now) (x : Now) : Bool := (ansN r l x.q x.s r.dcs.length).isEmpty
def dues (r : Rev) (l : List Now) (m : List Now) : List Now := m.filter (open1 r l)
theorem dues_succ {r : Rev} {l m : List Now} {i : Nat} (h : i < m.length) : dues r l (m.take (i + 1)) = dues r l (m.take i) ++ (if open1 r l m[i] then [m[i]] else []) := by
  unfold dues
  rw [List.take_add_one, List.getElem?_eq_getElem h, List.filter_append]
  congr 1
  simp only [Option.toList_some, List.filter_cons, List.filter_nil]
theorem dues_len (r : Rev) (l m : List Now) : (dues r l m).length ≤ m.length := List.length_filter_le _ _
def duR (r : Rev) (l : List Now) : D := if vld l = 0 then .tup [.list ((dues r l l).map eN), i64 0] else .tup [.list [], i64 1]
noncomputable def g19 : List D → Option D := encSpec (fun x : Rev × List Now => [eR x.1, .list (x.2.map eN)]) (fun x => SzA x.1 x.2) (fun x => duR x.1 x.2)
theorem g19_eq {r : Rev} {l : List Now} (h : SzA r l) : g19 [.agg [.list (r.rvs.map eRw), .list (r.pks.map ePk), .list (r.dcs.map eDc), .list (r.dps.map eDp)], .list (l.map eN)] = some (duR r l) := encSpec_eq (x := (r, l)) h fun y hy => by
  obtain ⟨y1, y2⟩ := y
  simp only [List.cons.injEq, and_true, D.list.injEq] at hy
  rw [eR_inj _ _ hy.1, map_inj eN_inj hy.2]
end Go.Ab
namespace Go.Ab
open Go Go.RowKit Go.Proofs
set_option maxRecDepth 4000
set_option maxHeartbeats 4000000
abbrev Qs := List UInt8 × List UInt8
def eQ (k : Qs) : D := .agg [.str k.1, .str k.2]
def qK (ks : List Qs) : List D := ks.map eQ
def qV (ks : List Qs) : List D := ks.map fun _ => .bool true
theorem und77 : Program.underlying Try.prog 77 = some (.struct #[⟨"text", 9, 0, false, "", "licit/upgrade", 0⟩, ⟨"scope", 9, 1, false, "", "licit/upgrade", 16⟩]) := by kernel_rfl
theorem same77 (a b : Qs) : keySame Try.prog 77 (.agg [.str a.1, .str a.2]) (.agg [.str b.1, .str b.2]) = some (a == b) := by
  have hg : (Try.prog.stoodInHeld 77 || Try.prog.eqGuardType Try.prog.depth 77) = false := by kernel_rfl
  have e : (a == b) = ((a.1 == b.1) && ((a.2 == b.2) && true)) := by
    obtain ⟨a1, a2⟩ := a; obtain ⟨b1, b2⟩ := b
    rw [Bool.and_true]; rfl
  simp only [keySame]
  unfold eqAgg
  rw [und77]
  simp only [hg, Bool.false_eq_true, if_false, e]
  simp [eqFlds, keyKind, keyEq, ty_und9, ty_agg9, aggEq]
@[go_sem] theorem keyOK_q (a b : List UInt8) : keyOK Try.prog 77 (.agg [.str a, .str b]) = true := by
  simp only [keyOK, und77]
  simp [keyFlds, keyKind, ty_und9, ty_agg9]
@[go_sem] theorem qK_ok (ks : List Qs) : (qK ks).all (keyOK Try.prog 77) = true := by
  rw [List.all_eq_true]
  intro d hd
  obtain ⟨s, _, rfl⟩ := List.mem_map.1 hd
  exact keyOK_q _ _
theorem mfind_q (id : Qs) : ∀ (ks : List Qs) (n : Nat), mfind Try.prog 77 (.agg [.str id.1, .str id.2]) (qK ks) n = some ((ks.findIdx? (id == ·)).map (· + n))
  | [], n => rfl
  | x :: ks, n => by
    simp only [qK, eQ, List.map_cons, mfind, same77, List.findIdx?_cons]
    cases h : (id == x) with
    | true => simp
    | false =>
      have := mfind_q id ks (n + 1)
      simp only [qK] at this
      simp only [this]
      cases ks.findIdx? (id == ·) <;> simp <;> omega
theorem containsQ_find (id : Qs) (ks : List Qs) : ks.contains id = (ks.findIdx? (id == ·)).isSome := by
  induction ks with
  | nil => rfl
  | cons x ks ih =>
    rw [List.contains_cons, ih, List.findIdx?_cons]
    cases (id == x) <;> simp
theorem mget_q (a b : List UInt8) (ks : List Qs) : mget Try.prog 77 (qK ks) (qV ks) (.agg [.str a, .str b]) = some (if ks.contains (a, b) then some (.bool true) else none) := by
  unfold mget
  rw [mfind_q (a, b), containsQ_find]
  cases h : ks.findIdx? ((a, b) == ·) with
  | none => simp
  | some i =>
    have hi := (List.findIdx?_eq_some_iff_getElem.1 h).1
    simp [qV, hi]
def qadd (ks : List Qs) (id : Qs) : List Qs := if ks.contains id then ks else ks ++ [id]
theorem mput_q (a b : List UInt8) (ks : List Qs) : mput Try.prog 77 (qK ks) (qV ks) (.agg [.str a, .str b]) (.bool true) = some (qK (qadd ks (a, b)), qV (qadd ks (a, b))) := by
  unfold mput qadd
  rw [mfind_q (a, b), containsQ_find]
  cases h : ks.findIdx? ((a, b) == ·) with
  | none => simp [qK, qV, eQ]
  | some i =>
    obtain ⟨hi, h2, _⟩ := List.findIdx?_eq_some_iff_getElem.1 h
    have h2 : (a, b) = ks[i] := by simpa using h2
    simp only [Option.map_some, Nat.add_zero, Option.isSome_some, if_true, Option.some.injEq, Prod.mk.injEq]
    constructor
    · simp only [qK]
      have h3 : D.agg [.str a, .str b] = eQ ks[i] := by rw [← h2]; rfl
      rw [h3]
      apply List.ext_getElem (by simp)
      intro j h3 h4
      rw [List.getElem_set]
      split
      · rename_i he; subst he; simp
      · rfl
    · simp only [qV]
      apply List.ext_getElem (by simp)
      intro j h3 h4
      rw [List.getElem_set]
      split <;> simp
theorem qadd_has (ks : List Qs) (a id : Qs) : (qadd ks a).contains id = ((a == id) || ks.contains id) := by
  unfold qadd
  by_cases h : ks.contains a = true
  · rw [if_pos h]
    by_cases he : a = id
    · subst he; simp only [h, beq_self_eq_true, Bool.true_or]
    · simp [he]
  · rw [if_neg h]
    rw [Bool.eq_iff_iff]
    simp only [List.contains_iff_mem, List.mem_append, List.mem_singleton, Bool.or_eq_true, beq_iff_eq]
    constructor
    · rintro (h | h)
      · exact .inr h
      · exact .inl h.symm
    · rintro (h | h)
      · exact .inr h.symm
      · exact .inl h
def anStep (r : Rev) (l : List Now) (ks : List Qs) (d : Dc) : List Qs := if stat r l d == 1 then qadd ks (d.q, d.s) else ks
def anK (r : Rev) (l : List Now) (i : Nat) : List Qs := (r.dcs.take i).foldl (anStep r l) []
theorem anK_succ {r : Rev} {l : List Now} {i : Nat} (h : i < r.dcs.length) : anK r l (i + 1) = anStep r l (anK r l i) r.dcs[i] := by
  unfold anK
  rw [List.take_add_one, List.getElem?_eq_getElem h, List.foldl_append]
  rfl
theorem anfold_has (r : Rev) (l : List Now) (q s : List UInt8) : ∀ (ds : List Dc) (ks : List Qs), (ds.foldl (anStep r l) ks).contains (q, s) = ((ds.any (hit r l q s)) || ks.contains (q, s))
  | [], ks => by simp
  | d :: ds, ks => by
    rw [List.foldl_cons, anfold_has r l q s ds, List.any_cons]
    unfold anStep hit
    have e : ((d.q, d.s) == (q, s)) = ((d.q == q) && (d.s == s)) := rfl
    cases h : (stat r l d == 1) with
    | true =>
      simp only [if_true, qadd_has, e]
      cases (d.q == q) <;> cases (d.s == s) <;> simp
    | false => simp
theorem ansfold_empty (r : Rev) (l : List Now) (q s : List UInt8) : ∀ (ds : List Dc) (acc : List (List UInt8)), (ds.foldl (ansStep r l q s) acc).isEmpty = (acc.isEmpty && !(ds.any (hit r l q s)))
  | [], acc => by simp
  | d :: ds, acc => by
    rw [List.foldl_cons, ansfold_empty r l q s ds, List.any_cons]
    unfold ansStep
    cases h : hit r l q s d with
    | true =>
      simp only [if_true, Bool.true_or, Bool.not_true, Bool.and_false]
      split
      · rename_i ha
        cases acc with
        | nil => simp at ha
        | cons a acc => simp
      · simp
    | false => simp
theorem open1_eq (r : Rev) (l : List Now) (x : Now) : open1 r l x = !((anK r l r.dcs.length).contains (x.q, x.s)) := by
  unfold open1 ansN anK
  rw [List.take_length, ansfold_empty, anfold_has]
  simp
noncomputable def Γ18 : FuncId → Option CSpec := fun f => if f = 22 then some (.pure true (g22)) else if f = 39 then some (.pure false (g39)) else none
theorem Γ18_ok : ∀ f s, Γ18 f = some s → SpecOK Try.prog f s := by
  intro f s h
  unfold Γ18 at h
  split at h
  · rename_i hf; cases h; subst hf; exact f22_ok
  split at h
  · rename_i hf; cases h; subst hf; exact f39_ok
  · cases h
theorem f18_ok : PureOK Try.prog 18 false g19 := by
  have hΓ := Γ18_ok
  refine pure_enc (n := 65) (rs := [.tmp 4, .tmp 5]) Try.func18 (by kernel_rfl) rfl (by kernel_rfl) (by kernel_rfl) ?_
  rintro ⟨r, l⟩ hz
  dsimp only at hz ⊢
  have hll := hz.v.l
  have hdl := hz.v.r.dcs
  refine ⟨fun h => (by cases h), fun k hz0 => ?_⟩
  have e22 := g22_eq hz.v.l
  have e39 := g39_eq hz
  have h10 : ((1 : Int) != 0) = true := rfl
  have h00 : ((0 : Int) != 0) = false := rfl
  rw [start_frame (by simp)]; simp only [enumV, go_sem, emptyH]
  rcases vld_01 l with h | h
  case inr =>
    have hs : duR r l = .tup [.list [], i64 1] := by simp [duR, h]
    rw [h] at e22
    repeat (first
      | (apply axJ; (focus ((with_reducible constructor) <;> rfl)))
      | (apply awT mixedOK hΓ (by kernel_rfl); (simp (disch := omega) only [go_sem, ↓reduceIte, dk, Γ18, e22, h10] <;> with_reducible rfl))
      | ((first | apply awR hΓ | apply awG | apply awH mixedOK hΓ rfl (by kernel_rfl) | apply ovE rfl); (simp (disch := omega) only [go_sem, ↓reduceIte, dk, Γ18, e22, h10] <;> with_reducible rfl); exact trivial)
      | rfl)
    rw [hs]
  have hs : duR r l = .tup [.list ((dues r l l).map eN), i64 0] := by simp [duR, h]
  rw [h] at e22
  have hsl := stds_len r l
  repeat (first
    | (apply axJ; (focus ((with_reducible constructor) <;> rfl)))
    | (apply awT mixedOK hΓ (by kernel_rfl); (simp (disch := omega) only [go_sem, ↓reduceIte, ↓lk, ↓ty_build72, dk, Γ18, e22, e39, h00, hsl] <;> with_reducible rfl))
    | ((first | apply awR hΓ | apply awG | apply awH mixedOK hΓ rfl (by kernel_rfl) | apply ovE rfl); (simp (disch := omega) only [go_sem, ↓reduceIte, ↓lk, ↓ty_build72, dk, Γ18, e22, e39, h00, hsl] <;> with_reducible rfl); exact trivial)
    | rfl)
  refine awp_loop_at (X := Nat) (fun i => (frame 65 [(1, .data (.list (l.map eN))), (2, .ptr 0 0), (7, .mref 8), (23, .data (.list ((stds r l).map eS))), (24, .data (i64 r.dcs.length)), (25, .data (i64 i))]))
    (fun i => [(0, .box [.data (.list (r.rvs.map eRw)), .data (.list (r.pks.map ePk)), .data (.list (r.dcs.map eDc)), .data (.list (r.dps.map eDp))]), (8, .map (qK (anK r l i)) (qV (anK r l i)))]) 16
    (fun i => i ≤ r.dcs.length) (fun i => r.dcs.length - i) 0 (Nat.zero_le _) (Weak.v (by (simp [ConvF, lookV, Conv, ints, anK, qK, qV]; done)) (by (simp (disch := omega) only [TabSub, look, if_pos, if_neg, Obj.refsOK, refsOKs, AV.refsOK, decide_eq_true_eq, Bool.and_true, Bool.and_self, anK, qK, qV] ) <;> ((repeat' apply And.intro) <;> first | exact True.intro | omega | (simp; done) | rfl))) ?_
  · intro i hi
    by_cases hi2 : i < r.dcs.length
    · have hnx := anK_succ (l := l) hi2
      have hst : (stds r l)[i]'(by omega) = ⟨(r.dcs[i]).id, stat r l r.dcs[i]⟩ := by simp [stds]
      generalize hy : r.dcs[i] = y at hnx hst
      have hput := mput_q y.q y.s (anK r l i)
      cases hf : (stat r l y == 1) with
      | true =>
        simp only [anStep, hf, if_true] at hnx
        repeat (first
          | (apply axJ; (focus ((with_reducible constructor) <;> rfl)))
          | (apply awT mixedOK hΓ (by kernel_rfl); (simp (disch := omega) only [go_sem, ↓reduceIte, ↓lk, dk, eDc, eS, hy, hst, hsl, hf, ↓ty_build77, ↓keyOK_q, ↓hput] <;> with_reducible rfl))
          | ((first | apply awR hΓ | apply awG | apply awH mixedOK hΓ rfl (by kernel_rfl) | apply ovE rfl); (simp (disch := omega) only [go_sem, ↓reduceIte, ↓lk, dk, eDc, eS, hy, hst, hsl, hf, ↓ty_build77, ↓keyOK_q, ↓hput] <;> with_reducible rfl); exact trivial)
          | rfl)
        exact ⟨i + 1, by omega, by omega, Weak.v (by (simp [ConvF, lookV, Conv, ints, hnx]; done)) (by (simp (disch := omega) only [TabSub, look, if_pos, if_neg, Obj.refsOK, refsOKs, AV.refsOK, decide_eq_true_eq, Bool.and_true, Bool.and_self, hnx] ) <;> ((repeat' apply And.intro) <;> first | exact True.intro | omega | (simp; done) | rfl))⟩
      | false =>
        simp only [anStep, hf, Bool.false_eq_true, if_false] at hnx
        repeat (first
          | (apply axJ; (focus ((with_reducible constructor) <;> rfl)))
          | (apply awT mixedOK hΓ (by kernel_rfl); (simp (disch := omega) only [go_sem, ↓reduceIte, dk, eDc, eS, hy, hst, hsl, hf] <;> with_reducible rfl))
          | ((first | apply awR hΓ | apply awG | apply awH mixedOK hΓ rfl (by kernel_rfl) | apply ovE rfl); (simp (disch := omega) only [go_sem, ↓reduceIte, dk, eDc, eS, hy, hst, hsl, hf] <;> with_reducible rfl); exact trivial)
          | rfl)
        exact ⟨i + 1, by omega, by omega, Weak.v (by (simp [ConvF, lookV, Conv, ints, hnx]; done)) (by (simp (disch := omega) only [TabSub, look, if_pos, if_neg, Obj.refsOK, refsOKs, AV.refsOK, decide_eq_true_eq, Bool.and_true, Bool.and_self, hnx] ) <;> ((repeat' apply And.intro) <;> first | exact True.intro | omega | (simp; done) | rfl))⟩
    have hi3 : i = r.dcs.length := by omega
    subst hi3
    have hop := open1_eq r l
    generalize hks : anK r l r.dcs.length = ks at hop
    repeat (first
      | (apply axJ; (focus ((with_reducible constructor) <;> rfl)))
      | (apply awT mixedOK hΓ (by kernel_rfl); (simp (disch := omega) only [go_sem, ↓reduceIte, dk] <;> with_reducible rfl))
      | ((first | apply awR hΓ | apply awG | apply awH mixedOK hΓ rfl (by kernel_rfl) | apply ovE rfl); (simp (disch := omega) only [go_sem, ↓reduceIte, dk] <;> with_reducible rfl); exact trivial)
      | rfl)
    refine awp_loop_at (X := Nat) (fun i => (frame 65 [(2, .ptr 0 0), (7, .mref 8), (11, .row 21 (dues r l (l.take i)).length), (45, .data (.list (l.map eN))), (46, .data (i64 l.length)), (47, .data (i64 i))]))
      (fun i => [(0, .box [.data (.list (r.rvs.map eRw)), .data (.list (r.pks.map ePk)), .data (.list (r.dcs.map eDc)), .data (.list (r.dps.map eDp))]), (8, .map (qK ks) (qV ks)), (21, .row 39 3 ((dues r l (l.take i)).map eN))]) 22
      (fun i => i ≤ l.length) (fun i => l.length - i) 0 (Nat.zero_le _) ((Weak.nilrowF (i := 11) 39 (sz := 3) (by omega) (by omega) rfl).trans (Weak.v (by (simp [ConvF, lookV, Conv, ints, dues]; done)) (by (simp (disch := omega) only [TabSub, look, if_pos, if_neg, Obj.refsOK, refsOKs, AV.refsOK, decide_eq_true_eq, Bool.and_true, Bool.and_self, dues] ) <;> ((repeat' apply And.intro) <;> first | exact True.intro | omega | (simp; done) | rfl)))) ?_
    clear hi hi2
    intro i hi
    have htl : (dues r l (l.take i)).length ≤ i := Nat.le_trans (dues_len _ _ _) (by rw [List.length_take]; omega)
    by_cases hi2 : i < l.length
    · have hnx := dues_succ (r := r) (l := l) hi2
      generalize hacc : dues r l (l.take i) = acc at hnx htl
      generalize hnn : dues r l (l.take (i + 1)) = nn at hnx
      generalize hy : l[i] = y at hnx
      have hget := mget_q y.q y.s ks
      rw [hop] at hnx
      cases hc : ks.contains (y.q, y.s) with
      | true =>
        have hn : nn = acc := by rw [hnx, hc]; simp
        simp only [hc, if_true] at hget
        repeat (first
          | (apply axJ; (focus ((with_reducible constructor) <;> rfl)))
          | (apply awT mixedOK hΓ (by kernel_rfl); (simp (disch := omega) only [go_sem, ↓reduceIte, ↓lk, dk, eN, hy, ↓ty_build77, ↓keyOK_q, ↓hget] <;> with_reducible rfl))
          | ((first | apply awR hΓ | apply awG | apply awH mixedOK hΓ rfl (by kernel_rfl) | apply ovE rfl); (simp (disch := omega) only [go_sem, ↓reduceIte, ↓lk, dk, eN, hy, ↓ty_build77, ↓keyOK_q, ↓hget] <;> with_reducible rfl); exact trivial)
          | rfl)
        exact ⟨i + 1, by omega, by omega, Weak.v (by (simp [ConvF, lookV, Conv, ints, hnn, hn]; done)) (by (simp (disch := omega) only [TabSub, look, if_pos, if_neg, Obj.refsOK, refsOKs, AV.refsOK, decide_eq_true_eq, Bool.and_true, Bool.and_self, hnn, hn] ) <;> ((repeat' apply And.intro) <;> first | exact True.intro | omega | (simp; done) | rfl))⟩
      | false =>
        have hn : nn = acc ++ [y] := by rw [hnx, hc]; simp
        have hm : acc.map eN ++ [.agg [.str y.q, .str y.s, .str y.d]] = nn.map eN := by rw [hn]; simp [eN]
        have hl : nn.length = acc.length + 1 := by rw [hn]; simp
        simp only [hc, Bool.false_eq_true, if_false] at hget
        repeat (first
          | (apply axJ; (focus ((with_reducible constructor) <;> rfl)))
          | (apply awT mixedOK hΓ (by kernel_rfl); (simp (disch := omega) only [go_sem, ↓reduceIte, ↓lk, dk, eN, hy, ↓ty_build77, ↓keyOK_q, ↓hget] <;> with_reducible rfl))
          | ((first | apply awR hΓ | apply awG | apply awH mixedOK hΓ rfl (by kernel_rfl) | apply ovE rfl); (simp (disch := omega) only [go_sem, ↓reduceIte, ↓lk, dk, eN, hy, ↓ty_build77, ↓keyOK_q, ↓hget] <;> with_reducible rfl); exact trivial)
          | rfl)
        exact ⟨i + 1, by omega, by omega, Weak.v (by (simp [ConvF, lookV, Conv, ints, hnn, hl, hm]; done)) (by (simp (disch := omega) only [TabSub, look, if_pos, if_neg, Obj.refsOK, refsOKs, AV.refsOK, decide_eq_true_eq, Bool.and_true, Bool.and_self, hnn, hl, hm] ) <;> ((repeat' apply And.intro) <;> first | exact True.intro | omega | (simp; done) | rfl))⟩
    have hi3 : i = l.length := by omega
    subst hi3
    rw [List.take_length] at htl ⊢
    repeat (first
      | (apply axJ; (focus ((with_reducible constructor) <;> rfl)))
      | (apply awT mixedOK hΓ (by kernel_rfl); (simp (disch := omega) only [go_sem, ↓reduceIte, dk] <;> with_reducible rfl))
      | ((first | apply awR hΓ | apply awG | apply awH mixedOK hΓ rfl (by kernel_rfl) | apply ovE rfl); (simp (disch := omega) only [go_sem, ↓reduceIte, dk] <;> with_reducible rfl); exact trivial)
      | rfl)
    rw [hs]
end Go.Ab
namespace Go.Ab
open Go Go.RowKit Go.Proofs
set_option maxRecDepth 100000
set_option maxHeartbeats 4000000
theorem eq_nil31 (ao : Option Addr) (n cap : Nat) (w : World) : (binOp BinOp.eql 31 (.slice ao n cap) (.slice none 0 0)).run Try.prog w = .ok (.bool ao.isNone) w := by
  have heq : ∀ k, (Op.equalIn (k + 1) 31 (.slice ao n cap) (.slice none 0 0)).run Try.prog w = .ok ao.isNone w := fun k => by
    simp only [Op.equalIn, Sem.run_bind, run_underlying ty_und31, Result.andThen_ok, Sem.run_pure]
    cases ao <;> simp
  have h2 : (Op.equal 31 (.slice ao n cap) (.slice none 0 0)).run Try.prog w = .ok ao.isNone w := heq 9999
  simp only [binOp, Sem.run_bind, h2, Result.andThen_ok, Sem.run_pure]
theorem call16 (ao : Option Addr) (cap : Nat) (w : World) :
    Calls Try.prog 16 #[.slice ao 0 cap] w fun e w' => ∃ a c, e = .returned (.slice a 0 c) ∧ Below w.heap.size w w' := by
  cases ao with
  | none =>
    go_enter Try.func16, Try.ntmps16
    go_wp2
    rw [eq_nil31]
    simp only [Result.andThen]
    rw [Oper.upon_value]
    go_wp2
    go_ret
    exact ⟨none, 0, rfl, Below.refl _ _⟩
  | some a =>
    go_enter Try.func16, Try.ntmps16
    go_wp2
    rw [eq_nil31]
    simp only [Result.andThen]
    rw [Oper.upon_value]
    go_wp2
    go_ret
    exact ⟨_, _, rfl, (Below.refl _ _).alloc (Nat.le_refl _) _⟩
noncomputable def g16n : List D → Option D := encSpec (fun l : List Now => [.list (l.map eN)]) (fun l => l.length ≤ 1099511627776 ∧ l ≠ []) (fun l => .list (l.map eN))
theorem f16n_ok : PureOK Try.prog 16 false g16n := by
  have hΓ := Γ0_ok
  refine pure_enc (n := 8) (rs := [.tmp 2]) Try.func16 (by kernel_rfl) rfl (by kernel_rfl) (by kernel_rfl) ?_
  rintro l ⟨hl, hne⟩
  refine ⟨fun h => (by cases h), fun k hz0 => ?_⟩
  obtain ⟨x, l, rfl⟩ := List.exists_cons_of_ne_nil hne
  rw [start_frame (by simp)]; simp only [enumV, go_sem, emptyH]
  have hem : elemsOK 3 (l.map eN) = true := elemsOK_map (f := eN) (sz := 3) (fun x => ⟨by simp [eN, D.cells], by simp [eN, D.cells, D.one]⟩) l
  generalize hm : l.map eN = m at hem
  have hml : m.length + 1 ≤ 1099511627776 := by subst hm; simpa using hl
  repeat (first
    | (apply axJ; (focus ((with_reducible constructor) <;> rfl)))
    | (apply awT mixedOK hΓ (by kernel_rfl); (simp (disch := omega) only [go_sem, ↓reduceIte, ↓lk, dk, hem] <;> with_reducible rfl))
    | ((first | apply awR hΓ | apply awG | apply awH mixedOK hΓ rfl (by kernel_rfl) | apply ovE rfl); (simp (disch := omega) only [go_sem, ↓reduceIte, ↓lk, dk, hem] <;> with_reducible rfl); exact trivial)
    | rfl)
noncomputable def g16 : List D → Option D := encSpec (fun l : List Now => [.list (l.map eN)]) (fun l => l.length ≤ 1099511627776) (fun l => .list (l.map eN))
theorem g16_eq {l : List Now} (h : l.length ≤ 1099511627776) : g16 [.list (l.map eN)] = some (.list (l.map eN)) := encSpec_eq (x := l) h fun y hy => by
  simp only [List.cons.injEq, and_true] at hy
  rw [hy]
theorem f16_ok : PureOK Try.prog 16 false g16 := by
  intro ds d hd
  obtain ⟨l, rfl, hl, rfl⟩ := encSpec_some hd
  cases l with
  | cons x l =>
    exact f16n_ok _ _ (encSpec_eq (x := x :: l) ⟨hl, by simp⟩ fun y hy => by
      simp only [List.cons.injEq, and_true] at hy
      rw [hy])
  | nil =>
    refine ⟨fun h => (by cases h), fun w B vs hB hz hvs => ⟨⟨_, Try.func16, rfl, rfl⟩, ?_⟩⟩
    obtain ⟨u, hu⟩ : ∃ u, vs[0]? = some u := ⟨_, Array.getElem?_eq_getElem (by simp at hz; omega)⟩
    obtain ⟨ao, cap, hv, _⟩ := (hvs 0 (by simp) u hu).list_inv
    have hvs2 : vs = #[.slice ao 0 cap] := by
      apply Array.ext_getElem?
      intro i
      match i with
      | 0 => rw [hu, hv]; rfl
      | i + 1 => rw [Array.getElem?_eq_none (by simp at hz; omega), Array.getElem?_eq_none (by simp)]
    rw [hvs2]
    refine (call16 ao cap w).mono ?_
    rintro e w' ⟨a, c, rfl, hb⟩
    exact ⟨_, rfl, .empty a c, hb⟩
noncomputable def g4 : List D → Option D := encSpec (fun x : Rev × List Now => [eR x.1, .list (x.2.map eN)]) (fun x => SzA x.1 x.2) (fun x => .bool true)
end Go.Ab
