/-
  One text of the proof (own work): contracts of functions of the program, by the abstract machine.
-/
import Derived.Test.YtmcgfohokniepaaX25
import Derived.Test.YtmcgfohokniepaaX27
set_option linter.unusedVariables false
set_option linter.unusedSimpArgs false
namespace Go.Ab
open Go Go.RowKit Go.Proofs
set_option maxRecDepth 4000
set_option maxHeartbeats 4000000
def dig (n : Int) : UInt8 := UInt8.ofNat (IntKind.wrap .u8 (48 + n)).toNat
def decF : Nat → Int → List UInt8
  | 0, _ => []
  | k + 1, n => if n < 10 then [dig n] else decF k (n.tdiv 10) ++ [dig (n.tmod 10)]
theorem decF_len : ∀ (k : Nat) (n : Int), (decF k n).length ≤ k
  | 0, _ => by simp [decF]
  | k + 1, n => by
    unfold decF
    split
    · simp
    · have := decF_len k (n.tdiv 10)
      simp
      omega
noncomputable def g80 (k : Nat) : List D → Option D := encSpec (fun n : Int => [i64 n]) (fun n => 0 ≤ n ∧ n < 10 ^ k ∧ 1 ≤ k ∧ k ≤ 18) (fun n => .str (decF k n))
theorem g80_eq {k : Nat} {n : Int} (h0 : 0 ≤ n) (h1 : n < 10 ^ k) (hk : 1 ≤ k) (h2 : k ≤ 18) : g80 k [.int .i64 n] = some (.str (decF k n)) := encSpec_eq (x := n) ⟨h0, h1, hk, h2⟩ fun y hy => by
  simp only [List.cons.injEq, and_true, D.int.injEq, true_and] at hy
  rw [hy]
noncomputable def Γ80 (k : Nat) : FuncId → Option CSpec := fun f => if f = 80 then some (.pure true (g80 k)) else none
theorem f80_ok : ∀ k : Nat, PureOK Try.prog 80 true (g80 k)
  | 0 => by
    intro ds d hd
    obtain ⟨n, _, ⟨_, _, h0, _⟩, _⟩ := encSpec_some hd
    omega
  | k + 1 => by
    have ih := f80_ok k
    have hΓ : ∀ f s, Γ80 k f = some s → SpecOK Try.prog f s := by
      intro f s h
      unfold Γ80 at h
      split at h
      · rename_i hf; cases h; subst hf; exact ih
      · cases h
    refine pure_enc (n := 20) (rs := [.tmp 2]) Try.func80 (by kernel_rfl) rfl (by kernel_rfl) (by kernel_rfl) ?_
    rintro n ⟨h0, h1, _, h2⟩
    refine ⟨fun _ => .str _, fun c hz0 => ?_⟩
    have hp : (10 : Int) ^ (k + 1) = 10 * 10 ^ k := by rw [Int.pow_succ, Int.mul_comm]
    rw [hp] at h1
    have hb : (10 : Int) ^ (k + 1) ≤ 10 ^ 18 := by
      have := Nat.pow_le_pow_right (n := 10) (by omega) h2
      exact_mod_cast this
    rw [hp] at hb
    have hlen := decF_len k (n.tdiv 10)
    have hk : k ≤ 18 := by omega
    rw [start_frame (by simp)]; simp only [enumV, go_sem, emptyH]
    by_cases h : n < 10
    · have hd : decF (k + 1) n = [dig n] := by unfold decF; rw [if_pos h]
      rw [hd]
      repeat (first
        | (apply axJ; (focus ((with_reducible constructor) <;> rfl)))
        | (apply awT mixedOK hΓ (by kernel_rfl); (simp (disch := omega) only [go_sem, ↓reduceIte, ↓lk, dk, bytesOf, dig] <;> with_reducible rfl))
        | ((first | apply awR hΓ | apply awG | apply awH mixedOK hΓ rfl (by kernel_rfl) | apply ovE rfl); (simp (disch := omega) only [go_sem, ↓reduceIte, ↓lk, dk, bytesOf, dig] <;> with_reducible rfl); exact trivial)
        | rfl)
    · have hd : decF (k + 1) n = decF k (n.tdiv 10) ++ [dig (n.tmod 10)] := by rw [decF, if_neg h]
      rw [hd]
      have e1 : n.tdiv 10 = n / 10 := Int.tdiv_eq_ediv_of_nonneg h0
      have e2 : n.tmod 10 = n % 10 := Int.tmod_eq_emod_of_nonneg h0
      have ht0 : 0 ≤ n.tdiv 10 := by omega
      have ht1 : n.tdiv 10 < 10 ^ k := by omega
      have hk1 : 1 ≤ k := by
        cases k with
        | zero => simp at h1; omega
        | succ k => omega
      have e80 := g80_eq ht0 ht1 hk1 hk
      have hm : -1 < n.tmod 10 ∧ n.tmod 10 < 10 := by omega
      have hm2 : -1 < n.tdiv 10 ∧ n.tdiv 10 ≤ n := by omega
      generalize hq : n.tdiv 10 = q at *
      generalize hr : n.tmod 10 = r at *
      have hn : n < 1000000000000000000 := Int.lt_of_lt_of_le h1 hb
      clear h1 hb hp ht1
      repeat (first
        | (apply axJ; (focus ((with_reducible constructor) <;> rfl)))
        | (apply awT mixedOK hΓ (by kernel_rfl); (simp (disch := (first | omega | (simp only [maxLen, List.length_append, List.length_cons, List.length_nil]; omega))) only [go_sem, ↓reduceIte, ↓if_pos, ↓if_neg, ↓lk, decide_eq_true, decide_eq_false, if_pos, if_neg, wrap_in, bytesOf, dig, hq, hr, Γ80, e80] <;> with_reducible rfl))
        | ((first | apply awR hΓ | apply awG | apply awH mixedOK hΓ rfl (by kernel_rfl) | apply ovE rfl); (simp (disch := (first | omega | (simp only [maxLen, List.length_append, List.length_cons, List.length_nil]; omega))) only [go_sem, ↓reduceIte, ↓if_pos, ↓if_neg, ↓lk, decide_eq_true, decide_eq_false, if_pos, if_neg, wrap_in, bytesOf, dig, hq, hr, Γ80, e80] <;> with_reducible rfl); exact trivial)
        | rfl)
theorem flat_se (s : List UInt8) (n : Int) : (D.tup [.str s, i64 n]).Flat := .tup _ (by simp; exact ⟨.str _, .int _ _⟩)
def dec (n : Int) : List UInt8 := decF 18 n
theorem dec_len (n : Int) : (dec n).length ≤ 18 := decF_len 18 n
theorem g80_dec {n : Int} (h0 : 0 ≤ n) (h1 : n < 1000000000000000000) : g80 18 [.int .i64 n] = some (.str (dec n)) := g80_eq h0 h1 (by omega) (Nat.le_refl _)
theorem g80_len {n : Nat} (h1 : n ≤ 1099511627776) : g80 18 [.int .i64 (n : Int)] = some (.str (dec n)) := g80_dec (by omega) (by omega)
def numB (n : Int) : List UInt8 := if n < 0 ∨ n > 281474976710656 then [] else dec n ++ [59]
def numE (n : Int) : Int := if n < 0 ∨ n > 281474976710656 then 3 else 0
theorem numB_len (n : Int) : (numB n).length ≤ 19 := by
  have := dec_len n
  unfold numB
  split <;> simp <;> omega
noncomputable def g75 : List D → Option D := encSpec (fun n : Int => [i64 n]) (fun _ => True) (fun n => .tup [.str (numB n), i64 (numE n)])
theorem g75_eq (n : Int) : g75 [.int .i64 n] = some (.tup [.str (numB n), i64 (numE n)]) := encSpec_eq (x := n) trivial fun y hy => by
  simp only [List.cons.injEq, and_true, D.int.injEq, true_and] at hy
  rw [hy]
noncomputable def Γ75 : FuncId → Option CSpec := fun f => if f = 80 then some (.pure true (g80 18)) else none
theorem Γ75_ok : ∀ f s, Γ75 f = some s → SpecOK Try.prog f s := by
  intro f s h
  unfold Γ75 at h
  split at h
  · rename_i hf; cases h; subst hf; exact (f80_ok 18)
  · cases h
theorem f75_ok : PureOK Try.prog 75 true g75 := by
  have hΓ := Γ75_ok
  refine pure_enc (n := 13) (rs := [.tmp 2, .tmp 3]) Try.func75 (by kernel_rfl) rfl (by kernel_rfl) (by kernel_rfl) ?_
  intro n _
  refine ⟨fun _ => flat_se _ _, fun c hz0 => ?_⟩
  unfold numB numE
  rw [start_frame (by simp)]; simp only [enumV, go_sem, emptyH]
  by_cases h1 : n < 0
  · rw [if_pos (.inl h1), if_pos (.inl h1)]
    repeat (first
      | (apply axJ; (focus ((with_reducible constructor) <;> rfl)))
      | (apply awT mixedOK hΓ (by kernel_rfl); (simp (disch := omega) only [go_sem, ↓reduceIte, dk] <;> with_reducible rfl))
      | ((first | apply awR hΓ | apply awG | apply awH mixedOK hΓ rfl (by kernel_rfl) | apply ovE rfl); (simp (disch := omega) only [go_sem, ↓reduceIte, dk] <;> with_reducible rfl); exact trivial)
      | rfl)
  by_cases h2 : n > 281474976710656
  · rw [if_pos (.inr h2), if_pos (.inr h2)]
    repeat (first
      | (apply axJ; (focus ((with_reducible constructor) <;> rfl)))
      | (apply awT mixedOK hΓ (by kernel_rfl); (simp (disch := omega) only [go_sem, ↓reduceIte, dk] <;> with_reducible rfl))
      | ((first | apply awR hΓ | apply awG | apply awH mixedOK hΓ rfl (by kernel_rfl) | apply ovE rfl); (simp (disch := omega) only [go_sem, ↓reduceIte, dk] <;> with_reducible rfl); exact trivial)
      | rfl)
  · rw [if_neg (by omega), if_neg (by omega)]
    have hl := dec_len n
    have e80 := g80_dec (n := n) (by omega) (by omega)
    repeat (first
      | (apply axJ; (focus ((with_reducible constructor) <;> rfl)))
      | (apply awT mixedOK hΓ (by kernel_rfl); (simp (disch := omega) only [go_sem, ↓reduceIte, dk] <;> with_reducible rfl))
      | ((first | apply awR hΓ | apply awG | apply awH mixedOK hΓ rfl (by kernel_rfl) | apply ovE rfl); (simp (disch := omega) only [go_sem, ↓reduceIte, dk] <;> with_reducible rfl); exact trivial)
      | rfl)
    repeat (first
      | (apply axJ; (focus ((with_reducible constructor) <;> rfl)))
      | (apply awT mixedOK hΓ (by kernel_rfl); (simp (disch := (first | omega | (simp only [maxLen, List.length_append, List.length_cons, List.length_nil]; omega))) only [go_sem, ↓reduceIte, ↓if_pos, ↓if_neg, decide_eq_true, decide_eq_false, if_pos, if_neg, wrap_in, Γ75, e80] <;> with_reducible rfl))
      | ((first | apply awR hΓ | apply awG | apply awH mixedOK hΓ rfl (by kernel_rfl) | apply ovE rfl); (simp (disch := (first | omega | (simp only [maxLen, List.length_append, List.length_cons, List.length_nil]; omega))) only [go_sem, ↓reduceIte, ↓if_pos, ↓if_neg, decide_eq_true, decide_eq_false, if_pos, if_neg, wrap_in, Γ75, e80] <;> with_reducible rfl); exact trivial)
      | rfl)
noncomputable def g46 : List D → Option D := encSpec (fun n : Int => [i64 n]) (fun _ => True) (fun n => .str (numB n))
theorem g46_eq (n : Int) : g46 [.int .i64 n] = some (.str (numB n)) := encSpec_eq (x := n) trivial fun y hy => by
  simp only [List.cons.injEq, and_true, D.int.injEq, true_and] at hy
  rw [hy]
noncomputable def Γ46 : FuncId → Option CSpec := fun f => if f = 75 then some (.pure true (g75)) else none
theorem Γ46_ok : ∀ f s, Γ46 f = some s → SpecOK Try.prog f s := by
  intro f s h
  unfold Γ46 at h
  split at h
  · rename_i hf; cases h; subst hf; exact f75_ok
  · cases h
theorem f46_ok : PureOK Try.prog 46 true g46 := by
  have hΓ := Γ46_ok
  refine pure_enc (n := 11) (rs := [.tmp 2]) Try.func46 (by kernel_rfl) rfl (by kernel_rfl) (by kernel_rfl) ?_
  intro n _
  refine ⟨fun _ => .str _, fun c hz0 => ?_⟩
  have e75 := g75_eq n
  rw [start_frame (by simp)]; simp only [enumV, go_sem, emptyH]
  repeat (first
    | (apply axJ; (focus ((with_reducible constructor) <;> rfl)))
    | (apply awT mixedOK hΓ (by kernel_rfl); (simp (disch := omega) only [go_sem, ↓reduceIte, dk, Γ46, e75] <;> with_reducible rfl))
    | ((first | apply awR hΓ | apply awG | apply awH mixedOK hΓ rfl (by kernel_rfl) | apply ovE rfl); (simp (disch := omega) only [go_sem, ↓reduceIte, dk, Γ46, e75] <;> with_reducible rfl); exact trivial)
    | rfl)
def textB (s : List UInt8) : List UInt8 := dec s.length ++ [58] ++ s ++ [44]
theorem textB_len (s : List UInt8) : (textB s).length ≤ s.length + 20 := by
  have := dec_len s.length
  simp [textB]
  omega
noncomputable def g81 : List D → Option D := encSpec (fun s : List UInt8 => [.str s]) (fun s => s.length ≤ 65536) (fun s => .tup [.str (textB s), i64 0])
theorem g81_eq {s : List UInt8} (h : s.length ≤ 65536) : g81 [.str s] = some (.tup [.str (textB s), i64 0]) := encSpec_eq (x := s) h fun y hy => by
  simp only [List.cons.injEq, and_true, D.str.injEq] at hy
  rw [hy]
theorem f81_ok : PureOK Try.prog 81 true g81 := by
  have hΓ := Γ75_ok
  refine pure_enc (n := 14) (rs := [.tmp 2, .tmp 3]) Try.func81 (by kernel_rfl) rfl (by kernel_rfl) (by kernel_rfl) ?_
  intro s hs
  have hs : s.length ≤ 65536 := hs
  refine ⟨fun _ => flat_se _ _, fun c hz0 => ?_⟩
  have e80 := g80_len (n := s.length) (by omega)
  have hl := dec_len s.length
  unfold textB
  rw [start_frame (by simp)]; simp only [enumV, go_sem, emptyH]
  repeat (first
    | (apply axJ; (focus ((with_reducible constructor) <;> rfl)))
    | (apply awT mixedOK hΓ (by kernel_rfl); (simp (disch := (first | omega | (simp only [maxLen, List.length_append, List.length_cons, List.length_nil]; omega))) only [go_sem, ↓reduceIte, ↓if_pos, ↓if_neg, decide_eq_true, decide_eq_false, if_pos, if_neg, wrap_in, Γ75, e80] <;> with_reducible rfl))
    | ((first | apply awR hΓ | apply awG | apply awH mixedOK hΓ rfl (by kernel_rfl) | apply ovE rfl); (simp (disch := (first | omega | (simp only [maxLen, List.length_append, List.length_cons, List.length_nil]; omega))) only [go_sem, ↓reduceIte, ↓if_pos, ↓if_neg, decide_eq_true, decide_eq_false, if_pos, if_neg, wrap_in, Γ75, e80] <;> with_reducible rfl); exact trivial)
    | rfl)
def txF (l : List (List UInt8)) : List UInt8 := (l.map textB).flatten
def textsB (l : List (List UInt8)) : List UInt8 := dec l.length ++ [59] ++ txF l
structure Txs (l : List (List UInt8)) : Prop where
  n : l.length ≤ 1024
  s : ∀ s ∈ l, s.length ≤ 65536
theorem texts_len {m : Nat} : ∀ {l : List (List UInt8)}, (∀ s ∈ l, s.length ≤ m) → (txF l).length ≤ l.length * (m + 20)
  | [], _ => by simp [txF]
  | s :: l, h => by
    have h1 := textB_len s
    have h2 := h s List.mem_cons_self
    have h3 := texts_len (l := l) fun x hx => h x (List.mem_cons_of_mem _ hx)
    unfold txF at h3 ⊢
    rw [List.map_cons, List.flatten_cons, List.length_append, List.length_cons, Nat.add_mul, Nat.one_mul]
    omega
theorem textsB_len {l : List (List UInt8)} {m : Nat} (h : ∀ s ∈ l, s.length ≤ m) : (textsB l).length ≤ l.length * (m + 20) + 19 := by
  have h1 := texts_len h
  have h2 := dec_len l.length
  simp only [textsB, List.length_append, List.length_cons, List.length_nil]
  omega
noncomputable def g56 : List D → Option D := encSpec (fun l : List (List UInt8) => [.list (l.map .str)]) Txs (fun l => .tup [.str (textsB l), i64 0])
theorem strs_inj {a b : List (List UInt8)} (h : a.map D.str = b.map D.str) : a = b := (List.map_inj_right fun x y h => by simpa using h).1 h
theorem g56_eq {l : List (List UInt8)} (h : Txs l) : g56 [.list (l.map .str)] = some (.tup [.str (textsB l), i64 0]) := encSpec_eq (x := l) h fun y hy => by
  simp only [List.cons.injEq, and_true, D.list.injEq] at hy
  rw [strs_inj hy]
noncomputable def Γ56 : FuncId → Option CSpec := fun f => if f = 80 then some (.pure true (g80 18)) else if f = 81 then some (.pure true (g81)) else none
theorem Γ56_ok : ∀ f s, Γ56 f = some s → SpecOK Try.prog f s := by
  intro f s h
  unfold Γ56 at h
  split at h
  · rename_i hf; cases h; subst hf; exact (f80_ok 18)
  split at h
  · rename_i hf; cases h; subst hf; exact f81_ok
  · cases h
theorem f56_ok : PureOK Try.prog 56 true g56 := by
  have hΓ := Γ56_ok
  refine pure_enc (n := 35) (rs := [.tmp 2, .tmp 3]) Try.func56 (by kernel_rfl) rfl (by kernel_rfl) (by kernel_rfl) ?_
  rintro l ⟨hn, hs⟩
  refine ⟨fun _ => flat_se _ _, fun c hz0 => ?_⟩
  have e80 := g80_len (n := l.length) (by omega)
  have hl := dec_len l.length
  have h00 : ((0 : Int) != 0) = false := rfl
  rw [start_frame (by simp)]; simp only [enumV, go_sem, emptyH]
  repeat (first
    | (apply axJ; (focus ((with_reducible constructor) <;> rfl)))
    | (apply awT mixedOK hΓ (by kernel_rfl); (simp (disch := (first | omega | (simp only [maxLen, List.length_append, List.length_cons, List.length_nil]; omega))) only [go_sem, ↓reduceIte, ↓if_pos, ↓if_neg, decide_eq_true, decide_eq_false, if_pos, if_neg, wrap_in, Γ56, e80] <;> with_reducible rfl))
    | ((first | apply awR hΓ | apply awG | apply awH mixedOK hΓ rfl (by kernel_rfl) | apply ovE rfl); (simp (disch := (first | omega | (simp only [maxLen, List.length_append, List.length_cons, List.length_nil]; omega))) only [go_sem, ↓reduceIte, ↓if_pos, ↓if_neg, decide_eq_true, decide_eq_false, if_pos, if_neg, wrap_in, Γ56, e80] <;> with_reducible rfl); exact trivial)
    | rfl)
  refine awp_loop_at (X := Nat) (fun i => (frame 35 [(4, .data (.str (dec l.length ++ [59] ++ txF (l.take i)))), (16, .data (.list (l.map .str))), (17, .data (i64 l.length)), (18, .data (i64 i))])) (fun _ => []) 11
    (fun i => i ≤ l.length) (fun i => l.length - i) 0 (Nat.zero_le _) (Weak.v (by (simp [ConvF, lookV, Conv, ints, txF]; done)) (by (simp (disch := omega) only [TabSub, look, if_pos, if_neg, Obj.refsOK, refsOKs, AV.refsOK, decide_eq_true_eq, Bool.and_true, Bool.and_self, txF] ) <;> ((repeat' apply And.intro) <;> first | exact True.intro | omega | (simp; done) | rfl))) ?_
  intro i hi
  by_cases hi2 : i < l.length
  · have h1 := hs l[i] (List.getElem_mem hi2)
    have h2 : txF (l.take (i + 1)) = txF (l.take i) ++ textB l[i] := by
      unfold txF
      rw [List.take_add_one, List.getElem?_eq_getElem hi2]
      simp only [List.map_append, List.flatten_append, Option.toList_some, List.map_cons, List.map_nil, List.flatten_cons, List.flatten_nil, List.append_nil]
    have h3 := texts_len (l := l.take i) (m := 65536) fun s hx => hs s (List.mem_of_mem_take hx)
    have h4 : (l.take i).length = i := by rw [List.length_take]; omega
    rw [h4] at h3
    have h5 := textB_len l[i]
    have h6 : i * (65536 + 20) ≤ 1024 * (65536 + 20) := Nat.mul_le_mul_right _ (by omega)
    generalize hy : l[i] = y at h1 h2 h5
    have e81 := g81_eq h1
    generalize hacc : txF (l.take i) = acc at h2 h3
    repeat (first
      | (apply axJ; (focus ((with_reducible constructor) <;> rfl)))
      | (apply awT mixedOK hΓ (by kernel_rfl); (simp (disch := omega) only [go_sem, ↓reduceIte, dk, hy, Γ56, e81, h00] <;> with_reducible rfl))
      | ((first | apply awR hΓ | apply awG | apply awH mixedOK hΓ rfl (by kernel_rfl) | apply ovE rfl); (simp (disch := omega) only [go_sem, ↓reduceIte, dk, hy, Γ56, e81, h00] <;> with_reducible rfl); exact trivial)
      | rfl)
    repeat (first
      | (apply axJ; (focus ((with_reducible constructor) <;> rfl)))
      | (apply awT mixedOK hΓ (by kernel_rfl); (simp (disch := (first | omega | (simp only [maxLen, List.length_append, List.length_cons, List.length_nil]; omega))) only [go_sem, ↓reduceIte, ↓if_pos, ↓if_neg, decide_eq_true, decide_eq_false, if_pos, if_neg, wrap_in] <;> with_reducible rfl))
      | ((first | apply awR hΓ | apply awG | apply awH mixedOK hΓ rfl (by kernel_rfl) | apply ovE rfl); (simp (disch := (first | omega | (simp only [maxLen, List.length_append, List.length_cons, List.length_nil]; omega))) only [go_sem, ↓reduceIte, ↓if_pos, ↓if_neg, decide_eq_true, decide_eq_false, if_pos, if_neg, wrap_in] <;> with_reducible rfl); exact trivial)
      | rfl)
    repeat (first
      | (apply axJ; (focus ((with_reducible constructor) <;> rfl)))
      | (apply awT mixedOK hΓ (by kernel_rfl); (simp (disch := omega) only [go_sem, ↓reduceIte, dk] <;> with_reducible rfl))
      | ((first | apply awR hΓ | apply awG | apply awH mixedOK hΓ rfl (by kernel_rfl) | apply ovE rfl); (simp (disch := omega) only [go_sem, ↓reduceIte, dk] <;> with_reducible rfl); exact trivial)
      | rfl)
    exact ⟨i + 1, by omega, by omega, Weak.v (by (simp [ConvF, lookV, Conv, ints, h2, List.append_assoc]; done)) (by (simp (disch := omega) only [TabSub, look, if_pos, if_neg, Obj.refsOK, refsOKs, AV.refsOK, decide_eq_true_eq, Bool.and_true, Bool.and_self, h2, List.append_assoc] ) <;> ((repeat' apply And.intro) <;> first | exact True.intro | omega | (simp; done) | rfl))⟩
  · have hi3 : i = l.length := by omega
    subst hi3
    have ht : textsB l = dec l.length ++ [59] ++ txF l := rfl
    rw [List.take_length, ← ht]
    repeat (first
      | (apply axJ; (focus ((with_reducible constructor) <;> rfl)))
      | (apply awT mixedOK hΓ (by kernel_rfl); (simp (disch := omega) only [go_sem, ↓reduceIte, dk] <;> with_reducible rfl))
      | ((first | apply awR hΓ | apply awG | apply awH mixedOK hΓ rfl (by kernel_rfl) | apply ovE rfl); (simp (disch := omega) only [go_sem, ↓reduceIte, dk] <;> with_reducible rfl); exact trivial)
      | rfl)
noncomputable def Γ119 : FuncId → Option CSpec := fun f => if f = 56 then some (.pure true (g56)) else if f = 57 then some (.pure true (g57)) else none
theorem Γ119_ok : ∀ f s, Γ119 f = some s → SpecOK Try.prog f s := by
  intro f s h
  unfold Γ119 at h
  split at h
  · rename_i hf; cases h; subst hf; exact f56_ok
  split at h
  · rename_i hf; cases h; subst hf; exact f57_ok
  · cases h
def hsh (l : List (List UInt8)) : List UInt8 := sum3 (textsB l)
theorem hsh_len (l : List (List UInt8)) : (hsh l).length = 32 := sum3_len _
noncomputable def g36 : List D → Option D := encSpec (fun l : List (List UInt8) => [.list (l.map .str)]) Txs (fun l => .str (hsh l))
theorem g36_eq {l : List (List UInt8)} (h : Txs l) : g36 [.list (l.map .str)] = some (.str (hsh l)) := encSpec_eq (x := l) h fun y hy => by
  simp only [List.cons.injEq, and_true, D.list.injEq] at hy
  rw [strs_inj hy]
theorem f36_ok : PureOK Try.prog 36 true g36 := by
  have hΓ := Γ119_ok
  refine pure_enc (n := 12) (rs := [.tmp 2]) Try.func36 (by kernel_rfl) rfl (by kernel_rfl) (by kernel_rfl) ?_
  intro l hl
  refine ⟨fun _ => .str _, fun c hz0 => ?_⟩
  have e56 := g56_eq hl
  have hb := textsB_len hl.s
  have hn := hl.n
  have h6 : l.length * (65536 + 20) ≤ 1024 * (65536 + 20) := Nat.mul_le_mul_right _ hn
  have e57 := g57_eq (s := textsB l) (by omega)
  unfold hsh
  rw [start_frame (by simp)]; simp only [enumV, go_sem, emptyH]
  repeat (first
    | (apply axJ; (focus ((with_reducible constructor) <;> rfl)))
    | (apply awT mixedOK hΓ (by kernel_rfl); (simp (disch := omega) only [go_sem, ↓reduceIte, dk, Γ119, e56, e57] <;> with_reducible rfl))
    | ((first | apply awR hΓ | apply awG | apply awH mixedOK hΓ rfl (by kernel_rfl) | apply ovE rfl); (simp (disch := omega) only [go_sem, ↓reduceIte, dk, Γ119, e56, e57] <;> with_reducible rfl); exact trivial)
    | rfl)
theorem g36_2 {a b : List UInt8} (ha : a.length ≤ 65536) (hb : b.length ≤ 65536) : g36 [.list [.str a, .str b]] = some (.str (hsh [a, b])) := g36_eq (l := [a, b]) ⟨by simp, fun s hs => by
  simp only [List.mem_cons, List.not_mem_nil, or_false] at hs
  rcases hs with rfl | rfl <;> assumption⟩
end Go.Ab
namespace Go.Ab
open Go Go.RowKit Go.Proofs
set_option maxRecDepth 4000
set_option maxHeartbeats 4000000
end Go.Ab
namespace Go.Ab
open Go Go.RowKit Go.Proofs
set_option maxRecDepth 4000
set_option maxHeartbeats 4000000
structure Strs (l : List (List UInt8)) : Prop where
  n : l.length ≤ 1099511627776
  s : ∀ s ∈ l, s.length ≤ 1099511627776
end Go.Ab
