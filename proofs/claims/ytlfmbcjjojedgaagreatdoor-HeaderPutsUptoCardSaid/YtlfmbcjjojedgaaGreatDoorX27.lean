/-
  One text of the proof (own work): contracts of functions of the program, by the abstract machine.
-/
import Derived.Lib.SlicesCompact
import Derived.Test.YtlfmbcjjojedgaaGreatDoorX22
import Derived.Test.YtlfmbcjjojedgaaGreatDoorX19
import Derived.Test.YtlfmbcjjojedgaaGreatDoorX26
set_option linter.unusedVariables false
set_option linter.unusedSimpArgs false
namespace Go.Ab
open Go Go.RowKit Go.Proofs
set_option maxRecDepth 10000
set_option maxHeartbeats 8000000
def Strict (l : List Bs) : Prop := l.Pairwise fun a b => a < b
theorem lt_irr (a : Bs) : ¬ a < a := List.lt_irrefl a
theorem lt_eq {a b : Bs} (h : ¬ a < b) (k : ¬ b < a) : a = b := List.le_antisymm (List.not_lt.1 k) (List.not_lt.1 h)
theorem le_lt {a b : Bs} (h : a ≤ b) (k : a ≠ b) : a < b := by
  by_cases hl : a < b
  · exact hl
  · exact absurd (List.le_antisymm h (List.not_lt.1 hl)) k
theorem strict_eq : ∀ (a b : List Bs), Strict a → Strict b → (∀ x, x ∈ a ↔ x ∈ b) → a = b
  | [], [], _, _, _ => rfl
  | [], y :: b, _, _, h => absurd ((h y).2 (by simp)) (by simp)
  | x :: a, [], _, _, h => absurd ((h x).1 (by simp)) (by simp)
  | x :: a, y :: b, ha, hb, h => by
    obtain ⟨ha1, ha2⟩ := List.pairwise_cons.1 ha
    obtain ⟨hb1, hb2⟩ := List.pairwise_cons.1 hb
    have hxy : x = y := by
      rcases List.mem_cons.1 ((h x).1 (by simp)) with e | hx
      · exact e
      · rcases List.mem_cons.1 ((h y).2 (by simp)) with e | hy
        · exact e.symm
        · exact absurd (List.lt_trans (ha1 y hy) (hb1 x hx)) (lt_irr x)
    subst hxy
    rw [strict_eq a b ha2 hb2 fun z => ?_]
    constructor
    · intro hz
      rcases List.mem_cons.1 ((h z).1 (by simp [hz])) with e | k
      · subst e; exact absurd (ha1 z hz) (lt_irr z)
      · exact k
    · intro hz
      rcases List.mem_cons.1 ((h z).2 (by simp [hz])) with e | k
      · subst e; exact absurd (hb1 z hz) (lt_irr z)
      · exact k
def addGo (s : Bs) : Bool → List Bs → List Bs
  | d, [] => if d then [] else [s]
  | d, x :: l => if x == s then x :: addGo s true l else if !d && decide (s < x) then s :: x :: addGo s true l else x :: addGo s d l
theorem addGo_true (s : Bs) : ∀ l, addGo s true l = l
  | [] => rfl
  | x :: l => by
    rw [addGo, addGo_true s l]
    split
    · rfl
    · simp
theorem addGo_mem (s : Bs) : ∀ l x, x ∈ addGo s false l ↔ x = s ∨ x ∈ l
  | [], x => by simp [addGo]
  | y :: l, x => by
    rw [addGo, addGo_true]
    split
    · rename_i h
      have := eq_of_beq h
      subst this
      simp
    · split
      · simp
      · simp only [List.mem_cons, addGo_mem s l x]
        constructor
        · rintro (h | h | h)
          · exact .inr (.inl h)
          · exact .inl h
          · exact .inr (.inr h)
        · rintro (h | h | h)
          · exact .inr (.inl h)
          · exact .inl h
          · exact .inr (.inr h)
theorem addGo_strict (s : Bs) : ∀ l, Strict l → Strict (addGo s false l)
  | [], _ => by simp [addGo, Strict]
  | y :: l, h => by
    have hh := h
    obtain ⟨h1, h2⟩ := List.pairwise_cons.1 hh
    rw [addGo, addGo_true]
    split
    · exact h
    · rename_i hne
      split
      · rename_i hlt
        have hlt : s < y := by simpa using hlt
        refine List.pairwise_cons.2 ⟨fun z hz => ?_, h⟩
        rcases List.mem_cons.1 hz with rfl | hz
        · exact hlt
        · exact List.lt_trans hlt (h1 z hz)
      · rename_i hlt
        have hlt : ¬ s < y := by simpa using hlt
        have hys : y < s := by
          by_cases k : y < s
          · exact k
          · exact absurd (lt_eq k hlt) (by simpa using hne)
        refine List.pairwise_cons.2 ⟨fun z hz => ?_, addGo_strict s l h2⟩
        rcases (addGo_mem s l z).1 hz with rfl | hz
        · exact hys
        · exact h1 z hz
def cpStep (acc : List Bs) (x : Bs) : List Bs := if acc.getLast? == some x then acc else acc ++ [x]
def compB (l : List Bs) : List Bs := l.foldl cpStep []
theorem comp_key : ∀ (r acc : List Bs), Strict acc → (∀ x ∈ acc, ∀ y ∈ r, x ≤ y) → r.Pairwise (fun a b => a ≤ b) → Strict (r.foldl cpStep acc) ∧ ∀ z, z ∈ r.foldl cpStep acc ↔ z ∈ acc ∨ z ∈ r
  | [], acc, h, _, _ => ⟨h, fun z => by simp⟩
  | y :: r, acc, h, hle, hr => by
    obtain ⟨hr1, hr2⟩ := List.pairwise_cons.1 hr
    rw [List.foldl_cons]
    by_cases hl : acc.getLast? = some y
    · have hm : y ∈ acc := List.mem_of_getLast? hl
      rw [show cpStep acc y = acc by unfold cpStep; rw [hl]; simp]
      obtain ⟨h1, h2⟩ := comp_key r acc h (fun x hx z hz => hle x hx z (by simp [hz])) hr2
      refine ⟨h1, fun z => ?_⟩
      rw [h2 z, List.mem_cons]
      constructor
      · rintro (k | k)
        · exact .inl k
        · exact .inr (.inr k)
      · rintro (k | rfl | k)
        · exact .inl k
        · exact .inl hm
        · exact .inr k
    · rw [show cpStep acc y = acc ++ [y] by unfold cpStep; rw [if_neg (by simpa using hl)]]
      have hs : Strict (acc ++ [y]) := by
        refine List.pairwise_append.2 ⟨h, List.pairwise_singleton _ _, fun x hx z hz => ?_⟩
        rw [List.mem_singleton.1 hz]
        refine le_lt (hle x hx y (by simp)) fun e => ?_
        subst e
        rcases List.eq_nil_or_concat acc with rfl | ⟨u, b, rfl⟩
        · cases hx
        · rw [List.concat_eq_append] at h hl hx
          rw [List.getLast?_concat] at hl
          have hb : b ≠ x := fun e => hl (by rw [e])
          rcases List.mem_append.1 hx with hx | hx
          · have h3 := (List.pairwise_append.1 h).2.2 x hx b (by simp)
            have h4 := hle b (by simp) x (by simp)
            exact h4 h3
          · exact hb (List.mem_singleton.1 hx).symm
      obtain ⟨h1, h2⟩ := comp_key r (acc ++ [y]) hs (fun x hx z hz => by
        rcases List.mem_append.1 hx with hx | hx
        · exact hle x hx z (by simp [hz])
        · rw [List.mem_singleton.1 hx]; exact hr1 z hz) hr2
      refine ⟨h1, fun z => ?_⟩
      rw [h2 z, List.mem_append, List.mem_singleton, List.mem_cons, or_assoc]
def sortB (l : List Bs) : List Bs := l.mergeSort fun x y => decide (x ≤ y)
theorem sortB_le (l : List Bs) : (sortB l).Pairwise (fun a b => a ≤ b) := by
  have := List.pairwise_mergeSort (le := fun x y : Bs => decide (x ≤ y)) (fun a b c h k => by simp only [decide_eq_true_eq] at *; exact List.le_trans h k) (fun a b => by simpa using List.le_total a b) l
  exact this.imp fun h => by simpa using h
theorem sortB_perm (l : List Bs) : (sortB l).Perm l := List.mergeSort_perm l _
def holdT (l : List Hd) : List Bs := (l.filter (isK 1)).map Hd.text
def holdP (l : List Hd) : List Bs := compB (sortB (holdT l))
def holdR (l : List Hd) : List Bs := l.foldl (fun acc h => if isK 1 h then addGo h.text false acc else acc) []
theorem holdP_ok (l : List Hd) : Strict (holdP l) ∧ ∀ z, z ∈ holdP l ↔ z ∈ holdT l := by
  obtain ⟨h1, h2⟩ := comp_key (sortB (holdT l)) [] List.Pairwise.nil (fun x hx => by cases hx) (sortB_le _)
  refine ⟨h1, fun z => ?_⟩
  rw [show holdP l = (sortB (holdT l)).foldl cpStep [] from rfl, h2 z]
  simp [(sortB_perm (holdT l)).mem_iff]
theorem holdR_key : ∀ (l : List Hd) (acc : List Bs), Strict acc → Strict (l.foldl (fun acc h => if isK 1 h then addGo h.text false acc else acc) acc) ∧ ∀ z, z ∈ l.foldl (fun acc h => if isK 1 h then addGo h.text false acc else acc) acc ↔ z ∈ acc ∨ z ∈ holdT l
  | [], acc, h => ⟨h, fun z => by simp [holdT]⟩
  | x :: l, acc, h => by
    rw [List.foldl_cons]
    cases hx : isK 1 x with
    | false =>
      obtain ⟨h1, h2⟩ := holdR_key l acc h
      rw [if_neg (by decide)]
      refine ⟨h1, fun z => ?_⟩
      rw [h2 z, show holdT (x :: l) = holdT l by unfold holdT; rw [List.filter_cons_of_neg (by rw [hx]; decide)]]
    | true =>
      obtain ⟨h1, h2⟩ := holdR_key l (addGo x.text false acc) (addGo_strict _ _ h)
      rw [if_pos rfl]
      refine ⟨h1, fun z => ?_⟩
      rw [h2 z, addGo_mem, show holdT (x :: l) = x.text :: holdT l by unfold holdT; rw [List.filter_cons_of_pos hx, List.map_cons], List.mem_cons]
      constructor
      · rintro ((k | k) | k)
        · exact .inr (.inl k)
        · exact .inl k
        · exact .inr (.inr k)
      · rintro (k | k | k)
        · exact .inl (.inr k)
        · exact .inl (.inl k)
        · exact .inr k
theorem hold_eq (l : List Hd) : holdP l = holdR l := by
  obtain ⟨h1, h2⟩ := holdP_ok l
  obtain ⟨h3, h4⟩ := holdR_key l [] List.Pairwise.nil
  refine strict_eq _ _ h1 h3 fun z => ?_
  rw [h2 z]
  have := h4 z
  simp only [List.not_mem_nil, false_or] at this
  exact this.symm
end Go.Ab
namespace Go.Ab
open Go Go.RowKit Go.Proofs
set_option maxRecDepth 4000
set_option maxHeartbeats 4000000
def letterI (c : Int) : Bool := (decide (c ≥ 97) && decide (c ≤ 122)) || (decide (c ≥ 48) && decide (c ≤ 57)) || c == 45 || c == 46
def letter (b : UInt8) : Bool := letterI b.toNat
def isBl (b : UInt8) : Bool := (b.toNat : Int) == 32
noncomputable def g_letter : List D → Option D := encSpec (fun x : Int => [u8 x]) (fun x : Int => True) (fun x : Int => .bool (letterI x))
theorem g_letter_eq {c : Int} (hd : True) : g_letter [.int .u8 c] = some (.bool (letterI c)) := encSpec_eq (x := c) hd fun y hy => by
    simp only [List.cons.injEq, and_true, true_and, D.str.injEq, D.int.injEq, D.list.injEq, D.bool.injEq, D.agg.injEq, D.clo.injEq, Int.natCast_inj, inj_ie, lx_ie] at hy
    rw [hy]
theorem f_letter_ok : PureOK Tryz.prog 149 true g_letter := by
  have hΓ := Γ0_ok
  refine pure_enc (n := 25) (rs := [.tmp 2]) Tryz.func149 (by kernel_rfl) rfl (by kernel_rfl) (by kernel_rfl) ?_
  rintro c hd
  (try dsimp only at hd ⊢)
  refine ⟨fun _ => by (repeat (first | exact .int _ _ | exact .bool _ | exact .str _ | (refine .tup _ (fun d hd => ?_); simp only [List.mem_cons, List.not_mem_nil, or_false] at hd; rcases hd with rfl | hd))), fun k hz0 => ?_⟩
  unfold letterI
  generalize hc1 : decide (c ≥ 97) = c1
  generalize hc2 : decide (c ≤ 122) = c2
  generalize hc3 : decide (c ≥ 48) = c3
  generalize hc4 : decide (c ≤ 57) = c4
  generalize hc5 : (c == 45) = c5
  generalize hc6 : (c == 46) = c6
  rw [start_frame (by simp)]; simp only [enumV, go_sem, emptyH]
  (first | (((repeat (first | (apply axJ; (focus ((with_reducible constructor) <;> rfl))) | (apply awT mixedOK hΓ (by kernel_rfl); (simp (disch := omega) only [go_sem, ↓reduceIte, dk, hc1, hc2, hc3, hc4, hc5, hc6] <;> with_reducible rfl)) | ((first | apply awR hΓ | apply awG | apply awH mixedOK hΓ rfl (by kernel_rfl) | apply ovE rfl); (simp (disch := omega) only [go_sem, ↓reduceIte, dk, hc1, hc2, hc3, hc4, hc5, hc6] <;> with_reducible rfl); exact trivial) | rfl)); (first | done | rfl)); done) | (cases c1 <;> (first | (((repeat (first | (apply axJ; (focus ((with_reducible constructor) <;> rfl))) | (apply awT mixedOK hΓ (by kernel_rfl); (simp (disch := omega) only [go_sem, ↓reduceIte, dk, hc1, hc2, hc3, hc4, hc5, hc6] <;> with_reducible rfl)) | ((first | apply awR hΓ | apply awG | apply awH mixedOK hΓ rfl (by kernel_rfl) | apply ovE rfl); (simp (disch := omega) only [go_sem, ↓reduceIte, dk, hc1, hc2, hc3, hc4, hc5, hc6] <;> with_reducible rfl); exact trivial) | rfl)); (first | done | rfl)); done) | (cases c2 <;> (first | (((repeat (first | (apply axJ; (focus ((with_reducible constructor) <;> rfl))) | (apply awT mixedOK hΓ (by kernel_rfl); (simp (disch := omega) only [go_sem, ↓reduceIte, dk, hc1, hc2, hc3, hc4, hc5, hc6] <;> with_reducible rfl)) | ((first | apply awR hΓ | apply awG | apply awH mixedOK hΓ rfl (by kernel_rfl) | apply ovE rfl); (simp (disch := omega) only [go_sem, ↓reduceIte, dk, hc1, hc2, hc3, hc4, hc5, hc6] <;> with_reducible rfl); exact trivial) | rfl)); (first | done | rfl)); done) | (cases c3 <;> (first | (((repeat (first | (apply axJ; (focus ((with_reducible constructor) <;> rfl))) | (apply awT mixedOK hΓ (by kernel_rfl); (simp (disch := omega) only [go_sem, ↓reduceIte, dk, hc1, hc2, hc3, hc4, hc5, hc6] <;> with_reducible rfl)) | ((first | apply awR hΓ | apply awG | apply awH mixedOK hΓ rfl (by kernel_rfl) | apply ovE rfl); (simp (disch := omega) only [go_sem, ↓reduceIte, dk, hc1, hc2, hc3, hc4, hc5, hc6] <;> with_reducible rfl); exact trivial) | rfl)); (first | done | rfl)); done) | (cases c4 <;> (first | (((repeat (first | (apply axJ; (focus ((with_reducible constructor) <;> rfl))) | (apply awT mixedOK hΓ (by kernel_rfl); (simp (disch := omega) only [go_sem, ↓reduceIte, dk, hc1, hc2, hc3, hc4, hc5, hc6] <;> with_reducible rfl)) | ((first | apply awR hΓ | apply awG | apply awH mixedOK hΓ rfl (by kernel_rfl) | apply ovE rfl); (simp (disch := omega) only [go_sem, ↓reduceIte, dk, hc1, hc2, hc3, hc4, hc5, hc6] <;> with_reducible rfl); exact trivial) | rfl)); (first | done | rfl)); done) | (cases c5 <;> (first | (((repeat (first | (apply axJ; (focus ((with_reducible constructor) <;> rfl))) | (apply awT mixedOK hΓ (by kernel_rfl); (simp (disch := omega) only [go_sem, ↓reduceIte, dk, hc1, hc2, hc3, hc4, hc5, hc6] <;> with_reducible rfl)) | ((first | apply awR hΓ | apply awG | apply awH mixedOK hΓ rfl (by kernel_rfl) | apply ovE rfl); (simp (disch := omega) only [go_sem, ↓reduceIte, dk, hc1, hc2, hc3, hc4, hc5, hc6] <;> with_reducible rfl); exact trivial) | rfl)); (first | done | rfl)); done) | (cases c6 <;> (first | (((repeat (first | (apply axJ; (focus ((with_reducible constructor) <;> rfl))) | (apply awT mixedOK hΓ (by kernel_rfl); (simp (disch := omega) only [go_sem, ↓reduceIte, dk, hc1, hc2, hc3, hc4, hc5, hc6] <;> with_reducible rfl)) | ((first | apply awR hΓ | apply awG | apply awH mixedOK hΓ rfl (by kernel_rfl) | apply ovE rfl); (simp (disch := omega) only [go_sem, ↓reduceIte, dk, hc1, hc2, hc3, hc4, hc5, hc6] <;> with_reducible rfl); exact trivial) | rfl)); (first | done | rfl)); done))))))))))))))
def runN (p : UInt8 → Bool) (s : List UInt8) (a : Nat) : Nat := a + ((s.drop a).takeWhile p).length
theorem runN_yes {p : UInt8 → Bool} {s : List UInt8} {i : Nat} (hi : i < s.length) (hp : p s[i] = true) : runN p s i = runN p s (i + 1) := by
  unfold runN
  rw [List.drop_eq_getElem_cons hi, List.takeWhile_cons, if_pos hp, List.length_cons]
  omega
theorem runN_no {p : UInt8 → Bool} {s : List UInt8} {i : Nat} (hi : i < s.length) (hp : p s[i] = false) : runN p s i = i := by
  unfold runN
  rw [List.drop_eq_getElem_cons hi, List.takeWhile_cons, if_neg (by simp [hp])]
  simp
theorem runN_end {p : UInt8 → Bool} {s : List UInt8} {i : Nat} (hi : s.length ≤ i) : runN p s i = i := by
  unfold runN
  rw [List.drop_eq_nil_of_le hi]
  simp
theorem runN_le {p : UInt8 → Bool} {s : List UInt8} {i : Nat} (hi : i ≤ s.length) : i ≤ runN p s i ∧ runN p s i ≤ s.length := by
  unfold runN
  have h := List.IsPrefix.length_le (List.takeWhile_prefix p (l := s.drop i))
  rw [List.length_drop] at h
  omega
theorem runN_take {p : UInt8 → Bool} {s : List UInt8} {i : Nat} : (s.drop i).take (runN p s i - i) = (s.drop i).takeWhile p := by
  unfold runN
  rw [Nat.add_sub_cancel_left]
  exact (List.prefix_iff_eq_take.1 (List.takeWhile_prefix p)).symm
abbrev skipN := runN isBl
def wordN (s : List UInt8) (a : Nat) : List UInt8 := (s.drop a).takeWhile letter
noncomputable def g_skip : List D → Option D := encSpec (fun x : (List UInt8) × Nat => [.str x.1, i64 x.2]) (fun x : (List UInt8) × Nat => x.1.length ≤ 1099511627776 ∧ x.2 ≤ x.1.length) (fun x : (List UInt8) × Nat => i64 (skipN x.1 x.2))
theorem g_skip_eq {s : List UInt8} {a : Nat} (hd : s.length ≤ 1099511627776 ∧ a ≤ s.length) : g_skip [.str s, .int .i64 a] = some (i64 (skipN s a)) := encSpec_eq (x := (s, a)) hd fun y hy => by
    obtain ⟨y0, y1⟩ := y; simp only [List.cons.injEq, and_true, true_and, D.str.injEq, D.int.injEq, D.list.injEq, D.bool.injEq, D.agg.injEq, D.clo.injEq, Int.natCast_inj, inj_ie, lx_ie] at hy
    (try obtain ⟨rfl, rfl⟩ := hy)
    (try subst_vars)
    rfl
theorem f_skip_ok : PureOK Tryz.prog 122 true g_skip := by
  have hΓ := Γ0_ok
  refine pure_enc (n := 18) (rs := [.tmp 4]) Tryz.func122 (by kernel_rfl) rfl (by kernel_rfl) (by kernel_rfl) ?_
  rintro ⟨s, a⟩ hd
  (try dsimp only at hd ⊢)
  refine ⟨fun _ => by (repeat (first | exact .int _ _ | exact .bool _ | exact .str _ | (refine .tup _ (fun d hd => ?_); simp only [List.mem_cons, List.not_mem_nil, or_false] at hd; rcases hd with rfl | hd))), fun k hz0 => ?_⟩
  obtain ⟨hs, ha⟩ := hd
  rw [start_frame (by simp)]; simp only [enumV, go_sem, emptyH]
  repeat (first
    | (apply axJ; (focus ((with_reducible constructor) <;> rfl)))
    | (apply awT mixedOK hΓ (by kernel_rfl); (simp (disch := omega) only [go_sem, ↓reduceIte, dk] <;> with_reducible rfl))
    | ((first | apply awR hΓ | apply awG | apply awH mixedOK hΓ rfl (by kernel_rfl) | apply ovE rfl); (simp (disch := omega) only [go_sem, ↓reduceIte, dk] <;> with_reducible rfl); exact trivial)
    | rfl)
  refine awp_loop_at (X := Nat) (fun i => (frame 18 [(0, .data (.str s)), (1, .data (i64 i))])) (fun _ => []) 0 (fun i => i ≤ s.length ∧ skipN s i = skipN s a) (fun i => s.length - i) a ⟨ha, rfl⟩ (Weak.w) ?_
  rintro i ⟨hi, he⟩
  rw [← he]
  by_cases hi2 : i < s.length
  · have hyes := runN_yes (p := isBl) hi2
    have hno := runN_no (p := isBl) hi2
    rw [show isBl s[i] = ((s[i].toNat : Int) == 32) from rfl] at hyes hno
    generalize hy : s[i] = y at hyes hno
    generalize hc : ((y.toNat : Int) == 32) = c at hyes hno
    cases c with
    | true =>
      repeat (first
        | (apply axJ; (focus ((with_reducible constructor) <;> rfl)))
        | (apply awT mixedOK hΓ (by kernel_rfl); (simp (disch := omega) only [go_sem, ↓reduceIte, dk, hy, hc] <;> with_reducible rfl))
        | ((first | apply awR hΓ | apply awG | apply awH mixedOK hΓ rfl (by kernel_rfl) | apply ovE rfl); (simp (disch := omega) only [go_sem, ↓reduceIte, dk, hy, hc] <;> with_reducible rfl); exact trivial)
        | rfl)
      exact ⟨i + 1, ⟨by omega, (hyes rfl).symm⟩, by omega, Weak.w⟩
    | false =>
      repeat (first
        | (apply axJ; (focus ((with_reducible constructor) <;> rfl)))
        | (apply awT mixedOK hΓ (by kernel_rfl); (simp (disch := omega) only [go_sem, ↓reduceIte, dk, hy, hc] <;> with_reducible rfl))
        | ((first | apply awR hΓ | apply awG | apply awH mixedOK hΓ rfl (by kernel_rfl) | apply ovE rfl); (simp (disch := omega) only [go_sem, ↓reduceIte, dk, hy, hc] <;> with_reducible rfl); exact trivial)
        | rfl)
      rw [show skipN s i = i from hno rfl]
  · repeat (first
    | (apply axJ; (focus ((with_reducible constructor) <;> rfl)))
    | (apply awT mixedOK hΓ (by kernel_rfl); (simp (disch := omega) only [go_sem, ↓reduceIte, dk] <;> with_reducible rfl))
    | ((first | apply awR hΓ | apply awG | apply awH mixedOK hΓ rfl (by kernel_rfl) | apply ovE rfl); (simp (disch := omega) only [go_sem, ↓reduceIte, dk] <;> with_reducible rfl); exact trivial)
    | rfl)
    rw [show skipN s i = i from runN_end (by omega)]
noncomputable def Γword : FuncId → Option CSpec := fun f => if f = 149 then some (.pure true (g_letter)) else none
theorem Γword_ok : ∀ f s, Γword f = some s → SpecOK Tryz.prog f s := by
  intro f s h
  unfold Γword at h
  split at h
  · rename_i hf; cases h; subst hf; exact f_letter_ok
  · cases h
theorem g_letter_at (b : UInt8) : g_letter [.int .u8 b.toNat] = some (.bool (letter b)) := g_letter_eq trivial
noncomputable def g_word : List D → Option D := encSpec (fun x : (List UInt8) × Nat => [.str x.1, i64 x.2]) (fun x : (List UInt8) × Nat => x.1.length ≤ 1099511627776 ∧ x.2 ≤ x.1.length) (fun x : (List UInt8) × Nat => .str (wordN x.1 x.2))
theorem g_word_eq {s : List UInt8} {a : Nat} (hd : s.length ≤ 1099511627776 ∧ a ≤ s.length) : g_word [.str s, .int .i64 a] = some (.str (wordN s a)) := encSpec_eq (x := (s, a)) hd fun y hy => by
    obtain ⟨y0, y1⟩ := y; simp only [List.cons.injEq, and_true, true_and, D.str.injEq, D.int.injEq, D.list.injEq, D.bool.injEq, D.agg.injEq, D.clo.injEq, Int.natCast_inj, inj_ie, lx_ie] at hy
    (try obtain ⟨rfl, rfl⟩ := hy)
    (try subst_vars)
    rfl
theorem f_word_ok : PureOK Tryz.prog 123 true g_word := by
  have hΓ := Γword_ok
  refine pure_enc (n := 23) (rs := [.tmp 4]) Tryz.func123 (by kernel_rfl) rfl (by kernel_rfl) (by kernel_rfl) ?_
  rintro ⟨s, a⟩ hd
  (try dsimp only at hd ⊢)
  refine ⟨fun _ => by (repeat (first | exact .int _ _ | exact .bool _ | exact .str _ | (refine .tup _ (fun d hd => ?_); simp only [List.mem_cons, List.not_mem_nil, or_false] at hd; rcases hd with rfl | hd))), fun k hz0 => ?_⟩
  obtain ⟨hs, ha⟩ := hd
  rw [start_frame (by simp)]; simp only [enumV, go_sem, emptyH]
  repeat (first
    | (apply axJ; (focus ((with_reducible constructor) <;> rfl)))
    | (apply awT mixedOK hΓ (by kernel_rfl); (simp (disch := omega) only [go_sem, ↓reduceIte, dk] <;> with_reducible rfl))
    | ((first | apply awR hΓ | apply awG | apply awH mixedOK hΓ rfl (by kernel_rfl) | apply ovE rfl); (simp (disch := omega) only [go_sem, ↓reduceIte, dk] <;> with_reducible rfl); exact trivial)
    | rfl)
  refine awp_loop_at (X := Nat) (fun i => (frame 23 [(0, .data (.str s)), (1, .data (i64 a)), (5, .data (i64 i))])) (fun _ => []) 0 (fun i => i ≤ s.length ∧ a ≤ i ∧ runN letter s i = runN letter s a) (fun i => s.length - i) a ⟨ha, Nat.le_refl _, rfl⟩ (Weak.w) ?_
  rintro i ⟨hi, hai, he⟩
  unfold wordN
  rw [← runN_take, ← he]
  by_cases hi2 : i < s.length
  · have hyes := runN_yes (p := letter) hi2
    have hno := runN_no (p := letter) hi2
    have e := g_letter_at s[i]
    generalize hy : s[i] = y at hyes hno e
    generalize letter y = c at hyes hno e
    cases c with
    | true =>
      repeat (first
        | (apply axJ; (focus ((with_reducible constructor) <;> rfl)))
        | (apply awT mixedOK hΓ (by kernel_rfl); (simp (disch := omega) only [go_sem, ↓reduceIte, dk, Γword, hy, e] <;> with_reducible rfl))
        | ((first | apply awR hΓ | apply awG | apply awH mixedOK hΓ rfl (by kernel_rfl) | apply ovE rfl); (simp (disch := omega) only [go_sem, ↓reduceIte, dk, Γword, hy, e] <;> with_reducible rfl); exact trivial)
        | rfl)
      exact ⟨i + 1, ⟨by omega, by omega, (hyes rfl).symm⟩, by omega, Weak.w⟩
    | false =>
      rw [hno rfl]
      repeat (first
        | (apply axJ; (focus ((with_reducible constructor) <;> rfl)))
        | (apply awT mixedOK hΓ (by kernel_rfl); (simp (disch := omega) only [go_sem, ↓reduceIte, dk, Γword, hy, e] <;> with_reducible rfl))
        | ((first | apply awR hΓ | apply awG | apply awH mixedOK hΓ rfl (by kernel_rfl) | apply ovE rfl); (simp (disch := omega) only [go_sem, ↓reduceIte, dk, Γword, hy, e] <;> with_reducible rfl); exact trivial)
        | rfl)
  · rw [runN_end (by omega)]
    repeat (first
      | (apply axJ; (focus ((with_reducible constructor) <;> rfl)))
      | (apply awT mixedOK hΓ (by kernel_rfl); (simp (disch := omega) only [go_sem, ↓reduceIte, dk, Γword] <;> with_reducible rfl))
      | ((first | apply awR hΓ | apply awG | apply awH mixedOK hΓ rfl (by kernel_rfl) | apply ovE rfl); (simp (disch := omega) only [go_sem, ↓reduceIte, dk, Γword] <;> with_reducible rfl); exact trivial)
      | rfl)
end Go.Ab
