/-
  One text of the proof (own work): contracts of functions of the program, by the abstract machine.
-/
import Derived.Test.YtlfmbcjjojedgaaGreatDoorX19
import Derived.Test.YtlfmbcjjojedgaaGreatDoorX32
set_option linter.unusedVariables false
set_option linter.unusedSimpArgs false
namespace Go.Ab
open Go Go.RowKit
noncomputable def locSpec {X : Type} (enc : X → List AV) (eno : X → List Obj) (dom : X → Prop) (out : X → AV × List Obj) (xs : List AV) (os : List Obj) : Option (AV × List Obj) :=
  open Classical in if h : ∃ x, enc x = xs ∧ eno x = os ∧ dom x then some (out h.choose) else none
theorem locSpec_eq {X : Type} {enc : X → List AV} {eno : X → List Obj} {dom : X → Prop} {out : X → AV × List Obj} {x : X} (hx : dom x) (inj : ∀ y, enc y = enc x → eno y = eno x → out y = out x) : locSpec enc eno dom out (enc x) (eno x) = some (out x) := by
  have h : ∃ y, enc y = enc x ∧ eno y = eno x ∧ dom y := ⟨x, rfl, rfl, hx⟩
  unfold locSpec
  rw [dif_pos h, inj _ h.choose_spec.1 h.choose_spec.2.1]
theorem loc_enc {P : Program} {X : Type} {enc : X → List AV} {eno : X → List Obj} {dom : X → Prop} {out : X → AV × List Obj} {f : FuncId} {fn : Func} {code : Code} {n : Nat} {rs : List ResultVar} (hf : P.funcs[f]? = some fn) (hname : (fn.name == "runtime.NumGoroutine") = false)
    (hb : fn.body = some code) (hn : fn.ntmps = n) (hrs : fn.results.toList = rs)
    (h : ∀ x, dom x → ∀ c : Ctx, c.base = (eno x).length → awp P c code (RetL P rs (eno x).length (out x).1 (out x).2) (enc x ++ List.replicate (n - (enc x).length) .junk) ⟨enumO 0 (eno x), (eno x).length⟩) : LocOK P f (locSpec enc eno dom out) := by
  refine loc_of_awp hf hname hb hn hrs fun xs os r os' hg _ c hcb => ?_
  unfold locSpec at hg
  split at hg
  · rename_i hh
    obtain ⟨h1, h2, h3⟩ := hh.choose_spec
    simp only [Option.some.injEq] at hg
    have := h _ h3 c (by rw [h2]; exact hcb)
    rw [hg, h1, h2] at this
    exact this
  · cases hg
theorem retL_x {P : Program} {rs : List ResultVar} {b : Nat} {e : Exit} {sl : List AV} {H : Heap} {r x : AV} {os : List Obj} (he : Exit.over e = true) (hx : resA P rs sl H = some x) (hw : Weak b [x] H [r] ⟨enumO 0 os, os.length⟩) : RetL P rs b r os e sl H := ⟨he, x, hx, hw⟩
end Go.Ab
namespace Go.Ab
open Go Go.RowKit Go.Proofs
set_option maxRecDepth 10000
set_option maxHeartbeats 8000000
structure RS where
  at' : Nat
  op : Int
  e : Int
  here : Int
@[go_sem] def oRS (s : List UInt8) (r : RS) : Obj := .box [.data (.str s), .data (.int .i64 r.at'), .data (.int .i64 r.op), .data (.int .i64 r.e), .data (.int .i64 r.here)]
theorem oRS_inj {s s' : List UInt8} {r r' : RS} (h : oRS s r = oRS s' r') : s = s' ∧ r = r' := by
  cases r; cases r'
  simp only [oRS, Obj.box.injEq, List.cons.injEq, AV.data.injEq, D.str.injEq, D.int.injEq, true_and, and_true, Int.natCast_inj] at h
  obtain ⟨rfl, rfl, rfl, rfl, rfl⟩ := h
  exact ⟨rfl, rfl⟩
def pFail (r : RS) (e a : Int) : RS := if r.e == 0 then { r with e := e, here := a } else r
noncomputable def g_fail := locSpec (fun x : List UInt8 × RS × Int × Int => [.ptr 0 0, .data (i64 x.2.2.1), .data (i64 x.2.2.2)]) (fun x => [oRS x.1 x.2.1]) (fun _ => True) (fun x => (.tup [], [oRS x.1 (pFail x.2.1 x.2.2.1 x.2.2.2)]))
theorem g_fail_eq (s : List UInt8) (r : RS) (e a : Int) : g_fail [.ptr 0 0, .data (.int .i64 e), .data (.int .i64 a)] [oRS s r] = some (.tup [], [oRS s (pFail r e a)]) := locSpec_eq (x := (s, r, e, a)) trivial fun y h1 h2 => by
  obtain ⟨y1, y2, y3, y4⟩ := y
  simp only [List.cons.injEq, AV.data.injEq, D.int.injEq, true_and, and_true] at h1 h2
  obtain ⟨rfl, rfl⟩ := h1
  obtain ⟨rfl, rfl⟩ := oRS_inj h2
  rfl
theorem f_fail_ok : LocOK Tryz.prog 91 g_fail := by
  have hΓ := Γ0_ok
  refine loc_enc (n := 19) (rs := []) Tryz.func91 (by kernel_rfl) rfl (by kernel_rfl) (by kernel_rfl) ?_
  rintro ⟨s, ⟨a0, o, e0, h⟩, e, a⟩ _ k hz0
  dsimp only [oRS] at hz0 ⊢
  unfold pFail
  dsimp only
  generalize hc : (e0 == 0) = c
  rw [start_frameA (by simp)]; simp only [enumA, enumO, List.length_cons, List.length_nil, Nat.reduceAdd, go_sem]
  cases c
  · repeat (first
    | (apply axJ; (focus ((with_reducible constructor) <;> rfl)))
    | (apply awT mixedOK hΓ (by kernel_rfl); (simp (disch := omega) only [go_sem, ↓reduceIte, hc] <;> with_reducible rfl))
    | ((first | apply awR hΓ | apply awG | apply awH mixedOK hΓ rfl (by kernel_rfl) | apply ovE rfl); (simp (disch := omega) only [go_sem, ↓reduceIte, hc] <;> with_reducible rfl); exact trivial)
    | rfl)
    exact retL_x rfl rfl (Weak.of (by simp) ⟨rfl, trivial⟩ (by simp [TabSub, oRS, enumO, look, Obj.refsOK, refsOKs, AV.refsOK]) rfl)
  · repeat (first
    | (apply axJ; (focus ((with_reducible constructor) <;> rfl)))
    | (apply awT mixedOK hΓ (by kernel_rfl); (simp (disch := omega) only [go_sem, ↓reduceIte, hc] <;> with_reducible rfl))
    | ((first | apply awR hΓ | apply awG | apply awH mixedOK hΓ rfl (by kernel_rfl) | apply ovE rfl); (simp (disch := omega) only [go_sem, ↓reduceIte, hc] <;> with_reducible rfl); exact trivial)
    | rfl)
    exact retL_x rfl rfl (Weak.of (by simp) ⟨rfl, trivial⟩ (by simp [TabSub, oRS, enumO, look, Obj.refsOK, refsOKs, AV.refsOK]) rfl)
theorem call_fail (k n : Nat) (tab : List (Nat × Obj)) (s : List UInt8) (a : Nat) (o e h e1 a1 : Int) : callLoc k ⟨(0, .box [.data (.str s), .data (.int .i64 a), .data (.int .i64 o), .data (.int .i64 e), .data (.int .i64 h)]) :: tab, n⟩ g_fail [.ptr 0 0, .data (.int .i64 e1), .data (.int .i64 a1)] =
    some (.tup [], ⟨(0, oRS s (pFail ⟨a, o, e, h⟩ e1 a1)) :: tab, k⟩) := (callLoc_of (fp := [0]) rfl rfl rfl (g_fail_eq s ⟨a, o, e, h⟩ e1 a1) (Nat.le_refl _)).trans rfl
def pTake (r : RS) (n : Nat) : RS := { r with at' := r.at' + n }
noncomputable def g_take := locSpec (fun x : List UInt8 × RS × List UInt8 => [.ptr 0 0, .data (.str x.2.2)]) (fun x => [oRS x.1 x.2.1]) (fun x => x.2.1.at' ≤ 1099511627776 ∧ x.2.2.length ≤ 1099511627776) (fun x => (.tup [], [oRS x.1 (pTake x.2.1 x.2.2.length)]))
theorem g_take_eq (s : List UInt8) (r : RS) (t : List UInt8) (hd : r.at' ≤ 1099511627776 ∧ t.length ≤ 1099511627776) : g_take [.ptr 0 0, .data (.str t)] [oRS s r] = some (.tup [], [oRS s (pTake r t.length)]) := locSpec_eq (x := (s, r, t)) hd fun y h1 h2 => by
  obtain ⟨y1, y2, y3⟩ := y
  simp only [List.cons.injEq, AV.data.injEq, D.str.injEq, true_and, and_true] at h1 h2
  subst h1
  obtain ⟨rfl, rfl⟩ := oRS_inj h2
  rfl
theorem f_take_ok : LocOK Tryz.prog 117 g_take := by
  have hΓ := Γ0_ok
  refine loc_enc (n := 13) (rs := []) Tryz.func117 (by kernel_rfl) rfl (by kernel_rfl) (by kernel_rfl) ?_
  rintro ⟨s, ⟨a0, o, e0, h⟩, t⟩ ⟨h1, h2⟩ k hz0
  dsimp only [oRS] at hz0 h1 h2 ⊢
  unfold pTake
  dsimp only
  rw [start_frameA (by simp)]; simp only [enumA, enumO, List.length_cons, List.length_nil, Nat.reduceAdd, go_sem]
  repeat (first
    | (apply axJ; (focus ((with_reducible constructor) <;> rfl)))
    | (apply awT mixedOK hΓ (by kernel_rfl); (simp (disch := omega) only [go_sem, ↓reduceIte, dk] <;> with_reducible rfl))
    | ((first | apply awR hΓ | apply awG | apply awH mixedOK hΓ rfl (by kernel_rfl) | apply ovE rfl); (simp (disch := omega) only [go_sem, ↓reduceIte, dk] <;> with_reducible rfl); exact trivial)
    | rfl)
  exact retL_x rfl rfl (Weak.of (by simp) ⟨rfl, trivial⟩ (by simp [TabSub, oRS, enumO, look, Obj.refsOK, refsOKs, AV.refsOK]) rfl)
theorem call_take (k n : Nat) (tab : List (Nat × Obj)) (s : List UInt8) (a : Nat) (o e h : Int) (t : List UInt8) (h1 : a ≤ 1099511627776) (h2 : t.length ≤ 1099511627776) : callLoc k ⟨(0, .box [.data (.str s), .data (.int .i64 a), .data (.int .i64 o), .data (.int .i64 e), .data (.int .i64 h)]) :: tab, n⟩ g_take [.ptr 0 0, .data (.str t)] =
    some (.tup [], ⟨(0, oRS s (pTake ⟨a, o, e, h⟩ t.length)) :: tab, k⟩) := (callLoc_of (fp := [0]) rfl rfl rfl (g_take_eq s ⟨a, o, e, h⟩ t ⟨h1, h2⟩) (Nat.le_refl _)).trans rfl
def tokAt (s : List UInt8) (b : Nat) : List UInt8 :=
  if wordN s b == [] then (match s[b]? with
    | some c => if (c == 43) || ((c == 40) || (c == 41)) then [c] else []
    | none => [])
  else wordN s b
def pPeek (s : List UInt8) (r : RS) : List UInt8 × RS :=
  if (skipN s r.at' == s.length) || (r.e != 0) then ([], { r with at' := skipN s r.at' })
  else if tokAt s (skipN s r.at') == [] then ([], { r with at' := skipN s r.at', e := 4, here := skipN s r.at' })
  else (tokAt s (skipN s r.at'), { r with at' := skipN s r.at' })
def RSok (s : List UInt8) (r : RS) : Prop := s.length ≤ 1099511627776 ∧ r.at' ≤ 1099511627776 ∧ (r.at' ≤ s.length ∨ r.e ≠ 0)
noncomputable def g_peek := locSpec (fun _ : List UInt8 × RS => [.ptr 0 0]) (fun x => [oRS x.1 x.2]) (fun x => RSok x.1 x.2) (fun x => (.data (.str (pPeek x.1 x.2).1), [oRS x.1 (pPeek x.1 x.2).2]))
theorem g_peek_eq (s : List UInt8) (r : RS) (hd : RSok s r) : g_peek [.ptr 0 0] [oRS s r] = some (.data (.str (pPeek s r).1), [oRS s (pPeek s r).2]) := locSpec_eq (x := (s, r)) hd fun y _ h2 => by
  obtain ⟨y1, y2⟩ := y
  simp only [List.cons.injEq, and_true] at h2
  obtain ⟨rfl, rfl⟩ := oRS_inj h2
  rfl
theorem dropW_len (s : List UInt8) : (s.length : Int) - ((s.dropWhile letter).length : Int) = ((s.takeWhile letter).length : Int) := by
  have h : s.length = (s.takeWhile letter).length + (s.dropWhile letter).length := by
    conv => lhs; rw [← List.takeWhile_append_dropWhile (p := letter) (l := s), List.length_append]
  omega
theorem idx3 (c : UInt8) : decide (Lib.indexByte [43, 40, 41] c ≥ 0) = ((c == 43) || ((c == 40) || (c == 41))) := by
  have h : ∀ n : Fin 256, decide (Lib.indexByte [43, 40, 41] (UInt8.ofNat n) ≥ 0) = ((UInt8.ofNat n == 43) || ((UInt8.ofNat n == 40) || (UInt8.ofNat n == 41))) := by decide +kernel
  have := h ⟨c.toNat, c.toNat_lt⟩
  simpa using this
theorem f_peek_ok : LocOK Tryz.prog 90 g_peek := by
  have hΓ := (Γp f_trimL_ok (Γp f_idxByte_ok (Γq f_fail_ok (Γn))))
  refine loc_enc (n := 83) (rs := [.tmp 2]) Tryz.func90 (by kernel_rfl) rfl (by kernel_rfl) (by kernel_rfl) ?_
  rintro ⟨s, ⟨a0, o, e0, h⟩⟩ ⟨hs, ha, hor⟩ k hz0
  dsimp only [oRS] at hz0 hs ha hor ⊢
  simp only [List.length_cons, List.length_nil] at hz0
  generalize hR : pPeek s ⟨a0, o, e0, h⟩ = R
  rw [start_frameA (by simp)]; simp only [enumA, enumO, List.length_cons, List.length_nil, Nat.reduceAdd, go_sem]
  repeat (first
    | (apply axJ; (focus ((with_reducible constructor) <;> rfl)))
    | (apply awT mixedOK hΓ (by kernel_rfl); (simp (disch := omega) only [go_sem, ↓reduceIte, dk] <;> with_reducible rfl))
    | ((first | apply awR hΓ | apply awG | apply awH mixedOK hΓ rfl (by kernel_rfl) | apply ovE rfl); (simp (disch := omega) only [go_sem, ↓reduceIte, dk] <;> with_reducible rfl); exact trivial)
    | rfl)
  refine awp_loop_at (X := Nat) (fun i => (frame 83 [(0, .ptr 0 0)])) (fun i => [(0, .box [.data (.str s), .data (.int .i64 i), .data (.int .i64 o), .data (.int .i64 e0), .data (.int .i64 h)])]) 2
    (fun i => i ≤ 1099511627776 ∧ (i ≤ s.length ∨ e0 ≠ 0) ∧ skipN s i = skipN s a0) (fun i => s.length - i) a0 ⟨ha, hor, rfl⟩ (by rw [hz0]; exact Weak.w) ?_
  rintro i ⟨hi, hior, he⟩
  refine awA ?_
  refine awA ?_
  refine awp_mid (fun _ : Unit => (frame 83 [(0, .ptr 0 0), (26, .data (.bool (isAtI s i 32)))])) (fun _ => [(0, .box [.data (.str s), .data (.int .i64 i), .data (.int .i64 o), .data (.int .i64 e0), .data (.int .i64 h)])]) 24 (fun _ => True) ?_ ?_
  · rw [hz0]
    by_cases hb : i < s.length
    · have hat := isAtI_lt (c := 32) hb
      generalize hy : s[i] = y at hat
      repeat (first
        | (apply axJ; (focus ((with_reducible constructor) <;> rfl)))
        | (apply awT mixedOK hΓ (by kernel_rfl); (simp (disch := omega) only [go_sem, ↓reduceIte, dk, hy] <;> with_reducible rfl))
        | ((first | apply awR hΓ | apply awG | apply awH mixedOK hΓ rfl (by kernel_rfl) | apply ovE rfl); (simp (disch := omega) only [go_sem, ↓reduceIte, dk, hy] <;> with_reducible rfl); exact trivial)
        | rfl)
      exact ⟨(), trivial, Weak.v (by (simp [ConvF, lookV, Conv, ints, hat]; done)) (by (simp (disch := omega) only [TabSub, look, if_pos, if_neg, Obj.refsOK, refsOKs, AV.refsOK, decide_eq_true_eq, Bool.and_true, Bool.and_self, hat] ) <;> ((repeat' apply And.intro) <;> first | exact True.intro | omega | (simp; done) | rfl))⟩
    · have hat := isAtI_ge (s := s) (i := i) (c := 32) (by omega)
      repeat (first
        | (apply axJ; (focus ((with_reducible constructor) <;> rfl)))
        | (apply awT mixedOK hΓ (by kernel_rfl); (simp (disch := omega) only [go_sem, ↓reduceIte, dk] <;> with_reducible rfl))
        | ((first | apply awR hΓ | apply awG | apply awH mixedOK hΓ rfl (by kernel_rfl) | apply ovE rfl); (simp (disch := omega) only [go_sem, ↓reduceIte, dk] <;> with_reducible rfl); exact trivial)
        | rfl)
      exact ⟨(), trivial, Weak.v (by (simp [ConvF, lookV, Conv, ints, hat]; done)) (by (simp (disch := omega) only [TabSub, look, if_pos, if_neg, Obj.refsOK, refsOKs, AV.refsOK, decide_eq_true_eq, Bool.and_true, Bool.and_self, hat] ) <;> ((repeat' apply And.intro) <;> first | exact True.intro | omega | (simp; done) | rfl))⟩
  intro _ _
  cases hq : isAtI s i 32 with
  | true =>
    have hi2 := isAtI_true hq
    rw [isAtI_lt hi2] at hq
    have hy := runN_yes (p := isBl) hi2 hq
    rw [hz0]
    repeat (first
      | (apply axJ; (focus ((with_reducible constructor) <;> rfl)))
      | (apply awT mixedOK hΓ (by kernel_rfl); (simp (disch := omega) only [go_sem, ↓reduceIte, dk] <;> with_reducible rfl))
      | ((first | apply awR hΓ | apply awG | apply awH mixedOK hΓ rfl (by kernel_rfl) | apply ovE rfl); (simp (disch := omega) only [go_sem, ↓reduceIte, dk] <;> with_reducible rfl); exact trivial)
      | rfl)
    exact ⟨i + 1, ⟨by omega, .inl (by omega), hy.symm.trans he⟩, by omega, Weak.w⟩
  | false =>
    have hb : skipN s i = i := by
      rcases Nat.lt_or_ge i s.length with h1 | h1
      · rw [isAtI_lt h1] at hq
        exact runN_no h1 hq
      · exact runN_end h1
    have hR' : pPeek s ⟨a0, o, e0, h⟩ = R := hR
    unfold pPeek at hR'
    dsimp only at hR'
    rw [← he, hb] at hR'
    clear hR he hb hq
    have hcc : (i == s.length) = ((i : Int) == (s.length : Int)) := by rw [Bool.eq_iff_iff]; simp only [beq_iff_eq]; omega
    rw [hcc] at hR'
    rw [hz0]
    cases hc1 : ((i : Int) == (s.length : Int)) with
    | true =>
      rw [hc1] at hR'
      simp only [Bool.true_or, if_true] at hR'
      subst hR'
      repeat (first
        | (apply axJ; (focus ((with_reducible constructor) <;> rfl)))
        | (apply awT mixedOK hΓ (by kernel_rfl); (simp (disch := omega) only [go_sem, ↓reduceIte, dk, hc1] <;> with_reducible rfl))
        | ((first | apply awR hΓ | apply awG | apply awH mixedOK hΓ rfl (by kernel_rfl) | apply ovE rfl); (simp (disch := omega) only [go_sem, ↓reduceIte, dk, hc1] <;> with_reducible rfl); exact trivial)
        | rfl)
      exact retL_x rfl rfl (Weak.of (by simp) ⟨rfl, trivial⟩ (by simp [TabSub, oRS, enumO, look, Obj.refsOK, refsOKs, AV.refsOK]) rfl)
    | false =>
      rw [hc1] at hR'
      cases hc2 : (e0 != 0) with
      | true =>
        rw [hc2] at hR'
        simp only [Bool.false_or, if_true] at hR'
        subst hR'
        repeat (first
          | (apply axJ; (focus ((with_reducible constructor) <;> rfl)))
          | (apply awT mixedOK hΓ (by kernel_rfl); (simp (disch := omega) only [go_sem, ↓reduceIte, dk, hc1, hc2] <;> with_reducible rfl))
          | ((first | apply awR hΓ | apply awG | apply awH mixedOK hΓ rfl (by kernel_rfl) | apply ovE rfl); (simp (disch := omega) only [go_sem, ↓reduceIte, dk, hc1, hc2] <;> with_reducible rfl); exact trivial)
          | rfl)
        exact retL_x rfl rfl (Weak.of (by simp) ⟨rfl, trivial⟩ (by simp [TabSub, oRS, enumO, look, Obj.refsOK, refsOKs, AV.refsOK]) rfl)
      | false =>
        rw [hc2] at hR'
        simp only [Bool.false_or, Bool.false_eq_true, if_false] at hR'
        have hne : i ≠ s.length := fun h => by rw [h] at hc1; simp at hc1
        have he0 : e0 = 0 := by simpa using hc2
        have hlt : i < s.length := by
          rcases hior with h1 | h1
          · omega
          · exact absurd he0 h1
        have hdr : (s.drop i).take (s.length - i) = s.drop i := List.take_of_length_le (by rw [List.length_drop]; omega)
        have hrl : (s.drop i).length = s.length - i := List.length_drop
        have hsb : s[i]? = (s.drop i)[0]? := by rw [List.getElem?_drop]; rfl
        unfold tokAt wordN at hR'
        rw [hsb] at hR'
        obtain ⟨c, r, hr⟩ : ∃ c r, s.drop i = c :: r := by
          cases hd : s.drop i with
          | nil => rw [hd] at hrl; simp at hrl; omega
          | cons c r => exact ⟨c, r, rfl⟩
        have hc0 : (s.drop i)[0]? = some c := by rw [hr]; rfl
        have ht1 : (s.drop i).take 1 = [c] := by rw [hr]; rfl
        clear hr hsb
        generalize hq : s.drop i = q at *
        have hdr2 : (s.drop i).take (s.length - i) = q := by rw [hq]; exact hdr
        clear hdr
        have e1 := g_trimL_eq (s := q) (by omega)
        rw [trimL_eq] at e1
        unfold cutset at e1
        have hd1 := dropW_len q
        have hd2 : q.length = (q.takeWhile letter).length + (q.dropWhile letter).length := by
          conv => lhs; rw [← List.takeWhile_append_dropWhile (p := letter) (l := q), List.length_append]
        have ht : q.take (q.takeWhile letter).length = q.takeWhile letter := (List.prefix_iff_eq_take.1 (List.takeWhile_prefix letter)).symm
        generalize q.takeWhile letter = w at *
        generalize q.dropWhile letter = v at *
        have hc01 : ∀ h : 0 < q.length, q[0]'h = c := fun h => by rw [List.getElem?_eq_getElem h] at hc0; simpa using hc0
        have hql : 0 < q.length := by omega
        cases w with
        | cons b w =>
          have hw : ((b :: w) == []) = false := rfl
          rw [hw] at hR'
          simp only [Bool.false_eq_true, if_false] at hR'
          have hw2 : ((b :: w) == []) = false := rfl
          simp only [hw2, Bool.false_eq_true, if_false] at hR'
          subst hR'
          have hpos : decide (((b :: w).length : Int) > 0) = true := decide_eq_true (by simp only [List.length_cons]; omega)
          generalize b :: w = u at *
          repeat (first
            | (apply axJ; (focus ((with_reducible constructor) <;> rfl)))
            | (apply awT mixedOK hΓ (by kernel_rfl); (simp (disch := omega) only [go_sem, ↓reduceIte, dk, hc1, hc2, hdr2, e1, hd1, hpos, ht, Nat.sub_zero] <;> with_reducible rfl))
            | ((first | apply awR hΓ | apply awG | apply awH mixedOK hΓ rfl (by kernel_rfl) | apply ovE rfl); (simp (disch := omega) only [go_sem, ↓reduceIte, dk, hc1, hc2, hdr2, e1, hd1, hpos, ht, Nat.sub_zero] <;> with_reducible rfl); exact trivial)
            | rfl)
          exact retL_x rfl rfl (Weak.of (by simp) ⟨rfl, trivial⟩ (by simp [TabSub, oRS, enumO, look, Obj.refsOK, refsOKs, AV.refsOK]) rfl)
        | nil =>
          have hw : (([] : List UInt8) == []) = true := rfl
          rw [hw, hc0] at hR'
          simp only [if_true] at hR'
          have hpos : decide ((([] : List UInt8).length : Int) > 0) = false := rfl
          have e2 := g_idxByte_eq (s := [43, 40, 41]) (b := c) (by simp)
          have e3 := idx3 c
          generalize Lib.indexByte [43, 40, 41] c = ix at *
          cases hp : (c == 43 || (c == 40 || c == 41)) with
          | true =>
            rw [hp] at hR' e3
            have hw3 : ([c] == []) = false := rfl
            simp only [if_true, hw3, Bool.false_eq_true, if_false] at hR'
            subst hR'
            repeat (first
              | (apply axJ; (focus ((with_reducible constructor) <;> rfl)))
              | (apply awT mixedOK hΓ (by kernel_rfl); (simp (disch := omega) only [go_sem, ↓reduceIte, dk, hc1, hc2, hdr2, e1, hd1, hpos, Int.reduceToNat, hc01, e2, e3, ht1, Nat.sub_zero] <;> with_reducible rfl))
              | ((first | apply awR hΓ | apply awG | apply awH mixedOK hΓ rfl (by kernel_rfl) | apply ovE rfl); (simp (disch := omega) only [go_sem, ↓reduceIte, dk, hc1, hc2, hdr2, e1, hd1, hpos, Int.reduceToNat, hc01, e2, e3, ht1, Nat.sub_zero] <;> with_reducible rfl); exact trivial)
              | rfl)
            exact retL_x rfl rfl (Weak.of (by simp) ⟨rfl, trivial⟩ (by simp [TabSub, oRS, enumO, look, Obj.refsOK, refsOKs, AV.refsOK]) rfl)
          | false =>
            rw [hp] at hR' e3
            simp only [Bool.false_eq_true, if_false, hw, if_true] at hR'
            subst hR'
            have he0b : (e0 == 0) = true := by rw [he0]; rfl
            repeat (first
              | (apply axJ; (focus ((with_reducible constructor) <;> rfl)))
              | (apply awT mixedOK hΓ (by kernel_rfl); (simp (disch := omega) only [go_sem, ↓reduceIte, dk, hc1, hc2, hdr2, e1, hd1, hpos, Int.reduceToNat, hc01, e2, e3, ↓call_fail, pFail, he0b] <;> with_reducible rfl))
              | ((first | apply awR hΓ | apply awG | apply awH mixedOK hΓ rfl (by kernel_rfl) | apply ovE rfl); (simp (disch := omega) only [go_sem, ↓reduceIte, dk, hc1, hc2, hdr2, e1, hd1, hpos, Int.reduceToNat, hc01, e2, e3, ↓call_fail, pFail, he0b] <;> with_reducible rfl); exact trivial)
              | rfl)
            exact retL_x rfl rfl (Weak.of (by simp) ⟨rfl, trivial⟩ (by simp [TabSub, oRS, enumO, look, Obj.refsOK, refsOKs, AV.refsOK]) rfl)
theorem call_peek (k n : Nat) (tab : List (Nat × Obj)) (s : List UInt8) (a : Nat) (o e h : Int) (hd : RSok s ⟨a, o, e, h⟩) : callLoc k ⟨(0, .box [.data (.str s), .data (.int .i64 a), .data (.int .i64 o), .data (.int .i64 e), .data (.int .i64 h)]) :: tab, n⟩ g_peek [.ptr 0 0] =
    some (.data (.str (pPeek s ⟨a, o, e, h⟩).1), ⟨(0, oRS s (pPeek s ⟨a, o, e, h⟩).2) :: tab, k⟩) := (callLoc_of (fp := [0]) rfl rfl rfl (g_peek_eq s ⟨a, o, e, h⟩ hd) (Nat.le_refl _)).trans rfl
end Go.Ab
namespace Go.Ab
open Go Go.RowKit Go.Proofs
set_option maxRecDepth 10000
set_option maxHeartbeats 8000000
theorem skipN_mono (s : List UInt8) (a : Nat) : a ≤ skipN s a ∧ skipN s a ≤ max a s.length := by
  rcases Nat.lt_or_ge a s.length with h | h
  · have h2 : a ≤ skipN s a ∧ skipN s a ≤ s.length := runN_le (by omega)
    exact ⟨h2.1, by omega⟩
  · rw [show skipN s a = a from runN_end h]; omega
theorem skipN_idem (s : List UInt8) (a : Nat) : skipN s (skipN s a) = skipN s a := by
  unfold skipN runN
  rw [← List.drop_drop]
  have : ((s.drop a).drop ((s.drop a).takeWhile isBl).length).takeWhile isBl = [] := by
    generalize s.drop a = q
    have : q.drop (q.takeWhile isBl).length = q.dropWhile isBl := by
      conv => lhs; rw [← List.takeWhile_append_dropWhile (p := isBl) (l := q)]
      rw [show (List.takeWhile isBl (List.takeWhile isBl q ++ List.dropWhile isBl q)) = q.takeWhile isBl by rw [List.takeWhile_append_dropWhile]]
      exact List.drop_left ..
    rw [this]
    induction q with
    | nil => rfl
    | cons b q ih =>
      rw [List.dropWhile_cons]
      split
      · exact ih (by
          rename_i hb
          rw [List.takeWhile_cons, if_pos hb, List.dropWhile_cons, if_pos hb] at this
          simpa using this)
      · rename_i hb
        rw [List.takeWhile_cons, if_neg hb]
  rw [this]
  simp
theorem tokAt_len (s : List UInt8) (b : Nat) (h : b ≤ s.length) : b + (tokAt s b).length ≤ s.length := by
  unfold tokAt
  split
  · split
    · rename_i c hc
      have := (List.getElem?_eq_some_iff.1 hc).1
      split <;> simp <;> omega
    · simp; omega
  · exact wordN_le s b h
structure PeekOK (s : List UInt8) (r : RS) (t : List UInt8) (r' : RS) : Prop where
  at1 : r'.at' = skipN s r.at'
  op1 : r'.op = r.op
  er : r.e ≠ 0 → t = [] ∧ r'.e = r.e ∧ r'.here = r.here
  ok : r'.e = 0 → r.e = 0 ∧ r'.here = r.here
  tl : t ≠ [] → r'.e = 0 ∧ r'.at' + t.length ≤ s.length
theorem peek_ok {s : List UInt8} {r : RS} (hr : r.at' ≤ s.length ∨ r.e ≠ 0) : PeekOK s r (pPeek s r).1 (pPeek s r).2 := by
  unfold pPeek
  have h1 := skipN_mono s r.at'
  split
  · rename_i h
    refine ⟨rfl, rfl, fun he => ⟨rfl, rfl, rfl⟩, fun he => ⟨he, rfl⟩, fun he => absurd rfl he⟩
  · rename_i h
    simp only [Bool.or_eq_true, not_or, beq_iff_eq, bne_iff_ne, ne_eq, Classical.not_not] at h
    have hle : r.at' ≤ s.length := by
      rcases hr with h2 | h2
      · exact h2
      · exact absurd h.2 h2
    split
    · exact ⟨rfl, rfl, fun he => absurd h.2 he, fun he => absurd (show (4 : Int) = 0 from he) (by decide), fun he => absurd rfl he⟩
    · exact ⟨rfl, rfl, fun he => absurd h.2 he, fun _ => ⟨h.2, rfl⟩, fun _ => ⟨h.2, tokAt_len s (skipN s r.at') (by omega)⟩⟩
def pName (s : List UInt8) (r : RS) : List UInt8 × RS :=
  if ((pPeek s r).1 == []) || ((pPeek s r).1 == [43]) || ((pPeek s r).1 == [40]) || ((pPeek s r).1 == [41]) then ([], pFail (pPeek s r).2 4 (pPeek s r).2.at')
  else if !(isNameB (pPeek s r).1) then ([], pFail (pPeek s r).2 2 (pPeek s r).2.at')
  else ((pPeek s r).1, pTake (pPeek s r).2 (pPeek s r).1.length)
def Inv (s : List UInt8) (r : RS) : Prop := s.length ≤ 1024 ∧ r.at' ≤ 4096 ∧ (r.at' ≤ s.length ∨ r.e ≠ 0)
theorem Inv.rs {s : List UInt8} {r : RS} (h : Inv s r) : RSok s r := ⟨by have := h.1; omega, by have := h.2.1; omega, h.2.2⟩
noncomputable def g_pname := locSpec (fun _ : List UInt8 × RS => [.ptr 0 0]) (fun x => [oRS x.1 x.2]) (fun x => Inv x.1 x.2) (fun x => (.data (.str (pName x.1 x.2).1), [oRS x.1 (pName x.1 x.2).2]))
theorem g_pname_eq (s : List UInt8) (r : RS) (hd : Inv s r) : g_pname [.ptr 0 0] [oRS s r] = some (.data (.str (pName s r).1), [oRS s (pName s r).2]) := locSpec_eq (x := (s, r)) hd fun y _ h2 => by
  obtain ⟨y1, y2⟩ := y
  simp only [List.cons.injEq, and_true] at h2
  obtain ⟨rfl, rfl⟩ := oRS_inj h2
  rfl
theorem f_pname_ok : LocOK Tryz.prog 119 g_pname := by
  have hΓ := (Γp f_isName_ok (Γq f_peek_ok (Γq f_fail_ok (Γq f_take_ok (Γn)))))
  refine loc_enc (n := 41) (rs := [.tmp 2]) Tryz.func119 (by kernel_rfl) rfl (by kernel_rfl) (by kernel_rfl) ?_
  rintro ⟨s, ⟨a, o, e, h⟩⟩ hI k hz0
  dsimp only [oRS] at hz0 ⊢
  simp only [List.length_cons, List.length_nil] at hz0
  have c1 := fun k n tab => call_peek k n tab s a o e h hI.rs
  have hp := peek_ok (s := s) (r := ⟨a, o, e, h⟩) hI.2.2
  obtain ⟨hs, ha, hor⟩ := hI
  dsimp only at hs ha hor
  generalize hR : pName s ⟨a, o, e, h⟩ = R
  unfold pName at hR
  generalize pPeek s ⟨a, o, e, h⟩ = P at *
  obtain ⟨t, ⟨a1, o1, e1, h1⟩⟩ := P
  dsimp only at hp hR c1
  have hm := skipN_mono s a
  have hat := hp.at1
  dsimp only at hat ha
  have htl := hp.tl
  dsimp only at htl
  have c2 := fun k n tab => call_fail k n tab s a1 o1 e1 h1 4 a1
  have c3 := fun k n tab => call_fail k n tab s a1 o1 e1 h1 2 a1
  have ha1 : a1 ≤ 4096 := by omega
  by_cases ht0 : t = []
  · subst ht0
    have hb : (([] : List UInt8) == []) = true := rfl
    simp only [hb, Bool.true_or, if_true] at hR
    subst hR
    rw [start_frameA (by simp)]; simp only [enumA, enumO, List.length_cons, List.length_nil, Nat.reduceAdd, go_sem]
    repeat (first
      | (apply axJ; (focus ((with_reducible constructor) <;> rfl)))
      | (apply awT mixedOK hΓ (by kernel_rfl); (simp (disch := omega) only [go_sem, ↓reduceIte, dk, c1, c2, hb] <;> with_reducible rfl))
      | ((first | apply awR hΓ | apply awG | apply awH mixedOK hΓ rfl (by kernel_rfl) | apply ovE rfl); (simp (disch := omega) only [go_sem, ↓reduceIte, dk, c1, c2, hb] <;> with_reducible rfl); exact trivial)
      | rfl)
    exact retL_x rfl rfl (Weak.of (by simp) ⟨rfl, trivial⟩ (by simp [TabSub, oRS, enumO, look, Obj.refsOK, refsOKs, AV.refsOK]) rfl)
  · obtain ⟨he1, hlen⟩ := htl ht0
    have hb : (t == []) = false := by simpa using ht0
    have ein := g_isName_eq (s := t) (by omega)
    have c4 := fun k n tab => call_take k n tab s a1 o1 e1 h1 t (by omega) (by omega)
    generalize hb1 : (t == [43]) = b1 at *
    generalize hb2 : (t == [40]) = b2 at *
    generalize hb3 : (t == [41]) = b3 at *
    generalize isNameB t = b4 at *
    simp only [hb, Bool.false_or] at hR
    rw [start_frameA (by simp)]; simp only [enumA, enumO, List.length_cons, List.length_nil, Nat.reduceAdd, go_sem]
    (cases b1; (focus (cases b2; (focus (cases b3; (focus (cases b4; (focus ((repeat (first | (apply axJ; (focus ((with_reducible constructor) <;> rfl))) | (apply awT mixedOK hΓ (by kernel_rfl); (simp (disch := omega) only [go_sem, ↓reduceIte, dk, c1, hb, hb1, hb2, hb3, ein, c2, c3, c4] <;> with_reducible rfl)) | ((first | apply awR hΓ | apply awG | apply awH mixedOK hΓ rfl (by kernel_rfl) | apply ovE rfl); (simp (disch := omega) only [go_sem, ↓reduceIte, dk, c1, hb, hb1, hb2, hb3, ein, c2, c3, c4] <;> with_reducible rfl); exact trivial) | rfl)); ((subst hR; exact retL_x rfl rfl (Weak.of (by simp) ⟨rfl, trivial⟩ (by simp [TabSub, oRS, enumO, look, Obj.refsOK, refsOKs, AV.refsOK]) rfl))))); (focus ((repeat (first | (apply axJ; (focus ((with_reducible constructor) <;> rfl))) | (apply awT mixedOK hΓ (by kernel_rfl); (simp (disch := omega) only [go_sem, ↓reduceIte, dk, c1, hb, hb1, hb2, hb3, ein, c2, c3, c4] <;> with_reducible rfl)) | ((first | apply awR hΓ | apply awG | apply awH mixedOK hΓ rfl (by kernel_rfl) | apply ovE rfl); (simp (disch := omega) only [go_sem, ↓reduceIte, dk, c1, hb, hb1, hb2, hb3, ein, c2, c3, c4] <;> with_reducible rfl); exact trivial) | rfl)); ((subst hR; exact retL_x rfl rfl (Weak.of (by simp) ⟨rfl, trivial⟩ (by simp [TabSub, oRS, enumO, look, Obj.refsOK, refsOKs, AV.refsOK]) rfl))))))); (focus ((repeat (first | (apply axJ; (focus ((with_reducible constructor) <;> rfl))) | (apply awT mixedOK hΓ (by kernel_rfl); (simp (disch := omega) only [go_sem, ↓reduceIte, dk, c1, hb, hb1, hb2, hb3, ein, c2, c3, c4] <;> with_reducible rfl)) | ((first | apply awR hΓ | apply awG | apply awH mixedOK hΓ rfl (by kernel_rfl) | apply ovE rfl); (simp (disch := omega) only [go_sem, ↓reduceIte, dk, c1, hb, hb1, hb2, hb3, ein, c2, c3, c4] <;> with_reducible rfl); exact trivial) | rfl)); ((subst hR; exact retL_x rfl rfl (Weak.of (by simp) ⟨rfl, trivial⟩ (by simp [TabSub, oRS, enumO, look, Obj.refsOK, refsOKs, AV.refsOK]) rfl))))))); (focus ((repeat (first | (apply axJ; (focus ((with_reducible constructor) <;> rfl))) | (apply awT mixedOK hΓ (by kernel_rfl); (simp (disch := omega) only [go_sem, ↓reduceIte, dk, c1, hb, hb1, hb2, hb3, ein, c2, c3, c4] <;> with_reducible rfl)) | ((first | apply awR hΓ | apply awG | apply awH mixedOK hΓ rfl (by kernel_rfl) | apply ovE rfl); (simp (disch := omega) only [go_sem, ↓reduceIte, dk, c1, hb, hb1, hb2, hb3, ein, c2, c3, c4] <;> with_reducible rfl); exact trivial) | rfl)); ((subst hR; exact retL_x rfl rfl (Weak.of (by simp) ⟨rfl, trivial⟩ (by simp [TabSub, oRS, enumO, look, Obj.refsOK, refsOKs, AV.refsOK]) rfl))))))); (focus ((repeat (first | (apply axJ; (focus ((with_reducible constructor) <;> rfl))) | (apply awT mixedOK hΓ (by kernel_rfl); (simp (disch := omega) only [go_sem, ↓reduceIte, dk, c1, hb, hb1, hb2, hb3, ein, c2, c3, c4] <;> with_reducible rfl)) | ((first | apply awR hΓ | apply awG | apply awH mixedOK hΓ rfl (by kernel_rfl) | apply ovE rfl); (simp (disch := omega) only [go_sem, ↓reduceIte, dk, c1, hb, hb1, hb2, hb3, ein, c2, c3, c4] <;> with_reducible rfl); exact trivial) | rfl)); ((subst hR; exact retL_x rfl rfl (Weak.of (by simp) ⟨rfl, trivial⟩ (by simp [TabSub, oRS, enumO, look, Obj.refsOK, refsOKs, AV.refsOK]) rfl))))))
theorem call_pname (k n : Nat) (tab : List (Nat × Obj)) (s : List UInt8) (a : Nat) (o e h : Int) (hd : Inv s ⟨a, o, e, h⟩) : callLoc k ⟨(0, .box [.data (.str s), .data (.int .i64 a), .data (.int .i64 o), .data (.int .i64 e), .data (.int .i64 h)]) :: tab, n⟩ g_pname [.ptr 0 0] =
    some (.data (.str (pName s ⟨a, o, e, h⟩).1), ⟨(0, oRS s (pName s ⟨a, o, e, h⟩).2) :: tab, k⟩) := (callLoc_of (fp := [0]) rfl rfl rfl (g_pname_eq s ⟨a, o, e, h⟩ hd) (Nat.le_refl _)).trans rfl
end Go.Ab
