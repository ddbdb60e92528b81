/-
  One text of the proof (own work): contracts of functions of the program, by the abstract machine.
-/
import Derived.Test.YtabenhkajabaeaaDoorX23
import Derived.Test.YtabenhkajabaeaaDoorX33
set_option linter.unusedVariables false
set_option linter.unusedSimpArgs false
namespace Go.Ab
open Go Go.RowKit
noncomputable def locSpec {X : Type} (enc : X → List AV) (eno : X → List Obj) (dom : X → Prop) (out : X → AV × List Obj) (xs : List AV) (os : List Obj) : Option (AV × List Obj) :=
  open Classical in if h : ∃ x, enc x = xs ∧ eno x = os ∧ dom x then some (out h.choose) else none
theorem locSpec_eq {X : Type} {enc : X → List AV} {eno : X → List Obj} {dom : X → Prop} {out : X → AV × List Obj} {x : X} (hx : dom x) (inj : ∀ y, enc y = enc x → eno y = eno x → out y = out x) : locSpec enc eno dom out (enc x) (eno x) = some (out x) := by
  have h : ∃ y, enc y = enc x ∧ eno y = eno x ∧ dom y := ⟨x, rfl, rfl, hx⟩
  unfold locSpec
  rw [dif_pos h, inj _ h.choose_spec.1 h.choose_spec.2.1]
theorem loc_enc {P : Program} {X : Type} {enc : X → List AV} {eno : X → List Obj} {dom : X → Prop} {out : X → AV × List Obj} {f : FuncId} {fn : Func} {code : Code} {n : Nat} {rs : List ResultVar} (hf : P.funcs[f]? = some fn) (hname : (fn.name == "runtime.NumGoroutine") = false)
    (hb : fn.body = some code) (hn : fn.ntmps = n) (hrs : fn.results.toList = rs)
    (h : ∀ x, dom x → ∀ c : Ctx, c.base = (eno x).length → awp P c code (RetL P rs (eno x).length (out x).1 (out x).2) (enc x ++ List.replicate (n - (enc x).length) .junk) ⟨enumO 0 (eno x), (eno x).length⟩) : LocOK P f (locSpec enc eno dom out) := by
  refine loc_of_awp hf hname hb hn hrs fun xs os r os' hg _ c hcb => ?_
  unfold locSpec at hg
  split at hg
  · rename_i hh
    obtain ⟨h1, h2, h3⟩ := hh.choose_spec
    simp only [Option.some.injEq] at hg
    have := h _ h3 c (by rw [h2]; exact hcb)
    rw [hg, h1, h2] at this
    exact this
  · cases hg
theorem retL_x {P : Program} {rs : List ResultVar} {b : Nat} {e : Exit} {sl : List AV} {H : Heap} {r x : AV} {os : List Obj} (he : Exit.over e = true) (hx : resA P rs sl H = some x) (hw : Weak b [x] H [r] ⟨enumO 0 os, os.length⟩) : RetL P rs b r os e sl H := ⟨he, x, hx, hw⟩
end Go.Ab
namespace Go.Ab
open Go Go.RowKit Go.Proofs
set_option maxRecDepth 10000
set_option maxHeartbeats 8000000
structure RS where
  at' : Nat
  op : Int
  e : Int
  here : Int
@[go_sem] def oRS (s : List UInt8) (r : RS) : Obj := .box [.data (.str s), .data (.int .i64 r.at'), .data (.int .i64 r.op), .data (.int .i64 r.e), .data (.int .i64 r.here)]
theorem oRS_inj {s s' : List UInt8} {r r' : RS} (h : oRS s r = oRS s' r') : s = s' ∧ r = r' := by
  cases r; cases r'
  simp only [oRS, Obj.box.injEq, List.cons.injEq, AV.data.injEq, D.str.injEq, D.int.injEq, true_and, and_true, Int.natCast_inj] at h
  obtain ⟨rfl, rfl, rfl, rfl, rfl⟩ := h
  exact ⟨rfl, rfl⟩
def pFail (r : RS) (e a : Int) : RS := if r.e == 0 then { r with e := e, here := a } else r
noncomputable def g_fail := locSpec (fun x : List UInt8 × RS × Int × Int => [.ptr 0 0, .data (i64 x.2.2.1), .data (i64 x.2.2.2)]) (fun x => [oRS x.1 x.2.1]) (fun _ => True) (fun x => (.tup [], [oRS x.1 (pFail x.2.1 x.2.2.1 x.2.2.2)]))
theorem g_fail_eq (s : List UInt8) (r : RS) (e a : Int) : g_fail [.ptr 0 0, .data (.int .i64 e), .data (.int .i64 a)] [oRS s r] = some (.tup [], [oRS s (pFail r e a)]) := locSpec_eq (x := (s, r, e, a)) trivial fun y h1 h2 => by
  obtain ⟨y1, y2, y3, y4⟩ := y
  simp only [List.cons.injEq, AV.data.injEq, D.int.injEq, true_and, and_true] at h1 h2
  obtain ⟨rfl, rfl⟩ := h1
  obtain ⟨rfl, rfl⟩ := oRS_inj h2
  rfl
theorem f_fail_ok : LocOK Tryd.prog 32 g_fail := by
  have hΓ := Γ0_ok
  refine loc_enc (n := 19) (rs := []) Tryd.func32 (by kernel_rfl) rfl (by kernel_rfl) (by kernel_rfl) ?_
  rintro ⟨s, ⟨a0, o, e0, h⟩, e, a⟩ _ k hz0
  dsimp only [oRS] at hz0 ⊢
  unfold pFail
  dsimp only
  generalize hc : (e0 == 0) = c
  rw [start_frameA (by simp)]; simp only [enumA, enumO, List.length_cons, List.length_nil, Nat.reduceAdd, go_sem]
  cases c
  · repeat (first
    | (apply axJ; (focus ((with_reducible constructor) <;> rfl)))
    | (apply awT mixedOK hΓ (by kernel_rfl); (simp (disch := omega) only [go_sem, ↓reduceIte, hc] <;> with_reducible rfl))
    | ((first | apply awR hΓ | apply awG | apply awH mixedOK hΓ rfl (by kernel_rfl) | apply ovE rfl); (simp (disch := omega) only [go_sem, ↓reduceIte, hc] <;> with_reducible rfl); exact trivial)
    | rfl)
    exact retL_x rfl rfl (Weak.of (by simp) ⟨rfl, trivial⟩ (by simp [TabSub, oRS, enumO, look, Obj.refsOK, refsOKs, AV.refsOK]) rfl)
  · repeat (first
    | (apply axJ; (focus ((with_reducible constructor) <;> rfl)))
    | (apply awT mixedOK hΓ (by kernel_rfl); (simp (disch := omega) only [go_sem, ↓reduceIte, hc] <;> with_reducible rfl))
    | ((first | apply awR hΓ | apply awG | apply awH mixedOK hΓ rfl (by kernel_rfl) | apply ovE rfl); (simp (disch := omega) only [go_sem, ↓reduceIte, hc] <;> with_reducible rfl); exact trivial)
    | rfl)
    exact retL_x rfl rfl (Weak.of (by simp) ⟨rfl, trivial⟩ (by simp [TabSub, oRS, enumO, look, Obj.refsOK, refsOKs, AV.refsOK]) rfl)
theorem call_fail (k n : Nat) (tab : List (Nat × Obj)) (s : List UInt8) (a : Nat) (o e h e1 a1 : Int) : callLoc k ⟨(0, .box [.data (.str s), .data (.int .i64 a), .data (.int .i64 o), .data (.int .i64 e), .data (.int .i64 h)]) :: tab, n⟩ g_fail [.ptr 0 0, .data (.int .i64 e1), .data (.int .i64 a1)] =
    some (.tup [], ⟨(0, oRS s (pFail ⟨a, o, e, h⟩ e1 a1)) :: tab, k⟩) := (callLoc_of (fp := [0]) rfl rfl rfl (g_fail_eq s ⟨a, o, e, h⟩ e1 a1) (Nat.le_refl _)).trans rfl
def pTake (r : RS) (n : Nat) : RS := { r with at' := r.at' + n }
noncomputable def g_take := locSpec (fun x : List UInt8 × RS × List UInt8 => [.ptr 0 0, .data (.str x.2.2)]) (fun x => [oRS x.1 x.2.1]) (fun x => x.2.1.at' ≤ 1099511627776 ∧ x.2.2.length ≤ 1099511627776) (fun x => (.tup [], [oRS x.1 (pTake x.2.1 x.2.2.length)]))
theorem g_take_eq (s : List UInt8) (r : RS) (t : List UInt8) (hd : r.at' ≤ 1099511627776 ∧ t.length ≤ 1099511627776) : g_take [.ptr 0 0, .data (.str t)] [oRS s r] = some (.tup [], [oRS s (pTake r t.length)]) := locSpec_eq (x := (s, r, t)) hd fun y h1 h2 => by
  obtain ⟨y1, y2, y3⟩ := y
  simp only [List.cons.injEq, AV.data.injEq, D.str.injEq, true_and, and_true] at h1 h2
  subst h1
  obtain ⟨rfl, rfl⟩ := oRS_inj h2
  rfl
theorem f_take_ok : LocOK Tryd.prog 51 g_take := by
  have hΓ := Γ0_ok
  refine loc_enc (n := 13) (rs := []) Tryd.func51 (by kernel_rfl) rfl (by kernel_rfl) (by kernel_rfl) ?_
  rintro ⟨s, ⟨a0, o, e0, h⟩, t⟩ ⟨h1, h2⟩ k hz0
  dsimp only [oRS] at hz0 h1 h2 ⊢
  unfold pTake
  dsimp only
  rw [start_frameA (by simp)]; simp only [enumA, enumO, List.length_cons, List.length_nil, Nat.reduceAdd, go_sem]
  repeat (first
    | (apply axJ; (focus ((with_reducible constructor) <;> rfl)))
    | (apply awT mixedOK hΓ (by kernel_rfl); (simp (disch := omega) only [go_sem, ↓reduceIte, dk] <;> with_reducible rfl))
    | ((first | apply awR hΓ | apply awG | apply awH mixedOK hΓ rfl (by kernel_rfl) | apply ovE rfl); (simp (disch := omega) only [go_sem, ↓reduceIte, dk] <;> with_reducible rfl); exact trivial)
    | rfl)
  exact retL_x rfl rfl (Weak.of (by simp) ⟨rfl, trivial⟩ (by simp [TabSub, oRS, enumO, look, Obj.refsOK, refsOKs, AV.refsOK]) rfl)
theorem call_take (k n : Nat) (tab : List (Nat × Obj)) (s : List UInt8) (a : Nat) (o e h : Int) (t : List UInt8) (h1 : a ≤ 1099511627776) (h2 : t.length ≤ 1099511627776) : callLoc k ⟨(0, .box [.data (.str s), .data (.int .i64 a), .data (.int .i64 o), .data (.int .i64 e), .data (.int .i64 h)]) :: tab, n⟩ g_take [.ptr 0 0, .data (.str t)] =
    some (.tup [], ⟨(0, oRS s (pTake ⟨a, o, e, h⟩ t.length)) :: tab, k⟩) := (callLoc_of (fp := [0]) rfl rfl rfl (g_take_eq s ⟨a, o, e, h⟩ t ⟨h1, h2⟩) (Nat.le_refl _)).trans rfl
def tokAt (s : List UInt8) (b : Nat) : List UInt8 :=
  if wordN s b == [] then (match s[b]? with
    | some c => if (c == 43) || ((c == 40) || (c == 41)) then [c] else []
    | none => [])
  else wordN s b
def pPeek (s : List UInt8) (r : RS) : List UInt8 × RS :=
  if (skipN s r.at' == s.length) || (r.e != 0) then ([], { r with at' := skipN s r.at' })
  else if tokAt s (skipN s r.at') == [] then ([], { r with at' := skipN s r.at', e := 4, here := skipN s r.at' })
  else (tokAt s (skipN s r.at'), { r with at' := skipN s r.at' })
def RSok (s : List UInt8) (r : RS) : Prop := s.length ≤ 1099511627776 ∧ r.at' ≤ 1099511627776 ∧ (r.at' ≤ s.length ∨ r.e ≠ 0)
noncomputable def g_peek := locSpec (fun _ : List UInt8 × RS => [.ptr 0 0]) (fun x => [oRS x.1 x.2]) (fun x => RSok x.1 x.2) (fun x => (.data (.str (pPeek x.1 x.2).1), [oRS x.1 (pPeek x.1 x.2).2]))
theorem g_peek_eq (s : List UInt8) (r : RS) (hd : RSok s r) : g_peek [.ptr 0 0] [oRS s r] = some (.data (.str (pPeek s r).1), [oRS s (pPeek s r).2]) := locSpec_eq (x := (s, r)) hd fun y _ h2 => by
  obtain ⟨y1, y2⟩ := y
  simp only [List.cons.injEq, and_true] at h2
  obtain ⟨rfl, rfl⟩ := oRS_inj h2
  rfl
theorem dropW_len (s : List UInt8) : (s.length : Int) - ((s.dropWhile letter).length : Int) = ((s.takeWhile letter).length : Int) := by
  have h : s.length = (s.takeWhile letter).length + (s.dropWhile letter).length := by
    conv => lhs; rw [← List.takeWhile_append_dropWhile (p := letter) (l := s), List.length_append]
  omega
theorem idx3 (c : UInt8) : decide (Lib.indexByte [43, 40, 41] c ≥ 0) = ((c == 43) || ((c == 40) || (c == 41))) := by
  have h : ∀ n : Fin 256, decide (Lib.indexByte [43, 40, 41] (UInt8.ofNat n) ≥ 0) = ((UInt8.ofNat n == 43) || ((UInt8.ofNat n == 40) || (UInt8.ofNat n == 41))) := by decide +kernel
  have := h ⟨c.toNat, c.toNat_lt⟩
  simpa using this
theorem f_peek_ok : LocOK Tryd.prog 31 g_peek := by
  have hΓ := (Γp f_trimL_ok (Γp f_idxByte_ok (Γq f_fail_ok (Γn))))
  refine loc_enc (n := 83) (rs := [.tmp 2]) Tryd.func31 (by kernel_rfl) rfl (by kernel_rfl) (by kernel_rfl) ?_
  rintro ⟨s, ⟨a0, o, e0, h⟩⟩ ⟨hs, ha, hor⟩ k hz0
  dsimp only [oRS] at hz0 hs ha hor ⊢
  simp only [List.length_cons, List.length_nil] at hz0
  generalize hR : pPeek s ⟨a0, o, e0, h⟩ = R
  rw [start_frameA (by simp)]; simp only [enumA, enumO, List.length_cons, List.length_nil, Nat.reduceAdd, go_sem]
  repeat (first
    | (apply axJ; (focus ((with_reducible constructor) <;> rfl)))
    | (apply awT mixedOK hΓ (by kernel_rfl); (simp (disch := omega) only [go_sem, ↓reduceIte, dk] <;> with_reducible rfl))
    | ((first | apply awR hΓ | apply awG | apply awH mixedOK hΓ rfl (by kernel_rfl) | apply ovE rfl); (simp (disch := omega) only [go_sem, ↓reduceIte, dk] <;> with_reducible rfl); exact trivial)
    | rfl)
  refine awp_loop_at (X := Nat) (fun i => (frame 83 [(0, .ptr 0 0)])) (fun i => [(0, .box [.data (.str s), .data (.int .i64 i), .data (.int .i64 o), .data (.int .i64 e0), .data (.int .i64 h)])]) 2
    (fun i => i ≤ 1099511627776 ∧ (i ≤ s.length ∨ e0 ≠ 0) ∧ skipN s i = skipN s a0) (fun i => s.length - i) a0 ⟨ha, hor, rfl⟩ (by rw [hz0]; exact Weak.w) ?_
  rintro i ⟨hi, hior, he⟩
  refine awA ?_
  refine awA ?_
  refine awp_mid (fun _ : Unit => (frame 83 [(0, .ptr 0 0), (26, .data (.bool (isAtI s i 32)))])) (fun _ => [(0, .box [.data (.str s), .data (.int .i64 i), .data (.int .i64 o), .data (.int .i64 e0), .data (.int .i64 h)])]) 24 (fun _ => True) ?_ ?_
  · rw [hz0]
    by_cases hb : i < s.length
    · have hat := isAtI_lt (c := 32) hb
      generalize hy : s[i] = y at hat
      repeat (first
        | (apply axJ; (focus ((with_reducible constructor) <;> rfl)))
        | (apply awT mixedOK hΓ (by kernel_rfl); (simp (disch := omega) only [go_sem, ↓reduceIte, dk, hy] <;> with_reducible rfl))
        | ((first | apply awR hΓ | apply awG | apply awH mixedOK hΓ rfl (by kernel_rfl) | apply ovE rfl); (simp (disch := omega) only [go_sem, ↓reduceIte, dk, hy] <;> with_reducible rfl); exact trivial)
        | rfl)
      exact ⟨(), trivial, Weak.v (by (simp [ConvF, lookV, Conv, ints, hat]; done)) (by (simp (disch := omega) only [TabSub, look, if_pos, if_neg, Obj.refsOK, refsOKs, AV.refsOK, decide_eq_true_eq, Bool.and_true, Bool.and_self, hat] ) <;> ((repeat' apply And.intro) <;> first | exact True.intro | omega | (simp; done) | rfl))⟩
    · have hat := isAtI_ge (s := s) (i := i) (c := 32) (by omega)
      repeat (first
        | (apply axJ; (focus ((with_reducible constructor) <;> rfl)))
        | (apply awT mixedOK hΓ (by kernel_rfl); (simp (disch := omega) only [go_sem, ↓reduceIte, dk] <;> with_reducible rfl))
        | ((first | apply awR hΓ | apply awG | apply awH mixedOK hΓ rfl (by kernel_rfl) | apply ovE rfl); (simp (disch := omega) only [go_sem, ↓reduceIte, dk] <;> with_reducible rfl); exact trivial)
        | rfl)
      exact ⟨(), trivial, Weak.v (by (simp [ConvF, lookV, Conv, ints, hat]; done)) (by (simp (disch := omega) only [TabSub, look, if_pos, if_neg, Obj.refsOK, refsOKs, AV.refsOK, decide_eq_true_eq, Bool.and_true, Bool.and_self, hat] ) <;> ((repeat' apply And.intro) <;> first | exact True.intro | omega | (simp; done) | rfl))⟩
  intro _ _
  cases hq : isAtI s i 32 with
  | true =>
    have hi2 := isAtI_true hq
    rw [isAtI_lt hi2] at hq
    have hy := runN_yes (p := isBl) hi2 hq
    rw [hz0]
    repeat (first
      | (apply axJ; (focus ((with_reducible constructor) <;> rfl)))
      | (apply awT mixedOK hΓ (by kernel_rfl); (simp (disch := omega) only [go_sem, ↓reduceIte, dk] <;> with_reducible rfl))
      | ((first | apply awR hΓ | apply awG | apply awH mixedOK hΓ rfl (by kernel_rfl) | apply ovE rfl); (simp (disch := omega) only [go_sem, ↓reduceIte, dk] <;> with_reducible rfl); exact trivial)
      | rfl)
    exact ⟨i + 1, ⟨by omega, .inl (by omega), hy.symm.trans he⟩, by omega, Weak.w⟩
  | false =>
    have hb : skipN s i = i := by
      rcases Nat.lt_or_ge i s.length with h1 | h1
      · rw [isAtI_lt h1] at hq
        exact runN_no h1 hq
      · exact runN_end h1
    have hR' : pPeek s ⟨a0, o, e0, h⟩ = R := hR
    unfold pPeek at hR'
    dsimp only at hR'
    rw [← he, hb] at hR'
    clear hR he hb hq
    have hcc : (i == s.length) = ((i : Int) == (s.length : Int)) := by rw [Bool.eq_iff_iff]; simp only [beq_iff_eq]; omega
    rw [hcc] at hR'
    rw [hz0]
    cases hc1 : ((i : Int) == (s.length : Int)) with
    | true =>
      rw [hc1] at hR'
      simp only [Bool.true_or, if_true] at hR'
      subst hR'
      repeat (first
        | (apply axJ; (focus ((with_reducible constructor) <;> rfl)))
        | (apply awT mixedOK hΓ (by kernel_rfl); (simp (disch := omega) only [go_sem, ↓reduceIte, dk, hc1] <;> with_reducible rfl))
        | ((first | apply awR hΓ | apply awG | apply awH mixedOK hΓ rfl (by kernel_rfl) | apply ovE rfl); (simp (disch := omega) only [go_sem, ↓reduceIte, dk, hc1] <;> with_reducible rfl); exact trivial)
        | rfl)
      exact retL_x rfl rfl (Weak.of (by simp) ⟨rfl, trivial⟩ (by simp [TabSub, oRS, enumO, look, Obj.refsOK, refsOKs, AV.refsOK]) rfl)
    | false =>
      rw [hc1] at hR'
      cases hc2 : (e0 != 0) with
      | true =>
        rw [hc2] at hR'
        simp only [Bool.false_or, if_true] at hR'
        subst hR'
        repeat (first
          | (apply axJ; (focus ((with_reducible constructor) <;> rfl)))
          | (apply awT mixedOK hΓ (by kernel_rfl); (simp (disch := omega) only [go_sem, ↓reduceIte, dk, hc1, hc2] <;> with_reducible rfl))
          | ((first | apply awR hΓ | apply awG | apply awH mixedOK hΓ rfl (by kernel_rfl) | apply ovE rfl); (simp (disch := omega) only [go_sem, ↓reduceIte, dk, hc1, hc2] <;> with_reducible rfl); exact trivial)
          | rfl)
        exact retL_x rfl rfl (Weak.of (by simp) ⟨rfl, trivial⟩ (by simp [TabSub, oRS, enumO, look, Obj.refsOK, refsOKs, AV.refsOK]) rfl)
      | false =>
        rw [hc2] at hR'
        simp only [Bool.false_or, Bool.false_eq_true, if_false] at hR'
        have hne : i ≠ s.length := fun h => by rw [h] at hc1; simp at hc1
        have he0 : e0 = 0 := by simpa using hc2
        have hlt : i < s.length := by
          rcases hior with h1 | h1
          · omega
          · exact absurd he0 h1
        have hdr : (s.drop i).take (s.length - i) = s.drop i := List.take_of_length_le (by rw [List.length_drop]; omega)
        have hrl : (s.drop i).length = s.length - i := List.length_drop
        have hsb : s[i]? = (s.drop i)[0]? := by rw [List.getElem?_drop]; rfl
        unfold tokAt wordN at hR'
        rw [hsb] at hR'
        obtain ⟨c, r, hr⟩ : ∃ c r, s.drop i = c :: r := by
          cases hd : s.drop i with
          | nil => rw [hd] at hrl; simp at hrl; omega
          | cons c r => exact ⟨c, r, rfl⟩
        have hc0 : (s.drop i)[0]? = some c := by rw [hr]; rfl
        have ht1 : (s.drop i).take 1 = [c] := by rw [hr]; rfl
        clear hr hsb
        generalize hq : s.drop i = q at *
        have hdr2 : (s.drop i).take (s.length - i) = q := by rw [hq]; exact hdr
        clear hdr
        have e1 := g_trimL_eq (s := q) (by omega)
        rw [trimL_eq] at e1
        unfold cutset at e1
        have hd1 := dropW_len q
        have hd2 : q.length = (q.takeWhile letter).length + (q.dropWhile letter).length := by
          conv => lhs; rw [← List.takeWhile_append_dropWhile (p := letter) (l := q), List.length_append]
        have ht : q.take (q.takeWhile letter).length = q.takeWhile letter := (List.prefix_iff_eq_take.1 (List.takeWhile_prefix letter)).symm
        generalize q.takeWhile letter = w at *
        generalize q.dropWhile letter = v at *
        have hc01 : ∀ h : 0 < q.length, q[0]'h = c := fun h => by rw [List.getElem?_eq_getElem h] at hc0; simpa using hc0
        have hql : 0 < q.length := by omega
        cases w with
        | cons b w =>
          have hw : ((b :: w) == []) = false := rfl
          rw [hw] at hR'
          simp only [Bool.false_eq_true, if_false] at hR'
          have hw2 : ((b :: w) == []) = false := rfl
          simp only [hw2, Bool.false_eq_true, if_false] at hR'
          subst hR'
          have hpos : decide (((b :: w).length : Int) > 0) = true := decide_eq_true (by simp only [List.length_cons]; omega)
          generalize b :: w = u at *
          repeat (first
            | (apply axJ; (focus ((with_reducible constructor) <;> rfl)))
            | (apply awT mixedOK hΓ (by kernel_rfl); (simp (disch := omega) only [go_sem, ↓reduceIte, dk, hc1, hc2, hdr2, e1, hd1, hpos, ht, Nat.sub_zero] <;> with_reducible rfl))
            | ((first | apply awR hΓ | apply awG | apply awH mixedOK hΓ rfl (by kernel_rfl) | apply ovE rfl); (simp (disch := omega) only [go_sem, ↓reduceIte, dk, hc1, hc2, hdr2, e1, hd1, hpos, ht, Nat.sub_zero] <;> with_reducible rfl); exact trivial)
            | rfl)
          exact retL_x rfl rfl (Weak.of (by simp) ⟨rfl, trivial⟩ (by simp [TabSub, oRS, enumO, look, Obj.refsOK, refsOKs, AV.refsOK]) rfl)
        | nil =>
          have hw : (([] : List UInt8) == []) = true := rfl
          rw [hw, hc0] at hR'
          simp only [if_true] at hR'
          have hpos : decide ((([] : List UInt8).length : Int) > 0) = false := rfl
          have e2 := g_idxByte_eq (s := [43, 40, 41]) (b := c) (by simp)
          have e3 := idx3 c
          generalize Lib.indexByte [43, 40, 41] c = ix at *
          cases hp : (c == 43 || (c == 40 || c == 41)) with
          | true =>
            rw [hp] at hR' e3
            have hw3 : ([c] == []) = false := rfl
            simp only [if_true, hw3, Bool.false_eq_true, if_false] at hR'
            subst hR'
            repeat (first
              | (apply axJ; (focus ((with_reducible constructor) <;> rfl)))
              | (apply awT mixedOK hΓ (by kernel_rfl); (simp (disch := omega) only [go_sem, ↓reduceIte, dk, hc1, hc2, hdr2, e1, hd1, hpos, Int.reduceToNat, hc01, e2, e3, ht1, Nat.sub_zero] <;> with_reducible rfl))
              | ((first | apply awR hΓ | apply awG | apply awH mixedOK hΓ rfl (by kernel_rfl) | apply ovE rfl); (simp (disch := omega) only [go_sem, ↓reduceIte, dk, hc1, hc2, hdr2, e1, hd1, hpos, Int.reduceToNat, hc01, e2, e3, ht1, Nat.sub_zero] <;> with_reducible rfl); exact trivial)
              | rfl)
            exact retL_x rfl rfl (Weak.of (by simp) ⟨rfl, trivial⟩ (by simp [TabSub, oRS, enumO, look, Obj.refsOK, refsOKs, AV.refsOK]) rfl)
          | false =>
            rw [hp] at hR' e3
            simp only [Bool.false_eq_true, if_false, hw, if_true] at hR'
            subst hR'
            have he0b : (e0 == 0) = true := by rw [he0]; rfl
            repeat (first
              | (apply axJ; (focus ((with_reducible constructor) <;> rfl)))
              | (apply awT mixedOK hΓ (by kernel_rfl); (simp (disch := omega) only [go_sem, ↓reduceIte, dk, hc1, hc2, hdr2, e1, hd1, hpos, Int.reduceToNat, hc01, e2, e3, ↓call_fail, pFail, he0b] <;> with_reducible rfl))
              | ((first | apply awR hΓ | apply awG | apply awH mixedOK hΓ rfl (by kernel_rfl) | apply ovE rfl); (simp (disch := omega) only [go_sem, ↓reduceIte, dk, hc1, hc2, hdr2, e1, hd1, hpos, Int.reduceToNat, hc01, e2, e3, ↓call_fail, pFail, he0b] <;> with_reducible rfl); exact trivial)
              | rfl)
            exact retL_x rfl rfl (Weak.of (by simp) ⟨rfl, trivial⟩ (by simp [TabSub, oRS, enumO, look, Obj.refsOK, refsOKs, AV.refsOK]) rfl)
theorem call_peek (k n : Nat) (tab : List (Nat × Obj)) (s : List UInt8) (a : Nat) (o e h : Int) (hd : RSok s ⟨a, o, e, h⟩) : callLoc k ⟨(0, .box [.data (.str s), .data (.int .i64 a), .data (.int .i64 o), .data (.int .i64 e), .data (.int .i64 h)]) :: tab, n⟩ g_peek [.ptr 0 0] =
    some (.data (.str (pPeek s ⟨a, o, e, h⟩).1), ⟨(0, oRS s (pPeek s ⟨a, o, e, h⟩).2) :: tab, k⟩) := (callLoc_of (fp := [0]) rfl rfl rfl (g_peek_eq s ⟨a, o, e, h⟩ hd) (Nat.le_refl _)).trans rfl
end Go.Ab
