/-
  One text of the proof (own work): contracts of functions of the program, by the abstract machine.
-/
import Derived.Test.YtdodjhiofpiaaaaDoorX19
import Derived.Test.YtdodjhiofpiaaaaDoorX31
set_option linter.unusedVariables false
set_option linter.unusedSimpArgs false
namespace Go.Ab
open Go Go.RowKit Go.Proofs Go.Shelf
set_option maxRecDepth 10000
set_option maxHeartbeats 16000000
theorem runQ_ld (b : UInt8) : runQ true b.toNat = !ldB b := by
  unfold runQ ldB
  cases digI b.toNat <;> cases lettI b.toNat <;> rfl
theorem valid_id (s : Bs) : validB 1 s = idForm s := by
  rcases s with _ | ⟨b, r⟩
  · rfl
  have hv : validB 1 (b :: r) = ((nextB (b :: r)).2 == 0 && ((nextB (b :: r)).1.1 == 1 && (nextB (b :: r)).1.2 == b :: r)) := rfl
  have hi : idForm (b :: r) = (!(decide (((b :: r).length : Int) > 32)) && (lettI b.toNat && (b :: r).all ldB)) := rfl
  rw [hv, hi]
  have hh : (b :: r).headD 0 = b := rfl
  have hall := runI_all (b :: r) true
  obtain ⟨h1, h2⟩ := runN_eq (b :: r) true
  have hany : (b :: r).any (fun c => runQ true c.toNat) = !((b :: r).all ldB) := by
    rw [List.not_all_eq_any_not]
    congr 1
    funext c
    exact runQ_ld c
  rw [hany, h1] at hall
  unfold nextB
  rw [hh]
  generalize b :: r = s at *
  generalize runN s true = n at *
  cases hl : lettI (b.toNat : Int)
  · simp only [Bool.false_eq_true, if_false, Bool.false_and, Bool.and_false]
    have h10 : ((0 : Int) == 1) = false := by decide
    have h21 : ((2 : Int) == 1) = false := by decide
    have h31 : ((3 : Int) == 1) = false := by decide
    repeat' split
    all_goals (dsimp only; simp only [h10, h21, h31, Bool.false_and, Bool.and_false])
  · simp only [if_true, Bool.true_and]
    cases hb : s.all ldB
    · rw [Bool.and_false]
      rw [hb] at hall
      have hne : n ≠ s.length := by
        intro h
        have := hall.1 (by rw [h])
        simp at this
      have hs : (s.take n == s) = false := by
        rw [beq_eq_false_iff_ne]
        intro h
        have := congrArg List.length h
        rw [List.length_take] at this
        omega
      split
      · rfl
      · dsimp only
        rw [hs]
        simp
    · rw [hb] at hall
      have hn : n = s.length := by have := hall.2 rfl; omega
      subst hn
      rw [List.take_length, Bool.and_true]
      cases hd : decide ((s.length : Int) > 32)
      · simp
      · simp
theorem key_any (s : Bs) : hasB keywords s = (s == [108, 101, 116] || (s == [115, 101, 116] || (s == [105, 102] || (s == [101, 108, 115, 101] || (s == [119, 104, 105, 108, 101] || (s == [114, 101, 116, 117, 114, 110] || (s == [100, 111] || (s == [111, 117, 116] || (s == [115, 116, 111, 114, 101] || (s == [108, 111, 97, 100] || (s == [105, 110] || (s == [105, 110, 99, 108, 117, 100, 101] || (s == [100, 101, 102, 105, 110, 101] || (s == [117, 110, 100, 101, 102] || (s == [119, 104, 101, 110] || (s == [117, 110, 108, 101, 115, 115] || (s == [110, 111, 116, 101] || (s == [101, 120, 116, 101, 114, 110] || (s == [101, 120, 112, 111, 114, 116] || (s == [119, 101, 97, 107] || (s == [102, 110] || (s == [100, 97, 116, 97])))))))))))))))))))))) := by
  have h : ∀ l : List Bs, hasB l s = l.any (s == ·) := fun l => by
    unfold hasB
    congr 1
    funext x
    rw [Bool.eq_iff_iff]
    simp only [beq_iff_eq]
    exact eq_comm
  rw [h]
  simp only [keywords, List.any_cons, List.any_nil, Bool.or_false]
noncomputable def g_nameP : List D → Option D := encSpec (fun x : Bs => [.str x]) (fun x : Bs => x.length ≤ 1099511627776) (fun x : Bs => .bool (idB x))
theorem g_nameP_eq {s : Bs} (hd : s.length ≤ 1099511627776) : g_nameP [.str s] = some (.bool (idB s)) := encSpec_eq (x := s) hd fun y hy => by
    simp only [List.cons.injEq, and_true, true_and, D.str.injEq, D.int.injEq, D.list.injEq, D.bool.injEq, D.agg.injEq, D.clo.injEq, Int.natCast_inj, inj_ie] at hy
    rw [hy]
theorem f_nameP_ok : PureOK Tryd.prog 70 true g_nameP := by
  have hΓ := Γp f_validP_ok (Γn)
  refine pure_enc (n := 30) (rs := [.tmp 2]) Tryd.func70 (by kernel_rfl) rfl (by kernel_rfl) (by kernel_rfl) ?_
  rintro s hd
  (try dsimp only at hd ⊢)
  refine ⟨fun _ => by (repeat (first | exact .int _ _ | exact .bool _ | exact .str _ | (refine .tup _ (fun d hd => ?_); simp only [List.mem_cons, List.not_mem_nil, or_false] at hd; rcases hd with rfl | hd))), fun k hz0 => ?_⟩
  have e1 := g_validP_eq (kd := 1) hd
  rw [valid_id] at e1
  unfold idB
  rw [key_any]
  generalize idForm s = f at *
  generalize h0 : (s == [108, 101, 116]) = k0
  generalize h1 : (s == [115, 101, 116]) = k1
  generalize h2 : (s == [105, 102]) = k2
  generalize h3 : (s == [101, 108, 115, 101]) = k3
  generalize h4 : (s == [119, 104, 105, 108, 101]) = k4
  generalize h5 : (s == [114, 101, 116, 117, 114, 110]) = k5
  generalize h6 : (s == [100, 111]) = k6
  generalize h7 : (s == [111, 117, 116]) = k7
  generalize h8 : (s == [115, 116, 111, 114, 101]) = k8
  generalize h9 : (s == [108, 111, 97, 100]) = k9
  generalize h10 : (s == [105, 110]) = k10
  generalize h11 : (s == [105, 110, 99, 108, 117, 100, 101]) = k11
  generalize h12 : (s == [100, 101, 102, 105, 110, 101]) = k12
  generalize h13 : (s == [117, 110, 100, 101, 102]) = k13
  generalize h14 : (s == [119, 104, 101, 110]) = k14
  generalize h15 : (s == [117, 110, 108, 101, 115, 115]) = k15
  generalize h16 : (s == [110, 111, 116, 101]) = k16
  generalize h17 : (s == [101, 120, 116, 101, 114, 110]) = k17
  generalize h18 : (s == [101, 120, 112, 111, 114, 116]) = k18
  generalize h19 : (s == [119, 101, 97, 107]) = k19
  generalize h20 : (s == [102, 110]) = k20
  generalize h21 : (s == [100, 97, 116, 97]) = k21
  rw [start_frame (by simp)]; simp only [enumV, go_sem, emptyH]
  cases k0
  rotate_left
  · ((repeat (first | (apply axJ; (focus ((with_reducible constructor) <;> rfl))) | (apply awT mixedOK hΓ (by kernel_rfl); (simp (disch := omega) only [go_sem, ↓reduceIte, dk, ↓lk, ↓ty_build120, h0, h1, h2, h3, h4, h5, h6, h7, h8, h9, h10, h11, h12, h13, h14, h15, h16, h17, h18, h19, h20, h21] <;> with_reducible rfl)) | ((first | apply awR hΓ | apply awG | apply awH mixedOK hΓ rfl (by kernel_rfl) | apply ovE rfl); (simp (disch := omega) only [go_sem, ↓reduceIte, dk, ↓lk, ↓ty_build120, h0, h1, h2, h3, h4, h5, h6, h7, h8, h9, h10, h11, h12, h13, h14, h15, h16, h17, h18, h19, h20, h21] <;> with_reducible rfl); exact trivial) | rfl)); (first | done | (simp only [Bool.true_or, Bool.false_or, Bool.not_true, Bool.and_false]; done)))
  cases k1
  rotate_left
  · ((repeat (first | (apply axJ; (focus ((with_reducible constructor) <;> rfl))) | (apply awT mixedOK hΓ (by kernel_rfl); (simp (disch := omega) only [go_sem, ↓reduceIte, dk, ↓lk, ↓ty_build120, h0, h1, h2, h3, h4, h5, h6, h7, h8, h9, h10, h11, h12, h13, h14, h15, h16, h17, h18, h19, h20, h21] <;> with_reducible rfl)) | ((first | apply awR hΓ | apply awG | apply awH mixedOK hΓ rfl (by kernel_rfl) | apply ovE rfl); (simp (disch := omega) only [go_sem, ↓reduceIte, dk, ↓lk, ↓ty_build120, h0, h1, h2, h3, h4, h5, h6, h7, h8, h9, h10, h11, h12, h13, h14, h15, h16, h17, h18, h19, h20, h21] <;> with_reducible rfl); exact trivial) | rfl)); (first | done | (simp only [Bool.true_or, Bool.false_or, Bool.not_true, Bool.and_false]; done)))
  cases k2
  rotate_left
  · ((repeat (first | (apply axJ; (focus ((with_reducible constructor) <;> rfl))) | (apply awT mixedOK hΓ (by kernel_rfl); (simp (disch := omega) only [go_sem, ↓reduceIte, dk, ↓lk, ↓ty_build120, h0, h1, h2, h3, h4, h5, h6, h7, h8, h9, h10, h11, h12, h13, h14, h15, h16, h17, h18, h19, h20, h21] <;> with_reducible rfl)) | ((first | apply awR hΓ | apply awG | apply awH mixedOK hΓ rfl (by kernel_rfl) | apply ovE rfl); (simp (disch := omega) only [go_sem, ↓reduceIte, dk, ↓lk, ↓ty_build120, h0, h1, h2, h3, h4, h5, h6, h7, h8, h9, h10, h11, h12, h13, h14, h15, h16, h17, h18, h19, h20, h21] <;> with_reducible rfl); exact trivial) | rfl)); (first | done | (simp only [Bool.true_or, Bool.false_or, Bool.not_true, Bool.and_false]; done)))
  cases k3
  rotate_left
  · ((repeat (first | (apply axJ; (focus ((with_reducible constructor) <;> rfl))) | (apply awT mixedOK hΓ (by kernel_rfl); (simp (disch := omega) only [go_sem, ↓reduceIte, dk, ↓lk, ↓ty_build120, h0, h1, h2, h3, h4, h5, h6, h7, h8, h9, h10, h11, h12, h13, h14, h15, h16, h17, h18, h19, h20, h21] <;> with_reducible rfl)) | ((first | apply awR hΓ | apply awG | apply awH mixedOK hΓ rfl (by kernel_rfl) | apply ovE rfl); (simp (disch := omega) only [go_sem, ↓reduceIte, dk, ↓lk, ↓ty_build120, h0, h1, h2, h3, h4, h5, h6, h7, h8, h9, h10, h11, h12, h13, h14, h15, h16, h17, h18, h19, h20, h21] <;> with_reducible rfl); exact trivial) | rfl)); (first | done | (simp only [Bool.true_or, Bool.false_or, Bool.not_true, Bool.and_false]; done)))
  cases k4
  rotate_left
  · ((repeat (first | (apply axJ; (focus ((with_reducible constructor) <;> rfl))) | (apply awT mixedOK hΓ (by kernel_rfl); (simp (disch := omega) only [go_sem, ↓reduceIte, dk, ↓lk, ↓ty_build120, h0, h1, h2, h3, h4, h5, h6, h7, h8, h9, h10, h11, h12, h13, h14, h15, h16, h17, h18, h19, h20, h21] <;> with_reducible rfl)) | ((first | apply awR hΓ | apply awG | apply awH mixedOK hΓ rfl (by kernel_rfl) | apply ovE rfl); (simp (disch := omega) only [go_sem, ↓reduceIte, dk, ↓lk, ↓ty_build120, h0, h1, h2, h3, h4, h5, h6, h7, h8, h9, h10, h11, h12, h13, h14, h15, h16, h17, h18, h19, h20, h21] <;> with_reducible rfl); exact trivial) | rfl)); (first | done | (simp only [Bool.true_or, Bool.false_or, Bool.not_true, Bool.and_false]; done)))
  cases k5
  rotate_left
  · ((repeat (first | (apply axJ; (focus ((with_reducible constructor) <;> rfl))) | (apply awT mixedOK hΓ (by kernel_rfl); (simp (disch := omega) only [go_sem, ↓reduceIte, dk, ↓lk, ↓ty_build120, h0, h1, h2, h3, h4, h5, h6, h7, h8, h9, h10, h11, h12, h13, h14, h15, h16, h17, h18, h19, h20, h21] <;> with_reducible rfl)) | ((first | apply awR hΓ | apply awG | apply awH mixedOK hΓ rfl (by kernel_rfl) | apply ovE rfl); (simp (disch := omega) only [go_sem, ↓reduceIte, dk, ↓lk, ↓ty_build120, h0, h1, h2, h3, h4, h5, h6, h7, h8, h9, h10, h11, h12, h13, h14, h15, h16, h17, h18, h19, h20, h21] <;> with_reducible rfl); exact trivial) | rfl)); (first | done | (simp only [Bool.true_or, Bool.false_or, Bool.not_true, Bool.and_false]; done)))
  cases k6
  rotate_left
  · ((repeat (first | (apply axJ; (focus ((with_reducible constructor) <;> rfl))) | (apply awT mixedOK hΓ (by kernel_rfl); (simp (disch := omega) only [go_sem, ↓reduceIte, dk, ↓lk, ↓ty_build120, h0, h1, h2, h3, h4, h5, h6, h7, h8, h9, h10, h11, h12, h13, h14, h15, h16, h17, h18, h19, h20, h21] <;> with_reducible rfl)) | ((first | apply awR hΓ | apply awG | apply awH mixedOK hΓ rfl (by kernel_rfl) | apply ovE rfl); (simp (disch := omega) only [go_sem, ↓reduceIte, dk, ↓lk, ↓ty_build120, h0, h1, h2, h3, h4, h5, h6, h7, h8, h9, h10, h11, h12, h13, h14, h15, h16, h17, h18, h19, h20, h21] <;> with_reducible rfl); exact trivial) | rfl)); (first | done | (simp only [Bool.true_or, Bool.false_or, Bool.not_true, Bool.and_false]; done)))
  cases k7
  rotate_left
  · ((repeat (first | (apply axJ; (focus ((with_reducible constructor) <;> rfl))) | (apply awT mixedOK hΓ (by kernel_rfl); (simp (disch := omega) only [go_sem, ↓reduceIte, dk, ↓lk, ↓ty_build120, h0, h1, h2, h3, h4, h5, h6, h7, h8, h9, h10, h11, h12, h13, h14, h15, h16, h17, h18, h19, h20, h21] <;> with_reducible rfl)) | ((first | apply awR hΓ | apply awG | apply awH mixedOK hΓ rfl (by kernel_rfl) | apply ovE rfl); (simp (disch := omega) only [go_sem, ↓reduceIte, dk, ↓lk, ↓ty_build120, h0, h1, h2, h3, h4, h5, h6, h7, h8, h9, h10, h11, h12, h13, h14, h15, h16, h17, h18, h19, h20, h21] <;> with_reducible rfl); exact trivial) | rfl)); (first | done | (simp only [Bool.true_or, Bool.false_or, Bool.not_true, Bool.and_false]; done)))
  cases k8
  rotate_left
  · ((repeat (first | (apply axJ; (focus ((with_reducible constructor) <;> rfl))) | (apply awT mixedOK hΓ (by kernel_rfl); (simp (disch := omega) only [go_sem, ↓reduceIte, dk, ↓lk, ↓ty_build120, h0, h1, h2, h3, h4, h5, h6, h7, h8, h9, h10, h11, h12, h13, h14, h15, h16, h17, h18, h19, h20, h21] <;> with_reducible rfl)) | ((first | apply awR hΓ | apply awG | apply awH mixedOK hΓ rfl (by kernel_rfl) | apply ovE rfl); (simp (disch := omega) only [go_sem, ↓reduceIte, dk, ↓lk, ↓ty_build120, h0, h1, h2, h3, h4, h5, h6, h7, h8, h9, h10, h11, h12, h13, h14, h15, h16, h17, h18, h19, h20, h21] <;> with_reducible rfl); exact trivial) | rfl)); (first | done | (simp only [Bool.true_or, Bool.false_or, Bool.not_true, Bool.and_false]; done)))
  cases k9
  rotate_left
  · ((repeat (first | (apply axJ; (focus ((with_reducible constructor) <;> rfl))) | (apply awT mixedOK hΓ (by kernel_rfl); (simp (disch := omega) only [go_sem, ↓reduceIte, dk, ↓lk, ↓ty_build120, h0, h1, h2, h3, h4, h5, h6, h7, h8, h9, h10, h11, h12, h13, h14, h15, h16, h17, h18, h19, h20, h21] <;> with_reducible rfl)) | ((first | apply awR hΓ | apply awG | apply awH mixedOK hΓ rfl (by kernel_rfl) | apply ovE rfl); (simp (disch := omega) only [go_sem, ↓reduceIte, dk, ↓lk, ↓ty_build120, h0, h1, h2, h3, h4, h5, h6, h7, h8, h9, h10, h11, h12, h13, h14, h15, h16, h17, h18, h19, h20, h21] <;> with_reducible rfl); exact trivial) | rfl)); (first | done | (simp only [Bool.true_or, Bool.false_or, Bool.not_true, Bool.and_false]; done)))
  cases k10
  rotate_left
  · ((repeat (first | (apply axJ; (focus ((with_reducible constructor) <;> rfl))) | (apply awT mixedOK hΓ (by kernel_rfl); (simp (disch := omega) only [go_sem, ↓reduceIte, dk, ↓lk, ↓ty_build120, h0, h1, h2, h3, h4, h5, h6, h7, h8, h9, h10, h11, h12, h13, h14, h15, h16, h17, h18, h19, h20, h21] <;> with_reducible rfl)) | ((first | apply awR hΓ | apply awG | apply awH mixedOK hΓ rfl (by kernel_rfl) | apply ovE rfl); (simp (disch := omega) only [go_sem, ↓reduceIte, dk, ↓lk, ↓ty_build120, h0, h1, h2, h3, h4, h5, h6, h7, h8, h9, h10, h11, h12, h13, h14, h15, h16, h17, h18, h19, h20, h21] <;> with_reducible rfl); exact trivial) | rfl)); (first | done | (simp only [Bool.true_or, Bool.false_or, Bool.not_true, Bool.and_false]; done)))
  cases k11
  rotate_left
  · ((repeat (first | (apply axJ; (focus ((with_reducible constructor) <;> rfl))) | (apply awT mixedOK hΓ (by kernel_rfl); (simp (disch := omega) only [go_sem, ↓reduceIte, dk, ↓lk, ↓ty_build120, h0, h1, h2, h3, h4, h5, h6, h7, h8, h9, h10, h11, h12, h13, h14, h15, h16, h17, h18, h19, h20, h21] <;> with_reducible rfl)) | ((first | apply awR hΓ | apply awG | apply awH mixedOK hΓ rfl (by kernel_rfl) | apply ovE rfl); (simp (disch := omega) only [go_sem, ↓reduceIte, dk, ↓lk, ↓ty_build120, h0, h1, h2, h3, h4, h5, h6, h7, h8, h9, h10, h11, h12, h13, h14, h15, h16, h17, h18, h19, h20, h21] <;> with_reducible rfl); exact trivial) | rfl)); (first | done | (simp only [Bool.true_or, Bool.false_or, Bool.not_true, Bool.and_false]; done)))
  cases k12
  rotate_left
  · ((repeat (first | (apply axJ; (focus ((with_reducible constructor) <;> rfl))) | (apply awT mixedOK hΓ (by kernel_rfl); (simp (disch := omega) only [go_sem, ↓reduceIte, dk, ↓lk, ↓ty_build120, h0, h1, h2, h3, h4, h5, h6, h7, h8, h9, h10, h11, h12, h13, h14, h15, h16, h17, h18, h19, h20, h21] <;> with_reducible rfl)) | ((first | apply awR hΓ | apply awG | apply awH mixedOK hΓ rfl (by kernel_rfl) | apply ovE rfl); (simp (disch := omega) only [go_sem, ↓reduceIte, dk, ↓lk, ↓ty_build120, h0, h1, h2, h3, h4, h5, h6, h7, h8, h9, h10, h11, h12, h13, h14, h15, h16, h17, h18, h19, h20, h21] <;> with_reducible rfl); exact trivial) | rfl)); (first | done | (simp only [Bool.true_or, Bool.false_or, Bool.not_true, Bool.and_false]; done)))
  cases k13
  rotate_left
  · ((repeat (first | (apply axJ; (focus ((with_reducible constructor) <;> rfl))) | (apply awT mixedOK hΓ (by kernel_rfl); (simp (disch := omega) only [go_sem, ↓reduceIte, dk, ↓lk, ↓ty_build120, h0, h1, h2, h3, h4, h5, h6, h7, h8, h9, h10, h11, h12, h13, h14, h15, h16, h17, h18, h19, h20, h21] <;> with_reducible rfl)) | ((first | apply awR hΓ | apply awG | apply awH mixedOK hΓ rfl (by kernel_rfl) | apply ovE rfl); (simp (disch := omega) only [go_sem, ↓reduceIte, dk, ↓lk, ↓ty_build120, h0, h1, h2, h3, h4, h5, h6, h7, h8, h9, h10, h11, h12, h13, h14, h15, h16, h17, h18, h19, h20, h21] <;> with_reducible rfl); exact trivial) | rfl)); (first | done | (simp only [Bool.true_or, Bool.false_or, Bool.not_true, Bool.and_false]; done)))
  cases k14
  rotate_left
  · ((repeat (first | (apply axJ; (focus ((with_reducible constructor) <;> rfl))) | (apply awT mixedOK hΓ (by kernel_rfl); (simp (disch := omega) only [go_sem, ↓reduceIte, dk, ↓lk, ↓ty_build120, h0, h1, h2, h3, h4, h5, h6, h7, h8, h9, h10, h11, h12, h13, h14, h15, h16, h17, h18, h19, h20, h21] <;> with_reducible rfl)) | ((first | apply awR hΓ | apply awG | apply awH mixedOK hΓ rfl (by kernel_rfl) | apply ovE rfl); (simp (disch := omega) only [go_sem, ↓reduceIte, dk, ↓lk, ↓ty_build120, h0, h1, h2, h3, h4, h5, h6, h7, h8, h9, h10, h11, h12, h13, h14, h15, h16, h17, h18, h19, h20, h21] <;> with_reducible rfl); exact trivial) | rfl)); (first | done | (simp only [Bool.true_or, Bool.false_or, Bool.not_true, Bool.and_false]; done)))
  cases k15
  rotate_left
  · ((repeat (first | (apply axJ; (focus ((with_reducible constructor) <;> rfl))) | (apply awT mixedOK hΓ (by kernel_rfl); (simp (disch := omega) only [go_sem, ↓reduceIte, dk, ↓lk, ↓ty_build120, h0, h1, h2, h3, h4, h5, h6, h7, h8, h9, h10, h11, h12, h13, h14, h15, h16, h17, h18, h19, h20, h21] <;> with_reducible rfl)) | ((first | apply awR hΓ | apply awG | apply awH mixedOK hΓ rfl (by kernel_rfl) | apply ovE rfl); (simp (disch := omega) only [go_sem, ↓reduceIte, dk, ↓lk, ↓ty_build120, h0, h1, h2, h3, h4, h5, h6, h7, h8, h9, h10, h11, h12, h13, h14, h15, h16, h17, h18, h19, h20, h21] <;> with_reducible rfl); exact trivial) | rfl)); (first | done | (simp only [Bool.true_or, Bool.false_or, Bool.not_true, Bool.and_false]; done)))
  cases k16
  rotate_left
  · ((repeat (first | (apply axJ; (focus ((with_reducible constructor) <;> rfl))) | (apply awT mixedOK hΓ (by kernel_rfl); (simp (disch := omega) only [go_sem, ↓reduceIte, dk, ↓lk, ↓ty_build120, h0, h1, h2, h3, h4, h5, h6, h7, h8, h9, h10, h11, h12, h13, h14, h15, h16, h17, h18, h19, h20, h21] <;> with_reducible rfl)) | ((first | apply awR hΓ | apply awG | apply awH mixedOK hΓ rfl (by kernel_rfl) | apply ovE rfl); (simp (disch := omega) only [go_sem, ↓reduceIte, dk, ↓lk, ↓ty_build120, h0, h1, h2, h3, h4, h5, h6, h7, h8, h9, h10, h11, h12, h13, h14, h15, h16, h17, h18, h19, h20, h21] <;> with_reducible rfl); exact trivial) | rfl)); (first | done | (simp only [Bool.true_or, Bool.false_or, Bool.not_true, Bool.and_false]; done)))
  cases k17
  rotate_left
  · ((repeat (first | (apply axJ; (focus ((with_reducible constructor) <;> rfl))) | (apply awT mixedOK hΓ (by kernel_rfl); (simp (disch := omega) only [go_sem, ↓reduceIte, dk, ↓lk, ↓ty_build120, h0, h1, h2, h3, h4, h5, h6, h7, h8, h9, h10, h11, h12, h13, h14, h15, h16, h17, h18, h19, h20, h21] <;> with_reducible rfl)) | ((first | apply awR hΓ | apply awG | apply awH mixedOK hΓ rfl (by kernel_rfl) | apply ovE rfl); (simp (disch := omega) only [go_sem, ↓reduceIte, dk, ↓lk, ↓ty_build120, h0, h1, h2, h3, h4, h5, h6, h7, h8, h9, h10, h11, h12, h13, h14, h15, h16, h17, h18, h19, h20, h21] <;> with_reducible rfl); exact trivial) | rfl)); (first | done | (simp only [Bool.true_or, Bool.false_or, Bool.not_true, Bool.and_false]; done)))
  cases k18
  rotate_left
  · ((repeat (first | (apply axJ; (focus ((with_reducible constructor) <;> rfl))) | (apply awT mixedOK hΓ (by kernel_rfl); (simp (disch := omega) only [go_sem, ↓reduceIte, dk, ↓lk, ↓ty_build120, h0, h1, h2, h3, h4, h5, h6, h7, h8, h9, h10, h11, h12, h13, h14, h15, h16, h17, h18, h19, h20, h21] <;> with_reducible rfl)) | ((first | apply awR hΓ | apply awG | apply awH mixedOK hΓ rfl (by kernel_rfl) | apply ovE rfl); (simp (disch := omega) only [go_sem, ↓reduceIte, dk, ↓lk, ↓ty_build120, h0, h1, h2, h3, h4, h5, h6, h7, h8, h9, h10, h11, h12, h13, h14, h15, h16, h17, h18, h19, h20, h21] <;> with_reducible rfl); exact trivial) | rfl)); (first | done | (simp only [Bool.true_or, Bool.false_or, Bool.not_true, Bool.and_false]; done)))
  cases k19
  rotate_left
  · ((repeat (first | (apply axJ; (focus ((with_reducible constructor) <;> rfl))) | (apply awT mixedOK hΓ (by kernel_rfl); (simp (disch := omega) only [go_sem, ↓reduceIte, dk, ↓lk, ↓ty_build120, h0, h1, h2, h3, h4, h5, h6, h7, h8, h9, h10, h11, h12, h13, h14, h15, h16, h17, h18, h19, h20, h21] <;> with_reducible rfl)) | ((first | apply awR hΓ | apply awG | apply awH mixedOK hΓ rfl (by kernel_rfl) | apply ovE rfl); (simp (disch := omega) only [go_sem, ↓reduceIte, dk, ↓lk, ↓ty_build120, h0, h1, h2, h3, h4, h5, h6, h7, h8, h9, h10, h11, h12, h13, h14, h15, h16, h17, h18, h19, h20, h21] <;> with_reducible rfl); exact trivial) | rfl)); (first | done | (simp only [Bool.true_or, Bool.false_or, Bool.not_true, Bool.and_false]; done)))
  cases k20
  rotate_left
  · ((repeat (first | (apply axJ; (focus ((with_reducible constructor) <;> rfl))) | (apply awT mixedOK hΓ (by kernel_rfl); (simp (disch := omega) only [go_sem, ↓reduceIte, dk, ↓lk, ↓ty_build120, h0, h1, h2, h3, h4, h5, h6, h7, h8, h9, h10, h11, h12, h13, h14, h15, h16, h17, h18, h19, h20, h21] <;> with_reducible rfl)) | ((first | apply awR hΓ | apply awG | apply awH mixedOK hΓ rfl (by kernel_rfl) | apply ovE rfl); (simp (disch := omega) only [go_sem, ↓reduceIte, dk, ↓lk, ↓ty_build120, h0, h1, h2, h3, h4, h5, h6, h7, h8, h9, h10, h11, h12, h13, h14, h15, h16, h17, h18, h19, h20, h21] <;> with_reducible rfl); exact trivial) | rfl)); (first | done | (simp only [Bool.true_or, Bool.false_or, Bool.not_true, Bool.and_false]; done)))
  cases k21
  rotate_left
  · ((repeat (first | (apply axJ; (focus ((with_reducible constructor) <;> rfl))) | (apply awT mixedOK hΓ (by kernel_rfl); (simp (disch := omega) only [go_sem, ↓reduceIte, dk, ↓lk, ↓ty_build120, h0, h1, h2, h3, h4, h5, h6, h7, h8, h9, h10, h11, h12, h13, h14, h15, h16, h17, h18, h19, h20, h21] <;> with_reducible rfl)) | ((first | apply awR hΓ | apply awG | apply awH mixedOK hΓ rfl (by kernel_rfl) | apply ovE rfl); (simp (disch := omega) only [go_sem, ↓reduceIte, dk, ↓lk, ↓ty_build120, h0, h1, h2, h3, h4, h5, h6, h7, h8, h9, h10, h11, h12, h13, h14, h15, h16, h17, h18, h19, h20, h21] <;> with_reducible rfl); exact trivial) | rfl)); (first | done | (simp only [Bool.true_or, Bool.false_or, Bool.not_true, Bool.and_false]; done)))
  cases f
  · repeat (first
    | (apply axJ; (focus ((with_reducible constructor) <;> rfl)))
    | (apply awT mixedOK hΓ (by kernel_rfl); (simp (disch := omega) only [go_sem, ↓reduceIte, dk, ↓lk, ↓ty_build120, e1, h0, h1, h2, h3, h4, h5, h6, h7, h8, h9, h10, h11, h12, h13, h14, h15, h16, h17, h18, h19, h20, h21] <;> with_reducible rfl))
    | ((first | apply awR hΓ | apply awG | apply awH mixedOK hΓ rfl (by kernel_rfl) | apply ovE rfl); (simp (disch := omega) only [go_sem, ↓reduceIte, dk, ↓lk, ↓ty_build120, e1, h0, h1, h2, h3, h4, h5, h6, h7, h8, h9, h10, h11, h12, h13, h14, h15, h16, h17, h18, h19, h20, h21] <;> with_reducible rfl); exact trivial)
    | rfl)
    try rfl
  · repeat (first
    | (apply axJ; (focus ((with_reducible constructor) <;> rfl)))
    | (apply awT mixedOK hΓ (by kernel_rfl); (simp (disch := omega) only [go_sem, ↓reduceIte, dk, ↓lk, ↓ty_build120, e1, h0, h1, h2, h3, h4, h5, h6, h7, h8, h9, h10, h11, h12, h13, h14, h15, h16, h17, h18, h19, h20, h21] <;> with_reducible rfl))
    | ((first | apply awR hΓ | apply awG | apply awH mixedOK hΓ rfl (by kernel_rfl) | apply ovE rfl); (simp (disch := omega) only [go_sem, ↓reduceIte, dk, ↓lk, ↓ty_build120, e1, h0, h1, h2, h3, h4, h5, h6, h7, h8, h9, h10, h11, h12, h13, h14, h15, h16, h17, h18, h19, h20, h21] <;> with_reducible rfl); exact trivial)
    | rfl)
    try rfl
end Go.Ab
