/-
  One text of the proof (own work): contracts of functions of the program, by the abstract machine.
-/
import Derived.Test.YtdodjhiofpiaaaaGreatDoorX45
import Derived.Test.YtdodjhiofpiaaaaGreatDoorX19
set_option linter.unusedVariables false
set_option linter.unusedSimpArgs false
namespace Go.Ab
open Go Go.RowKit Go.Proofs Go.Shelf
set_option maxRecDepth 10000
set_option maxHeartbeats 8000000
theorem line_named {s : Bs} {y : Stp} (h : lineR s = (y, 0)) : namedB y = true ∧ (y.kind = 1 → dupB [] y.wds = false) := by
  unfold lineR at h
  split at h
  · cases h
  generalize stepR (gList ((splitB 32 s).headD []) (splitB 32 s).tail) = p at h
  unfold lineP at h
  split at h
  · unfold lineS at h
    split at h
    · rename_i hn
      split at h
      · cases h
      · rename_i hk
        cases h
        refine ⟨hn, fun h1 => ?_⟩
        rw [h1] at hk
        simpa using hk
    · cases h
  · cases h
def N10 (w : Bs) : Prop := ∀ b ∈ w, b ≠ 10
theorem join_bytes {c : Bs} {l : List Bs} {P : UInt8 → Prop} (hc : ∀ b ∈ c, P b) (hl : ∀ w ∈ l, ∀ b ∈ w, P b) : ∀ b ∈ Lib.join l c, P b := by
  induction l with
  | nil => intro b hb; simp [Lib.join] at hb
  | cons w r ih =>
    cases r with
    | nil =>
      intro b hb
      rw [show Lib.join [w] c = w by simp [Lib.join]] at hb
      exact hl w (by simp) b hb
    | cons v q =>
      rw [join_cons _ _ _ (by simp)]
      intro b hb
      rcases List.mem_append.1 hb with hb | hb
      · rcases List.mem_append.1 hb with hb | hb
        · exact hl w (by simp) b hb
        · exact hc b hb
      · exact ih (fun x hx => hl x (by simp [hx])) b hb
theorem part_ten {w : Bs} (h : partB w = true) : N10 w := by
  cases w with
  | nil => intro b hb; cases hb
  | cons x r =>
    have hd : partB (x :: r) = (!(decide (((x :: r).length : Int) > 32)) && (!((x.toNat : Int) == 46) && (!((x.toNat : Int) == 45) && (x :: r).all pb))) := rfl
    rw [hd] at h
    simp only [Bool.and_eq_true] at h
    intro b hb hb2
    have := List.all_eq_true.1 h.2.2.2 b hb
    rw [hb2] at this
    exact absurd this (by decide)
theorem path_ten {s : Bs} (h : pathE s = 0) : N10 s := by
  unfold pathE at h
  split at h
  · exact absurd h (by decide)
  split at h
  · exact absurd h (by decide)
  split at h
  · rename_i ha
    rw [← split_join 47 s]
    refine join_bytes (P := fun b => b ≠ 10) (fun b hb => by rw [List.mem_singleton.1 hb]; decide) (fun w hw => part_ten (List.all_eq_true.1 ha w hw))
  · exact absurd h (by decide)
theorem ref_ten {s : Bs} (h : refB s = true) : N10 s := by
  cases s with
  | nil => intro b hb; cases hb
  | cons x r =>
    have hd : refB (x :: r) = if (x.toNat : Int) == 64 then pathE r == 0 && decide (((splitB 47 r).length : Int) > 1) else pathE (x :: r) == 0 := rfl
    rw [hd] at h
    split at h
    · rename_i hx
      simp only [Bool.and_eq_true, beq_iff_eq] at h
      intro b hb
      rcases List.mem_cons.1 hb with rfl | hb
      · intro h10
        rw [h10] at hx
        exact absurd hx (by decide)
      · exact path_ten h.1 b hb
    · exact path_ten (eq_of_beq h)
theorem id_ten {s : Bs} (h : idB s = true) : N10 s := by
  unfold idB at h
  rw [Bool.and_eq_true] at h
  have h := h.1
  cases s with
  | nil => intro b hb; cases hb
  | cons x r =>
    have hd : idForm (x :: r) = (!(decide (((x :: r).length : Int) > 32)) && (lettI x.toNat && (x :: r).all ldB)) := rfl
    rw [hd] at h
    simp only [Bool.and_eq_true] at h
    intro b hb hb2
    have := List.all_eq_true.1 h.2.2 b hb
    rw [hb2] at this
    exact absurd this (by decide)
theorem named_all {P : Bs → Prop} {x : Stp} (h : namedB x = true) (h1 : ∀ w, refB w = true → P w) (h2 : ∀ w, idB w = true → P w) (h3 : ∀ w, pathE w = 0 → P w) : (∀ w ∈ x.inn, P w) ∧ (∀ w ∈ x.usg, P w) ∧ (∀ w ∈ x.wds, P w) ∧ P x.out := by
  unfold namedB at h
  simp only [Bool.and_eq_true, beq_iff_eq] at h
  exact ⟨fun w hw => h1 w (List.all_eq_true.1 h.1 w hw), fun w hw => h1 w (List.all_eq_true.1 h.2.1 w hw), fun w hw => h2 w (List.all_eq_true.1 h.2.2.1 w hw), h3 _ h.2.2.2⟩
theorem beh_mem {P : Bs → Prop} {w : Bs} {l : List Bs} (hw : P w) (hl : ∀ v ∈ l, P v) : ∀ v ∈ behB w l, P v := by
  cases l with
  | nil => intro v hv; cases hv
  | cons x r =>
    intro v hv
    rcases List.mem_cons.1 hv with rfl | hv
    · exact hw
    · exact hl v hv
theorem headD_mem {P : Bs → Prop} {l : List Bs} (h0 : P []) (hl : ∀ v ∈ l, P v) : P (l.headD []) := by
  cases l with
  | nil => exact h0
  | cons x r => exact hl x (by simp)
theorem words_all {P : Bs → Prop} {x : Stp} (h0 : P []) (hk : ∀ w ∈ [kCompile, kArchive, kShare, kLink, kRun, kPatch, kCopy, kInstall, kTo, kWith, kUsing, kOn, kAs], P w) (hi : ∀ w ∈ x.inn, P w) (hu : ∀ w ∈ x.usg, P w) (hw : ∀ w ∈ x.wds, P w) (ho : P x.out) : ∀ w ∈ (wordsP x).1.flatten, P w := by
  have b1 := beh_mem (w := kWith) (hk _ (by simp)) hw
  have b2 := beh_mem (w := kUsing) (hk _ (by simp)) hu
  have b3 := headD_mem h0 hi
  have b4 := headD_mem h0 (fun v hv => hi v (List.mem_of_mem_drop hv)) (l := x.inn.drop 1)
  simp only [List.mem_cons, List.not_mem_nil, or_false, forall_eq_or_imp, forall_eq] at hk
  obtain ⟨k1, k2, k3, k4, k5, k6, k7, k8, k9, k10, k11, k12, k13⟩ := hk
  unfold wordsP
  repeat' split
  all_goals (simp only [List.flatten_cons, List.flatten_nil, List.append_nil, List.nil_append, List.mem_append, List.mem_cons, List.not_mem_nil, or_false, or_imp, forall_and, forall_eq])
  all_goals (first | (intro _ h; exact h.elim) | ((repeat' apply And.intro) <;> first | assumption | exact hi | exact hw | exact hu | exact b1 | exact b2))
theorem text_ten {x : Stp} (h : checkR x = 0) : N10 (textS x) := by
  obtain ⟨h1, h2, _⟩ := check_text h
  have hn := (line_named h2).1
  obtain ⟨n1, n2, n3, n4⟩ := named_all (P := N10) hn (fun w => ref_ten) (fun w => id_ten) (fun w => path_ten)
  have hw := words_all (P := N10) (x := x) (fun b hb => by cases hb) (by unfold N10; decide) n1 n2 n3 n4
  have ht : textS x = Lib.join (wordsP x).1.flatten [32] := (congrArg Prod.fst h1).symm
  rw [ht]
  exact join_bytes (P := fun b => b ≠ 10) (fun b hb => by rw [List.mem_singleton.1 hb]; decide) hw
theorem split_none {c : UInt8} {s : Bs} (h : ∀ b ∈ s, b ≠ c) : splitB c s = [s] := by
  induction s with
  | nil => rfl
  | cons x r ih =>
    rw [splitB, if_neg (by rw [beq_iff_eq]; exact h x (by simp)), ih (fun b hb => h b (by simp [hb]))]
    rfl
theorem ten_one {w : Bs} (h : N10 w) : oneL w = true := by
  unfold oneL
  rw [split_none h]
  rfl
theorem prGo_one : ∀ (l : List Stp) (acc ls : List Bs), (∀ w ∈ acc, N10 w) → prGo acc l = some ls → ∀ w ∈ ls, N10 w
  | [], acc, ls, ha, h => by
    cases h
    exact ha
  | x :: r, acc, ls, ha, h => by
    rw [prGo] at h
    split at h
    · rename_i hc
      rw [Bool.and_eq_true, beq_iff_eq] at hc
      refine prGo_one r _ ls (fun w hw => ?_) h
      rcases List.mem_append.1 hw with hw | hw
      · rcases List.mem_append.1 hw with hw | hw
        · exact ha w hw
        · rw [(List.mem_replicate.1 hw).2]; intro b hb; cases hb
      · rw [List.mem_singleton.1 hw]; exact text_ten hc.1
    · cases h
theorem prGo_ne : ∀ (l : List Stp) (acc ls : List Bs), prGo acc l = some ls → acc ≠ [] ∨ l ≠ [] → ls ≠ []
  | [], acc, ls, h, hn => by
    cases h
    rcases hn with hn | hn
    · exact hn
    · exact absurd rfl hn
  | x :: r, acc, ls, h, hn => by
    rw [prGo] at h
    split at h
    · exact prGo_ne r _ ls h (.inl (by simp))
    · cases h
theorem print_law (l : List Stp) : printPl l = printR l := by
  unfold printPl printR
  split
  · rfl
  cases l with
  | nil => rfl
  | cons x r =>
    rw [if_neg (by simp; omega)]
    cases hp : prGo [] (x :: r) with
    | none => rfl
    | some ls =>
      have h1 := prGo_one _ _ _ (fun w hw => by cases hw) hp
      have hne := prGo_ne _ _ _ hp (.inr (by simp))
      show joinR (lnsOf ls) = if (joinR ls).2 == 0 then ((joinR ls).1, 0) else ([], 10)
      rw [lnsOf_ne hne]
      cases ls with
      | nil => exact absurd rfl hne
      | cons w q =>
        rw [joinR_cons, if_pos (List.all_eq_true.2 fun v hv => ten_one (h1 v hv))]
        split
        · rfl
        · rfl
end Go.Ab
namespace Go.Ab
open Go Go.RowKit Go.Proofs Go.Shelf
set_option maxRecDepth 10000
set_option maxHeartbeats 16000000
theorem atL_okP {x : Stp} (h : StOK x) (i : Int) : StOK (atL x i) := ⟨h.i, h.u, h.w, h.o⟩
theorem parseGo_ok : ∀ (ls : List Bs) (i : Nat) (acc : List Stp), (∀ w ∈ ls, w.length ≤ 1000000) → (∀ x ∈ acc, StOK x) → (parseGo i acc ls).1.length ≤ acc.length + ls.length ∧ ∀ x ∈ (parseGo i acc ls).1, StOK x
  | [], _, acc, _, ha => ⟨Nat.le_refl _, ha⟩
  | w :: r, i, acc, hl, ha => by
    rw [parseGo]
    split
    · have := parseGo_ok r (i + 1) acc (fun v hv => hl v (by simp [hv])) ha
      exact ⟨by simp only [List.length_cons]; omega, this.2⟩
    · split
      · have h2 := lineR_ok (s := w) (hl w (by simp))
        have := parseGo_ok r (i + 1) (acc ++ [atL (lineR w).1 i]) (fun v hv => hl v (by simp [hv])) (fun x hx => by
          rcases List.mem_append.1 hx with hx | hx
          · exact ha x hx
          · rw [List.mem_singleton.1 hx]; exact atL_okP h2 _)
        refine ⟨?_, this.2⟩
        have := this.1
        simp only [List.length_append, List.length_cons, List.length_nil] at this ⊢
        omega
      · exact ⟨Nat.zero_le _, fun x hx => by cases hx⟩
theorem parseR_ok (s : Bs) (hs : s.length ≤ 1000000) : (parseR s).1.length ≤ 1024 ∧ ∀ x ∈ (parseR s).1, StOK x := by
  obtain ⟨b1, b2⟩ := lines_bd s
  unfold parseR
  split
  · have := parseGo_ok (linesE s).1 0 [] (fun w hw => Nat.le_trans (b2 w hw) hs) (fun x hx => by cases hx)
    simp only [List.length_nil] at this
    exact ⟨by omega, this.2⟩
  · exact ⟨Nat.zero_le _, fun x hx => by cases hx⟩
theorem sameAll_rfl (l : List Stp) : sameAll l l = true := (sameAll_iff l l).2 rfl
noncomputable def g_lawPa : List D → Option D := encSpec (fun x : Bs => [.str x]) (fun x : Bs => x.length ≤ 1099511627776) (fun x : Bs => .bool true)
theorem f_lawPa_ok : PureOK Tryz.prog 3 true g_lawPa := by
  have hΓ := Γp f_awake_ok (Γp f_parseP_ok (Γp f_parse14_ok (Γp f_sameAll14_ok (Γn))))
  refine pure_enc (n := 39) (rs := [.tmp 2]) Tryz.func3 (by kernel_rfl) rfl (by kernel_rfl) (by kernel_rfl) ?_
  rintro s hd
  (try dsimp only at hd ⊢)
  refine ⟨fun _ => by (repeat (first | exact .int _ _ | exact .bool _ | exact .str _ | (refine .tup _ (fun d hd => ?_); simp only [List.mem_cons, List.not_mem_nil, or_false] at hd; rcases hd with rfl | hd))), fun k hz0 => ?_⟩
  have ea := g_awake_eq
  rw [start_frame (by simp)]; simp only [enumV, go_sem, emptyH]
  by_cases hl : s.length ≤ 6000
  · have e1 := g_parseP_eq (s := s) (by omega)
    have e2 := g_parse14_eq (s := s) (by omega)
    obtain ⟨b1, b2⟩ := parseR_ok s (by omega)
    generalize parseR s = p at *
    obtain ⟨l, n, e⟩ := p
    dsimp only at b1 b2
    have e3 := g_sameAll14_eq (a := l) (b := l) ⟨⟨by omega, b2⟩, ⟨by omega, b2⟩⟩
    rw [sameAll_rfl] at e3
    replace e1 : g_parseP [.str s] = some (.tup [.list (l.map eSt), .int .i64 n, .int .i64 e]) := e1
    replace e2 : g_parse14 [.str s] = some (.tup [.list (l.map eSt), .int .i64 n, .int .i64 e]) := e2
    have hl1 : decide ((s.length : Int) > 6000) = false := decide_eq_false (by omega)
    repeat (first
      | (apply axJ; (focus ((with_reducible constructor) <;> rfl)))
      | (apply awT mixedOK hΓ (by kernel_rfl); (simp (disch := omega) only [go_sem, ↓reduceIte, dk, ↓lk, ea, e1, e2, e3, hl1, BEq.rfl] <;> with_reducible rfl))
      | ((first | apply awR hΓ | apply awG | apply awH mixedOK hΓ rfl (by kernel_rfl) | apply ovE rfl); (simp (disch := omega) only [go_sem, ↓reduceIte, dk, ↓lk, ea, e1, e2, e3, hl1, BEq.rfl] <;> with_reducible rfl); exact trivial)
      | rfl)
    try rfl
  · have hl1 : decide ((s.length : Int) > 6000) = true := decide_eq_true (by omega)
    repeat (first
      | (apply axJ; (focus ((with_reducible constructor) <;> rfl)))
      | (apply awT mixedOK hΓ (by kernel_rfl); (simp (disch := omega) only [go_sem, ↓reduceIte, dk, ↓lk, ea, hl1] <;> with_reducible rfl))
      | ((first | apply awR hΓ | apply awG | apply awH mixedOK hΓ rfl (by kernel_rfl) | apply ovE rfl); (simp (disch := omega) only [go_sem, ↓reduceIte, dk, ↓lk, ea, hl1] <;> with_reducible rfl); exact trivial)
      | rfl)
    try rfl
theorem short_px {l : List Bs} (h : shortB l = true) : (listS l).length ≤ 100000 := by
  unfold shortB at h
  rw [Bool.and_eq_true] at h
  have h1 : ∀ w ∈ l, w.length ≤ 300 := fun w hw => by
    have := List.any_eq_false.1 (by simpa using h.1) w hw
    unfold shB at this
    simp only [decide_eq_true_eq] at this
    omega
  have h2 : l.length ≤ 70 := by have := of_decide_eq_true h.2; omega
  have h3 : ∀ l : List Bs, (∀ w ∈ l, w.length ≤ 300) → (listS l).length ≤ 301 * l.length := by
    intro l
    induction l with
    | nil => intro _; exact Nat.le_refl _
    | cons w r ih =>
      intro hw
      have := ih (fun v hv => hw v (by simp [hv]))
      have := hw w (by simp)
      rw [listS]
      simp only [List.length_append, List.length_cons, List.length_nil]
      omega
  have := h3 l h1
  omega
theorem few_px {l : List Stp} (h : fewB l = true) : ∀ x ∈ l, PX x := by
  unfold fewB at h
  rw [Bool.and_eq_true] at h
  intro x hx
  have := List.any_eq_false.1 (by simpa using h.1) x hx
  unfold notFew at this
  simp only [Bool.or_eq_true, Bool.not_eq_true', not_or, Bool.not_eq_false, decide_eq_true_eq] at this
  obtain ⟨h1, h2, h3, h4⟩ := this
  exact ⟨short_px h1, short_px h2, short_px h3, by omega⟩
noncomputable def g_lawCh : List D → Option D := encSpec (fun x : Stp => [eSt x]) (fun x : Stp => StOK x) (fun x : Stp => .bool true)
theorem f_lawCh_ok : PureOK Tryz.prog 4 true g_lawCh := by
  have hΓ := Γp f_awake_ok (Γp f_few14_ok (Γp f_checkPr_ok (Γp f_check14_ok (Γn))))
  refine pure_enc (n := 16) (rs := [.tmp 2]) Tryz.func4 (by kernel_rfl) rfl (by kernel_rfl) (by kernel_rfl) ?_
  rintro x hd
  (try dsimp only at hd ⊢)
  refine ⟨fun _ => by (repeat (first | exact .int _ _ | exact .bool _ | exact .str _ | (refine .tup _ (fun d hd => ?_); simp only [List.mem_cons, List.not_mem_nil, or_false] at hd; rcases hd with rfl | hd))), fun k hz0 => ?_⟩
  have ea := g_awake_eq
  have e1 := g_few14_eq (l := [x]) ⟨by simp, fun w hw => by rw [List.mem_singleton.1 hw]; exact hd⟩
  have hp := fun h => few_px (l := [x]) h x (by simp)
  generalize fewB [x] = c at *
  rw [List.map_cons, List.map_nil] at e1
  rw [eSt_eq] at e1 ⊢
  rw [start_frame (by simp)]; simp only [enumV, go_sem, emptyH]
  cases c
  · repeat (first
    | (apply axJ; (focus ((with_reducible constructor) <;> rfl)))
    | (apply awT mixedOK hΓ (by kernel_rfl); (simp (disch := omega) only [go_sem, ↓reduceIte, dk, ↓lk, Int.reduceBEq, Int.reduceBNe, Bool.true_bne, Bool.false_bne, Bool.not_true, Bool.not_false, ea] <;> with_reducible rfl))
    | ((first | apply awR hΓ | apply awG | apply awH mixedOK hΓ rfl (by kernel_rfl) | apply ovE rfl); (simp (disch := omega) only [go_sem, ↓reduceIte, dk, ↓lk, Int.reduceBEq, Int.reduceBNe, Bool.true_bne, Bool.false_bne, Bool.not_true, Bool.not_false, ea] <;> with_reducible rfl); exact trivial)
    | rfl)
    (apply awp_regf mixedOK hΓ (by kernel_rfl); (simp (disch := omega) only [go_sem, ↓reduceIte, dk, ↓lk, Int.reduceBEq, Int.reduceBNe, Bool.true_bne, Bool.false_bne, Bool.not_true, Bool.not_false, e1] <;> with_reducible rfl); (simp only [go_sem] <;> with_reducible rfl))
    repeat (first
      | (apply axJ; (focus ((with_reducible constructor) <;> rfl)))
      | (apply awT mixedOK hΓ (by kernel_rfl); (simp (disch := omega) only [go_sem, ↓reduceIte, dk, ↓lk, Int.reduceBEq, Int.reduceBNe, Bool.true_bne, Bool.false_bne, Bool.not_true, Bool.not_false] <;> with_reducible rfl))
      | ((first | apply awR hΓ | apply awG | apply awH mixedOK hΓ rfl (by kernel_rfl) | apply ovE rfl); (simp (disch := omega) only [go_sem, ↓reduceIte, dk, ↓lk, Int.reduceBEq, Int.reduceBNe, Bool.true_bne, Bool.false_bne, Bool.not_true, Bool.not_false] <;> with_reducible rfl); exact trivial)
      | rfl)
    try rfl
  · have e2 := g_checkPr_eq (hp rfl)
    have e3 := g_check14_eq (hp rfl)
    rw [check_law] at e2
    rw [eSt_eq] at e2 e3
    repeat (first
      | (apply axJ; (focus ((with_reducible constructor) <;> rfl)))
      | (apply awT mixedOK hΓ (by kernel_rfl); (simp (disch := omega) only [go_sem, ↓reduceIte, dk, ↓lk, Int.reduceBEq, Int.reduceBNe, Bool.true_bne, Bool.false_bne, Bool.not_true, Bool.not_false, ea] <;> with_reducible rfl))
      | ((first | apply awR hΓ | apply awG | apply awH mixedOK hΓ rfl (by kernel_rfl) | apply ovE rfl); (simp (disch := omega) only [go_sem, ↓reduceIte, dk, ↓lk, Int.reduceBEq, Int.reduceBNe, Bool.true_bne, Bool.false_bne, Bool.not_true, Bool.not_false, ea] <;> with_reducible rfl); exact trivial)
      | rfl)
    (apply awp_regf mixedOK hΓ (by kernel_rfl); (simp (disch := omega) only [go_sem, ↓reduceIte, dk, ↓lk, Int.reduceBEq, Int.reduceBNe, Bool.true_bne, Bool.false_bne, Bool.not_true, Bool.not_false, e1, e2, e3, BEq.rfl] <;> with_reducible rfl); (simp only [go_sem] <;> with_reducible rfl))
    repeat (first
      | (apply axJ; (focus ((with_reducible constructor) <;> rfl)))
      | (apply awT mixedOK hΓ (by kernel_rfl); (simp (disch := omega) only [go_sem, ↓reduceIte, dk, ↓lk, Int.reduceBEq, Int.reduceBNe, Bool.true_bne, Bool.false_bne, Bool.not_true, Bool.not_false] <;> with_reducible rfl))
      | ((first | apply awR hΓ | apply awG | apply awH mixedOK hΓ rfl (by kernel_rfl) | apply ovE rfl); (simp (disch := omega) only [go_sem, ↓reduceIte, dk, ↓lk, Int.reduceBEq, Int.reduceBNe, Bool.true_bne, Bool.false_bne, Bool.not_true, Bool.not_false] <;> with_reducible rfl); exact trivial)
      | rfl)
    try rfl
noncomputable def g_lawPr : List D → Option D := encSpec (fun x : (List Stp) => [.list (x.map eSt)]) (fun x : (List Stp) => x.length ≤ 1099511627776 ∧ ∀ w ∈ x, StOK w) (fun x : (List Stp) => .bool true)
theorem f_lawPr_ok : PureOK Tryz.prog 5 true g_lawPr := by
  have hΓ := Γp f_awake_ok (Γp f_few14_ok (Γp f_printPr_ok (Γp f_print14_ok (Γn))))
  refine pure_enc (n := 30) (rs := [.tmp 2]) Tryz.func5 (by kernel_rfl) rfl (by kernel_rfl) (by kernel_rfl) ?_
  rintro l hd
  (try dsimp only at hd ⊢)
  refine ⟨fun _ => by (repeat (first | exact .int _ _ | exact .bool _ | exact .str _ | (refine .tup _ (fun d hd => ?_); simp only [List.mem_cons, List.not_mem_nil, or_false] at hd; rcases hd with rfl | hd))), fun k hz0 => ?_⟩
  have ea := g_awake_eq
  have e1 := g_few14_eq hd
  have hp := fun h => few_px (l := l) h
  generalize fewB l = c at *
  rw [start_frame (by simp)]; simp only [enumV, go_sem, emptyH]
  cases c
  · repeat (first
    | (apply axJ; (focus ((with_reducible constructor) <;> rfl)))
    | (apply awT mixedOK hΓ (by kernel_rfl); (simp (disch := omega) only [go_sem, ↓reduceIte, dk, ↓lk, Int.reduceBEq, Int.reduceBNe, Bool.true_bne, Bool.false_bne, Bool.not_true, Bool.not_false, ea, e1] <;> with_reducible rfl))
    | ((first | apply awR hΓ | apply awG | apply awH mixedOK hΓ rfl (by kernel_rfl) | apply ovE rfl); (simp (disch := omega) only [go_sem, ↓reduceIte, dk, ↓lk, Int.reduceBEq, Int.reduceBNe, Bool.true_bne, Bool.false_bne, Bool.not_true, Bool.not_false, ea, e1] <;> with_reducible rfl); exact trivial)
    | rfl)
    try rfl
  · have e2 := g_printPr_eq ⟨hd.1, hp rfl⟩
    have e3 := g_print14_eq ⟨hd.1, hp rfl⟩
    rw [print_law] at e2
    generalize printR l = r at *
    obtain ⟨t, e⟩ := r
    replace e2 : g_printPr [.list (l.map eSt)] = some (.tup [.str t, .int .i64 e]) := e2
    replace e3 : g_print14 [.list (l.map eSt)] = some (.tup [.str t, .int .i64 e]) := e3
    repeat (first
      | (apply axJ; (focus ((with_reducible constructor) <;> rfl)))
      | (apply awT mixedOK hΓ (by kernel_rfl); (simp (disch := omega) only [go_sem, ↓reduceIte, dk, ↓lk, Int.reduceBEq, Int.reduceBNe, Bool.true_bne, Bool.false_bne, Bool.not_true, Bool.not_false, ea, e1, e2, e3, BEq.rfl] <;> with_reducible rfl))
      | ((first | apply awR hΓ | apply awG | apply awH mixedOK hΓ rfl (by kernel_rfl) | apply ovE rfl); (simp (disch := omega) only [go_sem, ↓reduceIte, dk, ↓lk, Int.reduceBEq, Int.reduceBNe, Bool.true_bne, Bool.false_bne, Bool.not_true, Bool.not_false, ea, e1, e2, e3, BEq.rfl] <;> with_reducible rfl); exact trivial)
      | rfl)
    try rfl
end Go.Ab
