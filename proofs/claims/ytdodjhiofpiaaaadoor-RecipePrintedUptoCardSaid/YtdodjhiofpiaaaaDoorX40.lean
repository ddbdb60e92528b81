/-
  One text of the proof (own work): contracts of functions of the program, by the abstract machine.
-/
import Derived.Test.YtdodjhiofpiaaaaDoorX39
set_option linter.unusedVariables false
set_option linter.unusedSimpArgs false
namespace Go.Ab
open Go Go.RowKit Go.Proofs Go.Shelf
set_option maxRecDepth 10000
set_option maxHeartbeats 8000000
theorem line_named {s : Bs} {y : Stp} (h : lineR s = (y, 0)) : namedB y = true ∧ (y.kind = 1 → dupB [] y.wds = false) := by
  unfold lineR at h
  split at h
  · cases h
  generalize stepR (gList ((splitB 32 s).headD []) (splitB 32 s).tail) = p at h
  unfold lineP at h
  split at h
  · unfold lineS at h
    split at h
    · rename_i hn
      split at h
      · cases h
      · rename_i hk
        cases h
        refine ⟨hn, fun h1 => ?_⟩
        rw [h1] at hk
        simpa using hk
    · cases h
  · cases h
def N10 (w : Bs) : Prop := ∀ b ∈ w, b ≠ 10
theorem join_bytes {c : Bs} {l : List Bs} {P : UInt8 → Prop} (hc : ∀ b ∈ c, P b) (hl : ∀ w ∈ l, ∀ b ∈ w, P b) : ∀ b ∈ Lib.join l c, P b := by
  induction l with
  | nil => intro b hb; simp [Lib.join] at hb
  | cons w r ih =>
    cases r with
    | nil =>
      intro b hb
      rw [show Lib.join [w] c = w by simp [Lib.join]] at hb
      exact hl w (by simp) b hb
    | cons v q =>
      rw [join_cons _ _ _ (by simp)]
      intro b hb
      rcases List.mem_append.1 hb with hb | hb
      · rcases List.mem_append.1 hb with hb | hb
        · exact hl w (by simp) b hb
        · exact hc b hb
      · exact ih (fun x hx => hl x (by simp [hx])) b hb
theorem part_ten {w : Bs} (h : partB w = true) : N10 w := by
  cases w with
  | nil => intro b hb; cases hb
  | cons x r =>
    have hd : partB (x :: r) = (!(decide (((x :: r).length : Int) > 32)) && (!((x.toNat : Int) == 46) && (!((x.toNat : Int) == 45) && (x :: r).all pb))) := rfl
    rw [hd] at h
    simp only [Bool.and_eq_true] at h
    intro b hb hb2
    have := List.all_eq_true.1 h.2.2.2 b hb
    rw [hb2] at this
    exact absurd this (by decide)
theorem path_ten {s : Bs} (h : pathE s = 0) : N10 s := by
  unfold pathE at h
  split at h
  · exact absurd h (by decide)
  split at h
  · exact absurd h (by decide)
  split at h
  · rename_i ha
    rw [← split_join 47 s]
    refine join_bytes (P := fun b => b ≠ 10) (fun b hb => by rw [List.mem_singleton.1 hb]; decide) (fun w hw => part_ten (List.all_eq_true.1 ha w hw))
  · exact absurd h (by decide)
theorem ref_ten {s : Bs} (h : refB s = true) : N10 s := by
  cases s with
  | nil => intro b hb; cases hb
  | cons x r =>
    have hd : refB (x :: r) = if (x.toNat : Int) == 64 then pathE r == 0 && decide (((splitB 47 r).length : Int) > 1) else pathE (x :: r) == 0 := rfl
    rw [hd] at h
    split at h
    · rename_i hx
      simp only [Bool.and_eq_true, beq_iff_eq] at h
      intro b hb
      rcases List.mem_cons.1 hb with rfl | hb
      · intro h10
        rw [h10] at hx
        exact absurd hx (by decide)
      · exact path_ten h.1 b hb
    · exact path_ten (eq_of_beq h)
theorem id_ten {s : Bs} (h : idB s = true) : N10 s := by
  unfold idB at h
  rw [Bool.and_eq_true] at h
  have h := h.1
  cases s with
  | nil => intro b hb; cases hb
  | cons x r =>
    have hd : idForm (x :: r) = (!(decide (((x :: r).length : Int) > 32)) && (lettI x.toNat && (x :: r).all ldB)) := rfl
    rw [hd] at h
    simp only [Bool.and_eq_true] at h
    intro b hb hb2
    have := List.all_eq_true.1 h.2.2 b hb
    rw [hb2] at this
    exact absurd this (by decide)
theorem named_all {P : Bs → Prop} {x : Stp} (h : namedB x = true) (h1 : ∀ w, refB w = true → P w) (h2 : ∀ w, idB w = true → P w) (h3 : ∀ w, pathE w = 0 → P w) : (∀ w ∈ x.inn, P w) ∧ (∀ w ∈ x.usg, P w) ∧ (∀ w ∈ x.wds, P w) ∧ P x.out := by
  unfold namedB at h
  simp only [Bool.and_eq_true, beq_iff_eq] at h
  exact ⟨fun w hw => h1 w (List.all_eq_true.1 h.1 w hw), fun w hw => h1 w (List.all_eq_true.1 h.2.1 w hw), fun w hw => h2 w (List.all_eq_true.1 h.2.2.1 w hw), h3 _ h.2.2.2⟩
theorem beh_mem {P : Bs → Prop} {w : Bs} {l : List Bs} (hw : P w) (hl : ∀ v ∈ l, P v) : ∀ v ∈ behB w l, P v := by
  cases l with
  | nil => intro v hv; cases hv
  | cons x r =>
    intro v hv
    rcases List.mem_cons.1 hv with rfl | hv
    · exact hw
    · exact hl v hv
theorem headD_mem {P : Bs → Prop} {l : List Bs} (h0 : P []) (hl : ∀ v ∈ l, P v) : P (l.headD []) := by
  cases l with
  | nil => exact h0
  | cons x r => exact hl x (by simp)
theorem words_all {P : Bs → Prop} {x : Stp} (h0 : P []) (hk : ∀ w ∈ [kCompile, kArchive, kShare, kLink, kRun, kPatch, kCopy, kInstall, kTo, kWith, kUsing, kOn, kAs], P w) (hi : ∀ w ∈ x.inn, P w) (hu : ∀ w ∈ x.usg, P w) (hw : ∀ w ∈ x.wds, P w) (ho : P x.out) : ∀ w ∈ (wordsP x).1.flatten, P w := by
  have b1 := beh_mem (w := kWith) (hk _ (by simp)) hw
  have b2 := beh_mem (w := kUsing) (hk _ (by simp)) hu
  have b3 := headD_mem h0 hi
  have b4 := headD_mem h0 (fun v hv => hi v (List.mem_of_mem_drop hv)) (l := x.inn.drop 1)
  simp only [List.mem_cons, List.not_mem_nil, or_false, forall_eq_or_imp, forall_eq] at hk
  obtain ⟨k1, k2, k3, k4, k5, k6, k7, k8, k9, k10, k11, k12, k13⟩ := hk
  unfold wordsP
  repeat' split
  all_goals (simp only [List.flatten_cons, List.flatten_nil, List.append_nil, List.nil_append, List.mem_append, List.mem_cons, List.not_mem_nil, or_false, or_imp, forall_and, forall_eq])
  all_goals (first | (intro _ h; exact h.elim) | ((repeat' apply And.intro) <;> first | assumption | exact hi | exact hw | exact hu | exact b1 | exact b2))
theorem text_ten {x : Stp} (h : checkR x = 0) : N10 (textS x) := by
  obtain ⟨h1, h2, _⟩ := check_text h
  have hn := (line_named h2).1
  obtain ⟨n1, n2, n3, n4⟩ := named_all (P := N10) hn (fun w => ref_ten) (fun w => id_ten) (fun w => path_ten)
  have hw := words_all (P := N10) (x := x) (fun b hb => by cases hb) (by unfold N10; decide) n1 n2 n3 n4
  have ht : textS x = Lib.join (wordsP x).1.flatten [32] := (congrArg Prod.fst h1).symm
  rw [ht]
  exact join_bytes (P := fun b => b ≠ 10) (fun b hb => by rw [List.mem_singleton.1 hb]; decide) hw
theorem split_none {c : UInt8} {s : Bs} (h : ∀ b ∈ s, b ≠ c) : splitB c s = [s] := by
  induction s with
  | nil => rfl
  | cons x r ih =>
    rw [splitB, if_neg (by rw [beq_iff_eq]; exact h x (by simp)), ih (fun b hb => h b (by simp [hb]))]
    rfl
theorem ten_one {w : Bs} (h : N10 w) : oneL w = true := by
  unfold oneL
  rw [split_none h]
  rfl
theorem prGo_one : ∀ (l : List Stp) (acc ls : List Bs), (∀ w ∈ acc, N10 w) → prGo acc l = some ls → ∀ w ∈ ls, N10 w
  | [], acc, ls, ha, h => by
    cases h
    exact ha
  | x :: r, acc, ls, ha, h => by
    rw [prGo] at h
    split at h
    · rename_i hc
      rw [Bool.and_eq_true, beq_iff_eq] at hc
      refine prGo_one r _ ls (fun w hw => ?_) h
      rcases List.mem_append.1 hw with hw | hw
      · rcases List.mem_append.1 hw with hw | hw
        · exact ha w hw
        · rw [(List.mem_replicate.1 hw).2]; intro b hb; cases hb
      · rw [List.mem_singleton.1 hw]; exact text_ten hc.1
    · cases h
theorem prGo_ne : ∀ (l : List Stp) (acc ls : List Bs), prGo acc l = some ls → acc ≠ [] ∨ l ≠ [] → ls ≠ []
  | [], acc, ls, h, hn => by
    cases h
    rcases hn with hn | hn
    · exact hn
    · exact absurd rfl hn
  | x :: r, acc, ls, h, hn => by
    rw [prGo] at h
    split at h
    · exact prGo_ne r _ ls h (.inl (by simp))
    · cases h
end Go.Ab
namespace Go.Ab
open Go Go.RowKit Go.Proofs Go.Shelf
set_option maxRecDepth 10000
set_option maxHeartbeats 16000000
theorem atL_okP {x : Stp} (h : StOK x) (i : Int) : StOK (atL x i) := ⟨h.i, h.u, h.w, h.o⟩
theorem parseGo_ok : ∀ (ls : List Bs) (i : Nat) (acc : List Stp), (∀ w ∈ ls, w.length ≤ 1000000) → (∀ x ∈ acc, StOK x) → (parseGo i acc ls).1.length ≤ acc.length + ls.length ∧ ∀ x ∈ (parseGo i acc ls).1, StOK x
  | [], _, acc, _, ha => ⟨Nat.le_refl _, ha⟩
  | w :: r, i, acc, hl, ha => by
    rw [parseGo]
    split
    · have := parseGo_ok r (i + 1) acc (fun v hv => hl v (by simp [hv])) ha
      exact ⟨by simp only [List.length_cons]; omega, this.2⟩
    · split
      · have h2 := lineR_ok (s := w) (hl w (by simp))
        have := parseGo_ok r (i + 1) (acc ++ [atL (lineR w).1 i]) (fun v hv => hl v (by simp [hv])) (fun x hx => by
          rcases List.mem_append.1 hx with hx | hx
          · exact ha x hx
          · rw [List.mem_singleton.1 hx]; exact atL_okP h2 _)
        refine ⟨?_, this.2⟩
        have := this.1
        simp only [List.length_append, List.length_cons, List.length_nil] at this ⊢
        omega
      · exact ⟨Nat.zero_le _, fun x hx => by cases hx⟩
theorem parseR_ok (s : Bs) (hs : s.length ≤ 1000000) : (parseR s).1.length ≤ 1024 ∧ ∀ x ∈ (parseR s).1, StOK x := by
  obtain ⟨b1, b2⟩ := lines_bd s
  unfold parseR
  split
  · have := parseGo_ok (linesE s).1 0 [] (fun w hw => Nat.le_trans (b2 w hw) hs) (fun x hx => by cases hx)
    simp only [List.length_nil] at this
    exact ⟨by omega, this.2⟩
  · exact ⟨Nat.zero_le _, fun x hx => by cases hx⟩
theorem sameAll_rfl (l : List Stp) : sameAll l l = true := (sameAll_iff l l).2 rfl
theorem short_px {l : List Bs} (h : shortB l = true) : (listS l).length ≤ 100000 := by
  unfold shortB at h
  rw [Bool.and_eq_true] at h
  have h1 : ∀ w ∈ l, w.length ≤ 300 := fun w hw => by
    have := List.any_eq_false.1 (by simpa using h.1) w hw
    unfold shB at this
    simp only [decide_eq_true_eq] at this
    omega
  have h2 : l.length ≤ 70 := by have := of_decide_eq_true h.2; omega
  have h3 : ∀ l : List Bs, (∀ w ∈ l, w.length ≤ 300) → (listS l).length ≤ 301 * l.length := by
    intro l
    induction l with
    | nil => intro _; exact Nat.le_refl _
    | cons w r ih =>
      intro hw
      have := ih (fun v hv => hw v (by simp [hv]))
      have := hw w (by simp)
      rw [listS]
      simp only [List.length_append, List.length_cons, List.length_nil]
      omega
  have := h3 l h1
  omega
theorem few_px {l : List Stp} (h : fewB l = true) : ∀ x ∈ l, PX x := by
  unfold fewB at h
  rw [Bool.and_eq_true] at h
  intro x hx
  have := List.any_eq_false.1 (by simpa using h.1) x hx
  unfold notFew at this
  simp only [Bool.or_eq_true, Bool.not_eq_true', not_or, Bool.not_eq_false, decide_eq_true_eq] at this
  obtain ⟨h1, h2, h3, h4⟩ := this
  exact ⟨short_px h1, short_px h2, short_px h3, by omega⟩
end Go.Ab
namespace Go.Ab
open Go Go.RowKit Go.Proofs Go.Shelf
set_option maxRecDepth 10000
set_option maxHeartbeats 8000000
theorem split_at {c : UInt8} : ∀ {w : Bs} (h : ∀ b ∈ w, b ≠ c) (t : Bs), splitB c (w ++ c :: t) = w :: splitB c t
  | [], _, t => by rw [List.nil_append, splitB, if_pos (by simp)]
  | x :: w, h, t => by
    rw [List.cons_append, splitB, if_neg (by simp [h x (by simp)]), split_at (fun b hb => h b (by simp [hb])) t]
    rfl
theorem split_of_join {c : UInt8} : ∀ {L : List Bs}, L ≠ [] → (∀ w ∈ L, ∀ b ∈ w, b ≠ c) → splitB c (Lib.join L [c]) = L
  | [w], _, h => by
    rw [show Lib.join [w] [c] = w by simp [Lib.join]]
    exact split_none (h w (by simp))
  | w :: v :: r, _, h => by
    rw [join_cons _ _ _ (by simp), List.append_assoc]
    show splitB c (w ++ c :: Lib.join (v :: r) [c]) = _
    rw [split_at (h w (by simp)), split_of_join (by simp) (fun x hx => h x (by simp [hx]))]
theorem text_ne {x : Stp} (h : checkR x = 0) : textS x ≠ [] := by
  obtain ⟨_, h2, _⟩ := check_text h
  intro h0
  rw [h0] at h2
  have : lineR [] = (zStp, 4) := rfl
  rw [this] at h2
  exact absurd (show (4 : Int) = 0 from congrArg Prod.snd h2) (by decide)
theorem parseGo_blank : ∀ (k i : Nat) (a : List Stp) (q : List Bs), parseGo i a (List.replicate k [] ++ q) = parseGo (i + k) a q
  | 0, i, a, q => rfl
  | k + 1, i, a, q => by
    rw [List.replicate_succ, List.cons_append, parseGo, if_pos (by simp), parseGo_blank k (i + 1) a q, show i + 1 + k = i + (k + 1) by omega]
theorem atL_at (x : Stp) (i : Int) : atL (atL x 0) i = atL x i := rfl
theorem atL_self {x : Stp} {i : Int} (h : x.line = i) : atL x i = x := by
  cases x
  subst h
  rfl
theorem go_parse : ∀ (l accS : List Stp) (acc ls : List Bs), prGo acc l = some ls → accS.length + l.length ≤ 64 → ∃ suf, ls = acc ++ suf ∧ parseGo acc.length accS suf = (accS ++ l, -1, 0)
  | [], accS, acc, ls, h, _ => by
    cases h
    exact ⟨[], by simp, by simp [parseGo]⟩
  | x :: r, accS, acc, ls, h, hn => by
    rw [prGo] at h
    split at h
    · rename_i hc
      rw [Bool.and_eq_true, beq_iff_eq] at hc
      obtain ⟨hc, hlt⟩ := hc
      obtain ⟨_, h2, h3, _⟩ := check_text hc
      have hge : (acc.length : Int) ≤ x.line := by simpa using hlt
      simp only [List.length_cons] at hn
      obtain ⟨suf, e1, e2⟩ := go_parse r (accS ++ [x]) _ ls h (by rw [List.length_append, List.length_singleton]; omega)
      refine ⟨List.replicate (x.line.toNat - acc.length) [] ++ (textS x :: suf), by rw [e1]; simp, ?_⟩
      rw [parseGo_blank, parseGo, if_neg (by simpa using text_ne hc), h2]
      have hadd : addE accS.length 0 = 0 := by
        unfold addE
        rw [if_pos (show ((0 : Int) == 0) = true from rfl), if_neg (by simp only [decide_eq_true_eq]; omega)]
      dsimp only
      rw [hadd, if_pos (show ((0 : Int) == 0) = true from rfl), atL_at]
      have hpos : acc.length + (x.line.toNat - acc.length) = x.line.toNat := by omega
      rw [hpos, atL_self (by omega)]
      have hlen : (acc ++ List.replicate (x.line.toNat - acc.length) [] ++ [textS x]).length = x.line.toNat + 1 := by simp; omega
      rw [hlen] at e2
      rw [e2]
      simp
    · cases h
theorem prGo_check : ∀ (l : List Stp) (acc ls : List Bs), prGo acc l = some ls → ∀ x ∈ l, checkR x = 0
  | [], _, _, _, x, hx => by cases hx
  | y :: r, acc, ls, h, x, hx => by
    rw [prGo] at h
    split at h
    · rename_i hc
      rw [Bool.and_eq_true, beq_iff_eq] at hc
      rcases List.mem_cons.1 hx with rfl | hx
      · exact hc.1
      · exact prGo_check r _ ls h x hx
    · cases h
theorem joinR_zero {L : List Bs} {s : Bs} (h : joinR L = (s, 0)) : L ≠ [] ∧ s = Lib.join L [10] ∧ L.length ≤ 1024 ∧ s.length ≤ 65536 := by
  cases L with
  | nil => cases h
  | cons w r =>
    rw [joinR_cons] at h
    split at h
    · split at h
      · cases h
      · rename_i h2
        simp only [Bool.or_eq_true, decide_eq_true_eq, not_or] at h2
        have hs : w ++ joinT r = s := congrArg Prod.fst h
        rw [hs] at h2
        refine ⟨by simp, by rw [join_T, hs], ?_, ?_⟩
        · simp only [List.length_cons]; omega
        · omega
    · cases h
theorem linesE_ok {s : Bs} (h1 : s.length ≤ 65536) (h2 : (splitB 10 s).length ≤ 1024) : linesE s = (splitB 10 s, 0) := by
  unfold linesE
  rw [if_neg (by simp only [decide_eq_true_eq]; omega), if_neg (by simp only [decide_eq_true_eq]; omega)]
theorem print_parse {l : List Stp} {s : Bs} (h : printPl l = (s, 0)) : parseR s = (l, -1, 0) ∧ ∀ x ∈ l, checkR x = 0 := by
  unfold printPl at h
  split at h
  · cases h
  · rename_i hl
    simp only [decide_eq_true_eq] at hl
    cases hp : prGo [] l with
    | none => rw [hp] at h; cases h
    | some ls =>
      rw [hp] at h
      have h : joinR (lnsOf ls) = (s, 0) := h
      obtain ⟨j1, j2, j3, j4⟩ := joinR_zero h
      have hten := prGo_one _ _ _ (fun w hw => by cases hw) hp
      have hten2 : ∀ w ∈ lnsOf ls, ∀ b ∈ w, b ≠ 10 := by
        cases ls with
        | nil => intro w hw b hb; simp [lnsOf] at hw; rw [hw] at hb; cases hb
        | cons v r => exact hten
      have hsp : splitB 10 s = lnsOf ls := by rw [j2]; exact split_of_join j1 hten2
      refine ⟨?_, prGo_check _ _ _ hp⟩
      unfold parseR
      rw [linesE_ok j4 (by rw [hsp]; exact j3), hsp]
      dsimp only
      rw [if_pos (by decide)]
      obtain ⟨suf, e1, e2⟩ := go_parse l [] [] ls hp (by simp only [List.length_nil]; omega)
      rw [List.nil_append] at e1
      subst e1
      cases ls with
      | nil =>
        cases l with
        | nil => rfl
        | cons x r => exact absurd rfl (prGo_ne _ _ _ hp (.inr (by simp)))
      | cons v q => exact e2
theorem print_err {l : List Stp} {s : Bs} {e : Int} (h : printPl l = (s, e)) (he : e ≠ 0) : s = [] := by
  unfold printPl at h
  split at h
  · cases h; rfl
  · cases hp : prGo [] l with
    | none => rw [hp] at h; cases h; rfl
    | some ls =>
      rw [hp] at h
      have h : joinR (lnsOf ls) = (s, e) := h
      have := joinR_err (lnsOf ls) (by rw [h]; exact he)
      rw [h] at this
      exact this
theorem go_print : ∀ (q : List Bs) (i : Nat) (accS l : List Stp), i + q.length ≤ 1024 → parseGo i accS q = (l, -1, 0) →
    ∃ (l' : List Stp) (k : Nat) (q' : List Bs), l = accS ++ l' ∧ q = q' ++ List.replicate k [] ∧ ((q' = [] ∧ l' = []) ∨ (l' ≠ [] ∧ ∃ h : q' ≠ [], q'.getLast h ≠ [])) ∧
      ∀ (acc : List Bs) (m : Nat), acc.length + m = i → prGo acc l' = some (if l'.isEmpty then acc else acc ++ List.replicate m [] ++ q')
  | [], i, accS, l, _, h => by
    cases h
    exact ⟨[], 0, [], by simp, rfl, .inl ⟨rfl, rfl⟩, fun acc m _ => rfl⟩
  | w :: r, i, accS, l, hi, h => by
    simp only [List.length_cons] at hi
    rw [parseGo] at h
    split at h
    · rename_i hw
      have hw := eq_of_beq hw
      subst hw
      obtain ⟨l', k, q', e1, e2, e3, e4⟩ := go_print r (i + 1) accS l (by omega) h
      rcases e3 with ⟨rfl, rfl⟩ | ⟨h1, h2, h3⟩
      · exact ⟨[], k + 1, [], e1, by rw [e2]; rfl, .inl ⟨rfl, rfl⟩, fun acc m _ => rfl⟩
      · refine ⟨l', k, [] :: q', e1, by rw [e2]; rfl, .inr ⟨h1, by simp, by rw [List.getLast_cons h2]; exact h3⟩, fun acc m hm => ?_⟩
        have := e4 acc (m + 1) (by omega)
        rw [this]
        have hne : l'.isEmpty = false := by cases l' with | nil => exact absurd rfl h1 | cons => rfl
        rw [hne]
        simp [List.replicate_succ']
    · rename_i hw
      have hw : w ≠ [] := by simpa using hw
      split at h
      · rename_i ha
        have he : (lineR w).2 = 0 := by
          unfold addE at ha
          split at ha
          · rename_i hz
            exact eq_of_beq hz
          · exact eq_of_beq ha
        have hl : lineR w = ((lineR w).1, 0) := Prod.ext rfl he
        obtain ⟨t1, t2, t3⟩ := line_text hl
        obtain ⟨l', k, q', e1, e2, e3, e4⟩ := go_print r (i + 1) (accS ++ [atL (lineR w).1 i]) l (by omega) h
        have htx : textS (atL (lineR w).1 i) = w := by rw [textS_at]; exact t2.symm
        have hck : checkR (atL (lineR w).1 i) = 0 := by
          unfold checkR
          rw [htx, hl]
          dsimp only
          rw [if_neg (by simp only [Bool.or_eq_true, decide_eq_true_eq]; show ¬ ((i : Int) < 0 ∨ (i : Int) ≥ 1024); omega)]
          have : ((0 : Int) == 0 && sameB (atL (lineR w).1 i) (atL (lineR w).1 (atL (lineR w).1 i).line)) = true := by
            rw [Bool.and_eq_true]
            exact ⟨rfl, (sameB_iff _ _).2 rfl⟩
          rw [if_pos this]
        refine ⟨atL (lineR w).1 i :: l', k, w :: q', by rw [e1]; simp, by rw [e2]; rfl, .inr ⟨by simp, by simp, ?_⟩, fun acc m hm => ?_⟩
        · rcases e3 with ⟨rfl, rfl⟩ | ⟨_, h2, h3⟩
          · exact hw
          · rw [List.getLast_cons h2]; exact h3
        · rw [prGo, hck, htx]
          have hln : (atL (lineR w).1 (i : Int)).line = (i : Int) := rfl
          rw [hln, if_pos (by simp; omega), Int.toNat_natCast, show i - acc.length = m by omega]
          rw [e4 (acc ++ List.replicate m [] ++ [w]) 0 (by simp; omega)]
          rcases e3 with ⟨rfl, rfl⟩ | ⟨h1, _⟩
          · simp
          · have hne : l'.isEmpty = false := by cases l' with | nil => exact absurd rfl h1 | cons => rfl
            rw [hne]
            simp
      · rename_i ha
        have := congrArg (fun z : List Stp × Int × Int => z.2.2) h
        dsimp only at this
        rw [this] at ha
        exact absurd rfl ha
end Go.Ab
namespace Go.Ab
open Go Go.RowKit Go.Proofs Go.Shelf
set_option maxRecDepth 10000
set_option maxHeartbeats 8000000
def rtrim (t : Bs) : Bs := (t.reverse.dropWhile (· == 10)).reverse
theorem rtrim_app (u : Bs) (b : UInt8) (k : Nat) (hb : b ≠ 10) : rtrim (u ++ [b] ++ List.replicate k 10) = u ++ [b] := by
  unfold rtrim
  have h : ∀ k : Nat, (List.replicate k (10 : UInt8) ++ b :: u.reverse).dropWhile (· == 10) = b :: u.reverse := by
    intro k
    induction k with
    | zero => rw [List.replicate_zero, List.nil_append, List.dropWhile_cons, if_neg (by simpa using hb)]
    | succ k ih => rw [List.replicate_succ, List.cons_append, List.dropWhile_cons, if_pos (by simp), ih]
  rw [List.reverse_append, List.reverse_append, List.reverse_replicate, List.reverse_singleton, List.singleton_append, h k]
  simp
theorem rtrim_all (k : Nat) : rtrim (List.replicate k 10) = [] := by
  unfold rtrim
  rw [List.reverse_replicate]
  induction k with
  | zero => rfl
  | succ k ih => rw [List.replicate_succ, List.dropWhile_cons, if_pos (by simp)]; exact ih
theorem join_snoc : ∀ {L : List Bs}, L ≠ [] → Lib.join (L ++ [[]]) [10] = Lib.join L [10] ++ [10]
  | [w], _ => by simp [Lib.join]
  | w :: v :: r, _ => by
    rw [List.cons_append, join_cons _ _ _ (by simp), join_cons _ _ _ (by simp), join_snoc (L := v :: r) (by simp)]
    simp
theorem join_rep {L : List Bs} (h : L ≠ []) : ∀ k : Nat, Lib.join (L ++ List.replicate k []) [10] = Lib.join L [10] ++ List.replicate k 10
  | 0 => by simp
  | k + 1 => by
    rw [List.replicate_succ', ← List.append_assoc, join_snoc (by simp [h]), join_rep h k, List.replicate_succ', ← List.append_assoc]
theorem join_last : ∀ {L : List Bs} (h : L ≠ []), L.getLast h ≠ [] → ∃ u b, Lib.join L [10] = u ++ [b] ∧ b ∈ L.getLast h
  | [w], _, hl => by
    rw [show Lib.join [w] [10] = w by simp [Lib.join]]
    have hl : w ≠ [] := hl
    exact ⟨w.dropLast, w.getLast hl, (List.dropLast_concat_getLast hl).symm, List.getLast_mem hl⟩
  | w :: v :: r, _, hl => by
    rw [List.getLast_cons (by simp)] at hl
    obtain ⟨u, b, h1, h2⟩ := join_last (L := v :: r) (by simp) hl
    refine ⟨w ++ [10] ++ u, b, ?_, ?_⟩
    · rw [join_cons _ _ _ (by simp), h1]; simp
    · rw [List.getLast_cons (by simp)]; exact h2
theorem go_end : ∀ (q : List Bs) (i : Nat) (acc l : List Stp) (n e : Int), parseGo i acc q = (l, n, e) → (e = 0 ∧ n = -1 ∧ acc.length ≤ l.length ∧ (acc.length ≤ 64 → l.length ≤ 64)) ∨ (e ≠ 0 ∧ l = [] ∧ (i : Int) ≤ n ∧ n < (i : Int) + q.length)
  | [], i, acc, l, n, e, h => by
    cases h
    exact .inl ⟨rfl, rfl, Nat.le_refl _, fun h => h⟩
  | w :: r, i, acc, l, n, e, h => by
    rw [parseGo] at h
    split at h
    · rcases go_end r (i + 1) acc l n e h with h1 | ⟨h1, h2, h3, h4⟩
      · exact .inl h1
      · exact .inr ⟨h1, h2, by omega, by simp only [List.length_cons]; omega⟩
    · split at h
      · rename_i ha
        have hlt : acc.length < 64 := by
          have ha := eq_of_beq ha
          unfold addE at ha
          split at ha
          · split at ha
            · exact absurd ha (by decide)
            · rename_i hx
              simp only [decide_eq_true_eq] at hx
              omega
          · rename_i hx
            rw [ha] at hx
            exact absurd rfl hx
        rcases go_end r (i + 1) _ l n e h with ⟨h1, h2, h3, h4⟩ | ⟨h1, h2, h3, h4⟩
        · rw [List.length_append, List.length_singleton] at h3 h4
          exact .inl ⟨h1, h2, by omega, fun _ => h4 (by omega)⟩
        · exact .inr ⟨h1, h2, by omega, by simp only [List.length_cons]; omega⟩
      · rename_i ha
        cases h
        exact .inr ⟨by simpa using ha, rfl, by omega, by simp only [List.length_cons]; omega⟩
theorem prGo_lines : ∀ (l : List Stp) (acc ls : List Bs), prGo acc l = some ls → (∀ x ∈ l, (acc.length : Int) ≤ x.line) ∧ l.Pairwise (fun x y => x.line < y.line)
  | [], _, _, _ => ⟨fun x hx => (by cases hx), List.Pairwise.nil⟩
  | x :: r, acc, ls, h => by
    rw [prGo] at h
    split at h
    · rename_i hc
      rw [Bool.and_eq_true, beq_iff_eq] at hc
      have hge : (acc.length : Int) ≤ x.line := by simpa using hc.2
      obtain ⟨h1, h2⟩ := prGo_lines r _ ls h
      have hlen : ((acc ++ List.replicate (x.line.toNat - acc.length) [] ++ [textS x]).length : Int) = x.line + 1 := by simp; omega
      rw [hlen] at h1
      refine ⟨fun y hy => ?_, List.Pairwise.cons (fun y hy => by have := h1 y hy; omega) h2⟩
      rcases List.mem_cons.1 hy with rfl | hy
      · exact hge
      · have := h1 y hy; omega
    · cases h
theorem parseR_if (t : Bs) : parseR t = if t.length ≤ 65536 ∧ (splitB 10 t).length ≤ 1024 then parseGo 0 [] (splitB 10 t) else ([], -1, 10) := by
  by_cases h : t.length ≤ 65536 ∧ (splitB 10 t).length ≤ 1024
  · rw [if_pos h]
    unfold parseR
    rw [linesE_ok h.1 h.2, if_pos (show ((0 : Int) == 0) = true from rfl)]
  · rw [if_neg h]
    have : linesE t = ([], 10) := by
      unfold linesE
      by_cases h1 : t.length ≤ 65536
      · rw [if_neg (by simp only [decide_eq_true_eq]; omega), if_pos (by simp only [decide_eq_true_eq]; omega)]
      · rw [if_pos (by simp only [decide_eq_true_eq]; omega)]
    unfold parseR
    rw [this]
    rfl
theorem parse_print {t : Bs} {l : List Stp} {n : Int} (h : parseR t = (l, n, 0)) : n = -1 ∧ printPl l = (rtrim t, 0) ∧ (∀ x ∈ l, checkR x = 0) ∧ l.Pairwise (fun x y => x.line < y.line) := by
  have ht : t.length ≤ 65536 ∧ (splitB 10 t).length ≤ 1024 ∧ parseGo 0 [] (splitB 10 t) = (l, n, 0) := by
    rw [parseR_if] at h
    split at h
    · rename_i hc
      exact ⟨hc.1, hc.2, h⟩
    · cases h
  obtain ⟨t1, t2, t3⟩ := ht
  have hno := splitB_no 10 t
  have hj := split_join 10 t
  rcases go_end _ _ _ _ _ _ t3 with ⟨_, hn, _, h64⟩ | ⟨h0, _⟩
  · subst hn
    have h64 := h64 (by simp)
    obtain ⟨l', k, q', e1, e2, e3, e4⟩ := go_print _ 0 [] l (by omega) t3
    rw [List.nil_append] at e1
    subst e1
    have hp := e4 [] 0 rfl
    obtain ⟨_, hpw⟩ := prGo_lines _ _ _ hp
    refine ⟨rfl, ?_, prGo_check _ _ _ hp, hpw⟩
    unfold printPl
    rw [if_neg (by simp only [decide_eq_true_eq]; omega), hp]
    rw [e2] at hj hno t2
    rcases e3 with ⟨rfl, rfl⟩ | ⟨h1, h2, h3⟩
    · show joinR [[]] = _
      have : rtrim t = [] := by
        rw [← hj]
        cases k with
        | zero => rfl
        | succ k =>
          rw [List.nil_append, List.replicate_succ]
          have := join_rep (L := [[]]) (by simp) k
          rw [show [[]] ++ List.replicate k ([] : Bs) = [] :: List.replicate k [] from rfl] at this
          rw [this]
          exact rtrim_all k
      rw [this]
      rfl
    · have hne : l.isEmpty = false := by cases l with | nil => exact absurd rfl h1 | cons => rfl
      rw [hne]
      simp only [Bool.false_eq_true, if_false, List.append_nil, List.replicate_zero, List.nil_append]
      show joinR (lnsOf q') = _
      rw [lnsOf_ne h2]
      obtain ⟨u, b, hu, hb⟩ := join_last h2 h3
      have hb10 : b ≠ 10 := hno _ (List.mem_append_left _ (List.getLast_mem h2)) b hb
      have htr : rtrim t = Lib.join q' [10] := by
        rw [← hj, join_rep h2, hu]
        exact rtrim_app u b k hb10
      have hle : (Lib.join q' [10]).length ≤ t.length := by
        rw [← hj, join_rep h2, List.length_append]
        omega
      rw [List.length_append] at t2
      rw [htr]
      cases q' with
      | nil => exact absurd rfl h2
      | cons w r =>
        rw [join_T] at hle ⊢
        rw [joinR_cons, if_pos (List.all_eq_true.2 fun v hv => ten_one (hno v (List.mem_append_left _ hv))), if_neg]
        simp only [Bool.or_eq_true, decide_eq_true_eq, not_or, List.length_cons] at t2 ⊢
        omega
  · exact absurd rfl h0
theorem parse_err {t : Bs} {l : List Stp} {n e : Int} (h : parseR t = (l, n, e)) (he : e ≠ 0) : l = [] ∧ (0 ≤ n ∨ e = 10) ∧ n ≤ t.count 10 := by
  have hc := split_count 10 t
  rw [parseR_if] at h
  split at h
  · rcases go_end _ _ _ _ _ _ h with ⟨h3, _⟩ | ⟨_, h4, h5, h6⟩
    · exact absurd h3 he
    · exact ⟨h4, .inl (by omega), by omega⟩
  · cases h
    exact ⟨rfl, .inr rfl, by omega⟩
end Go.Ab
namespace Go.Ab
open Go Go.RowKit Go.Proofs Go.Shelf
set_option maxRecDepth 10000
set_option maxHeartbeats 8000000
theorem split_app (c : UInt8) : ∀ a b : Bs, splitB c (a ++ c :: b) = splitB c a ++ splitB c b
  | [], b => by
    show splitB c (c :: b) = [] :: splitB c b
    rw [splitB, if_pos (by simp)]
  | x :: a, b => by
    rw [List.cons_append, splitB, splitB, split_app c a b]
    split
    · rfl
    · cases h : splitB c a with
      | nil => exact absurd h (splitB_ne c a)
      | cons w r => rfl
def sh (k : Int) (x : Stp) : Stp := ⟨x.line + k, x.kind, x.inn, x.usg, x.wds, x.out⟩
theorem go_ext : ∀ (q : List Bs) (i : Nat) (acc : List Stp) (l : List Stp) (n : Int), parseGo i acc q = (l, n, 0) → ∃ r, l = acc ++ r
  | [], i, acc, l, n, h => by
    cases h
    exact ⟨[], by simp⟩
  | w :: q, i, acc, l, n, h => by
    rw [parseGo] at h
    split at h
    · exact go_ext q (i + 1) acc l n h
    · split at h
      · obtain ⟨r, hr⟩ := go_ext q (i + 1) _ l n h
        exact ⟨atL (lineR w).1 i :: r, by rw [hr]; simp⟩
      · rename_i ha
        have := congrArg (fun z : List Stp × Int × Int => z.2.2) h
        dsimp only at this
        rw [this] at ha
        exact absurd rfl ha
theorem addE_ne {n : Nat} {e : Int} (h : (e == 0) = false) : addE n e = e := by
  unfold addE
  rw [h]
  rfl
theorem addE_z (n : Nat) : addE n 0 = if 64 ≤ n then 10 else 0 := by
  unfold addE
  rw [if_pos (show ((0 : Int) == 0) = true from rfl)]
  by_cases h : 64 ≤ n
  · rw [if_pos h, if_pos (by simp only [decide_eq_true_eq]; omega)]
  · rw [if_neg h, if_neg (by simp only [decide_eq_true_eq]; omega)]
def shiftR (k : Int) (P : List Stp) (r : List Stp × Int × Int) : List Stp × Int × Int := if r.2.2 == 0 then (P ++ r.1.map (sh k), -1, 0) else ([], r.2.1 + k, r.2.2)
theorem go_shift (k : Nat) (P : List Stp) : ∀ (q : List Bs) (i : Nat) (acc : List Stp),
    parseGo (i + k) (P ++ acc.map (sh k)) q = shiftR k P (parseGo i acc q) ∨ (P ≠ [] ∧ (∃ n, parseGo (i + k) (P ++ acc.map (sh k)) q = ([], n, 10)) ∧ ((parseGo i acc q).2.2 = 0 → 64 < P.length + (parseGo i acc q).1.length))
  | [], i, acc => .inl rfl
  | w :: q, i, acc => by
    rw [parseGo, parseGo]
    have ih := go_shift k P q (i + 1)
    rw [show i + 1 + k = i + k + 1 by omega] at ih
    split
    · exact ih acc
    · cases he : ((lineR w).2 == 0) with
      | false =>
        left
        rw [addE_ne he, addE_ne he, if_neg (by rw [he]; decide), if_neg (by rw [he]; decide)]
        unfold shiftR
        dsimp only
        rw [he]
        simp
      | true =>
        have he := eq_of_beq he
        rw [he, addE_z, addE_z, List.length_append, List.length_map]
        by_cases h1 : 64 ≤ acc.length
        · left
          rw [if_pos h1, if_pos (by omega : 64 ≤ P.length + acc.length), if_neg (by decide), if_neg (by decide)]
          unfold shiftR
          simp
        · rw [if_neg h1, if_pos (show ((0 : Int) == 0) = true from rfl)]
          by_cases h2 : 64 ≤ P.length + acc.length
          · right
            rw [if_pos h2, if_neg (by decide)]
            refine ⟨fun hp => by rw [hp] at h2; simp at h2; omega, ⟨_, rfl⟩, fun h0 => ?_⟩
            obtain ⟨r, hr⟩ := go_ext q (i + 1) (acc ++ [atL (lineR w).1 i]) (parseGo (i + 1) (acc ++ [atL (lineR w).1 i]) q).1 (parseGo (i + 1) (acc ++ [atL (lineR w).1 i]) q).2.1 (Prod.ext rfl (Prod.ext rfl h0))
            have hr2 := congrArg List.length hr
            simp only [List.length_append, List.length_singleton] at hr2
            omega
          · rw [if_neg h2, if_pos (show ((0 : Int) == 0) = true from rfl)]
            have := ih (acc ++ [atL (lineR w).1 i])
            have e : P ++ (acc ++ [atL (lineR w).1 (i : Int)]).map (sh k) = P ++ acc.map (sh k) ++ [atL (lineR w).1 ((i + k : Nat) : Int)] := by
              rw [List.map_append, ← List.append_assoc]
              rfl
            rw [e] at this
            exact this
theorem go_app : ∀ (A B : List Bs) (i : Nat) (acc : List Stp), parseGo i acc (A ++ B) = if (parseGo i acc A).2.2 == 0 then parseGo (i + A.length) (parseGo i acc A).1 B else parseGo i acc A
  | [], B, i, acc => rfl
  | w :: A, B, i, acc => by
    rw [List.cons_append, parseGo, parseGo]
    split
    · rw [go_app A B (i + 1) acc, List.length_cons, show i + 1 + A.length = i + (A.length + 1) by omega]
    · split
      · rw [go_app A B (i + 1) _, List.length_cons, show i + 1 + A.length = i + (A.length + 1) by omega]
      · rename_i h
        rfl
theorem join_law {a b : Bs} (ha : a.length ≤ 2000) (hb : b.length ≤ 2000) (hc : (a ++ b).count 10 ≤ 1000) :
    ((parseR a).2.2 ≠ 0 → parseR (a ++ 10 :: b) = ([], (parseR a).2.1, (parseR a).2.2)) ∧
    ((parseR a).2.2 = 0 → parseR (a ++ 10 :: b) = shiftR ((a.count 10 + 1 : Nat) : Int) (parseR a).1 (parseR b) ∨
      ((parseR a).1 ≠ [] ∧ (∃ n, parseR (a ++ 10 :: b) = ([], n, 10)) ∧ ((parseR b).2.2 = 0 → 64 < (parseR a).1.length + (parseR b).1.length))) := by
  rw [List.count_append] at hc
  have h1 := split_count 10 a
  have h2 := split_count 10 b
  have h3 := split_app 10 a b
  have e1 : parseR a = parseGo 0 [] (splitB 10 a) := by rw [parseR_if, if_pos ⟨by omega, by omega⟩]
  have e2 : parseR b = parseGo 0 [] (splitB 10 b) := by rw [parseR_if, if_pos ⟨by omega, by omega⟩]
  have e3 : parseR (a ++ 10 :: b) = parseGo 0 [] (splitB 10 a ++ splitB 10 b) := by
    rw [parseR_if, h3, if_pos ⟨by simp only [List.length_append, List.length_cons]; omega, by rw [List.length_append]; omega⟩]
  rw [e1, e2, e3, go_app]
  refine ⟨fun h => ?_, fun h => ?_⟩
  · rw [if_neg (by simpa using h)]
    rcases go_end _ _ _ _ _ _ (show parseGo 0 [] (splitB 10 a) = ((parseGo 0 [] (splitB 10 a)).1, (parseGo 0 [] (splitB 10 a)).2.1, (parseGo 0 [] (splitB 10 a)).2.2) from rfl) with ⟨h5, _⟩ | ⟨_, h5, _⟩
    · exact absurd h5 h
    · exact Prod.ext h5 rfl
  · rw [if_pos (by rw [h]; rfl), h1]
    have := go_shift (a.count 10 + 1) (parseGo 0 [] (splitB 10 a)).1 (splitB 10 b) 0 []
    rw [List.map_nil, List.append_nil] at this
    exact this
end Go.Ab
