/-
  One text of the proof (own work): contracts of functions of the program, by the abstract machine.
-/
import Derived.Test.YtabenhkajabaeaaDoorX46
import Derived.Test.YtabenhkajabaeaaDoorX23
import Derived.Test.YtabenhkajabaeaaDoorX45
set_option linter.unusedVariables false
set_option linter.unusedSimpArgs false
namespace Go.Ab
open Go Go.RowKit Go.Proofs
set_option maxRecDepth 10000
set_option maxHeartbeats 4000000
theorem lay_app {l1 l2 : List Tk} {t1 t2 : List UInt8} (h1 : Lay l1 t1) (h2 : Lay l2 t2) (ht : ∀ x r, t2 = x :: r → letter x = false) : Lay (l1 ++ l2) (t1 ++ t2) := by
  induction h1 with
  | nil => exact h2
  | bl h ih => exact .bl ih
  | p hc h ih => exact .p hc ih
  | @w b l t hb ha ht' h ih =>
    rw [List.append_assoc]
    refine .w hb ha (fun x r e => ?_) ih
    cases t with
    | nil => exact ht x r e
    | cons y t => cases e; exact ht' _ _ rfl
theorem name_w {n : List UInt8} (h : isNameB n = true) : n ≠ [] ∧ n.all letter = true := by
  unfold isNameB at h
  simp only [Bool.and_eq_true] at h
  refine ⟨fun e => ?_, h.2.2.2.2.2⟩
  rw [e] at h
  exact absurd h.2.1 (by decide)
theorem lay_w1 {n : List UInt8} (h : n ≠ [] ∧ n.all letter = true) : Lay [.w n] n := by
  have := Lay.w h.1 h.2 (t := []) (fun _ _ e => by cases e) .nil
  rwa [List.append_nil] at this
theorem lay_sep {w : List UInt8} (hw : w ≠ [] ∧ w.all letter = true) {l : List Tk} {t : List UInt8} (h : Lay l t) : Lay (.w w :: l) (32 :: (w ++ 32 :: t)) :=
  .bl (.w hw.1 hw.2 (fun x r e => by cases e; decide) (.bl h))
theorem hd_bl {t : List UInt8} : ∀ x r, (32 : UInt8) :: t = x :: r → letter x = false := fun x r e => by cases e; decide
theorem wordK_w (k : Int) : wordK k ≠ [] ∧ (wordK k).all letter = true := by unfold wordK; split <;> decide
theorem sep_word (k : Int) (t : List UInt8) : sepX k ++ t = 32 :: (wordK k ++ 32 :: t) := by unfold sepX wordK; split <;> rfl
theorem lay_join (k : Int) : ∀ (l : List LX), l ≠ [] → (∀ y ∈ l, Lay (tks y) (textX y)) → Lay (joinK (wordK k) (l.map (pTks k))) (Lib.join (l.map (pText k)) (sepX k))
  | [], h, _ => absurd rfl h
  | [y], _, h => by
    rw [List.map_cons, List.map_nil, List.map_cons, List.map_nil, Lib.join_cons]
    have e : Lib.joinTail (sepX k) [] = [] := rfl
    rw [e, List.append_nil]
    show Lay (pTks k y) (pText k y)
    unfold pTks pText
    split
    · exact .p (.inl rfl) (lay_app (h y (by simp)) (.p (.inr (.inl rfl)) .nil) (fun x r e => by cases e; decide))
    · exact h y (by simp)
  | y :: z :: r, _, h => by
    have ih := lay_join k (z :: r) (by simp) (fun q hq => h q (by simp [hq]))
    have e : Lib.join ((y :: z :: r).map (pText k)) (sepX k) = pText k y ++ (sepX k ++ Lib.join ((z :: r).map (pText k)) (sepX k)) := by
      simp only [List.map_cons, Lib.join_cons, Lib.joinTail, List.flatten_cons, List.append_assoc]
    rw [e, sep_word]
    show Lay (pTks k y ++ .w (wordK k) :: joinK (wordK k) ((z :: r).map (pTks k))) _
    refine lay_app ?_ (lay_sep (wordK_w k) ih) hd_bl
    unfold pTks pText
    split
    · exact .p (.inl rfl) (lay_app (h y (by simp)) (.p (.inr (.inl rfl)) .nil) (fun x r e => by cases e; decide))
    · exact h y (by simp)
theorem lay_text (x : LX) : formE x = 0 → Lay (tks x) (textX x) := by
  refine LX.ind (p := fun x => formE x = 0 → Lay (tks x) (textX x)) (fun k n e l ih hf => ?_) x
  rw [tks_eq, textX_eq]
  rcases node_cases (formE_node hf) with ⟨hk, hl, hn, he⟩ | ⟨hk, hl, hn, he⟩
  · rcases hk with hk | hk
    · have b0 : ((LX.mk k n e l).kind == 0) = true := by rw [hk]; rfl
      rcases he with he | he
      · have b1 : (!((LX.mk k n e l).exc == [])) = false := by rw [he]; rfl
        simp only [b0, b1, Bool.false_eq_true, ↓reduceIte]
        exact lay_w1 (name_w hn)
      · have h0 : (LX.mk k n e l).exc ≠ [] := (name_w he.2).1
        have b1 : (!((LX.mk k n e l).exc == [])) = true := by simpa using h0
        simp only [b0, b1, Bool.false_eq_true, ↓reduceIte]
        have := lay_app (lay_w1 (name_w hn)) (lay_sep (w := wWith) (by decide) (lay_w1 (name_w he.2))) hd_bl
        rw [List.append_assoc]
        exact this
    · have b0 : ((LX.mk k n e l).kind == 0) = false := by rw [hk]; rfl
      have b1 : ((LX.mk k n e l).kind == 1) = true := by rw [hk]; rfl
      simp only [b0, b1, Bool.false_eq_true, ↓reduceIte]
      exact lay_app (lay_w1 (name_w hn)) (.p (.inr (.inr rfl)) .nil) (fun x r e => by cases e; decide)
  · have b0 : ((LX.mk k n e l).kind == 0) = false := by rcases hk with hk | hk <;> (rw [hk]; rfl)
    have b1 : ((LX.mk k n e l).kind == 1) = false := by rcases hk with hk | hk <;> (rw [hk]; rfl)
    simp only [b0, b1, Bool.false_eq_true, ↓reduceIte, tkss_map, textXs_map]
    refine lay_join _ _ ?_ (fun y hy => ih y hy (formE_kid hf hy))
    intro h
    rw [h] at hl
    simp at hl
theorem parse_text {x : LX} (hc : checkE x = 0) (hs : (textX x).length ≤ 1024) : pParse (textX x) = (x, 0, 0) := parse_lay (lay_text x (check_ok hc).2.2) hc hs
def FormR (r : Res) : Prop := r.err = 0 → formE r.expr = 0
theorem formsE_all {l : List LX} (h : ∀ y ∈ l, formE y = 0) : formsE l = 0 := by
  induction l with
  | nil => rfl
  | cons y l ih => rw [formsE, if_pos (by rw [h y (by simp)]; rfl)]; exact ih fun z hz => h z (by simp [hz])
theorem form_list {k : Int} (hk : k = 2 ∨ k = 3) {l : List LX} (hl : 2 ≤ l.length) (h : ∀ y ∈ l, formE y = 0) : formE (.mk k [] [] l) = 0 := by
  have hn : nodeE (.mk k [] [] l) = 0 := by
    rw [nodeE_form]
    rcases hk with rfl | rfl
    · have e : decide (((LX.mk 2 [] [] l).kids.length : Int) < 2) = false := decide_eq_false (by show ¬ (l.length : Int) < 2; omega)
      rw [e]
      rfl
    · have e : decide (((LX.mk 3 [] [] l).kids.length : Int) < 2) = false := decide_eq_false (by show ¬ (l.length : Int) < 2; omega)
      rw [e]
      rfl
  rw [formE_eq, if_pos (by rw [hn]; rfl)]
  exact formsE_all h
theorem form_leaf {k : Int} {n e : List UInt8} (hk : k = 0 ∨ k = 1) (hn : isNameB n = true) (he : e = [] ∨ (k = 0 ∧ isNameB e = true)) : formE (.mk k n e []) = 0 := by
  have h : nodeE (.mk k n e []) = 0 := by
    rw [nodeE_form]
    show nodeF (decide (k < 0)) (decide (k > 3)) (decide (k ≥ 2)) (k == 1) (n == []) (e == []) (decide (((([] : List LX).length : Nat) : Int) > 0)) (decide (((([] : List LX).length : Nat) : Int) < 2)) (isNameB n) (isNameB e) = 0
    rw [hn]
    rcases hk with rfl | rfl
    · rcases he with rfl | ⟨_, he⟩
      · rfl
      · rw [he]
        generalize (n == []) = a
        generalize (e == []) = b
        cases a <;> cases b <;> rfl
    · rcases he with rfl | ⟨h, _⟩
      · rfl
      · cases h
  rw [formE_eq, if_pos (by rw [h]; rfl)]
  rfl
theorem form_name (s : List UInt8) (a : Nat) : (rName s a).err = 0 → ∃ w, isNameB w = true ∧ (rName s a).expr = .mk 0 w [] [] := by
  unfold rName
  split
  · intro h; exact absurd (show (4 : Int) = 0 from h) (by decide)
  · split
    · intro h; exact absurd (show (2 : Int) = 0 from h) (by decide)
    · rename_i h
      intro _
      exact ⟨_, by simpa using h, rfl⟩
theorem form_loop {part : Nat → Res} {s : List UInt8} {kind : Int} {bw : List UInt8} (hk : kind = 2 ∨ kind = 3) (hp : ∀ a, FormR (part a)) : ∀ (n a : Nat) (acc : List LX), (∀ y ∈ acc, formE y = 0) → FormR (rLoop part s kind bw n a acc) := by
  intro n
  induction n with
  | zero => intro a acc _ h; exact absurd (show (4 : Int) = 0 from h) (by decide)
  | succ n ih =>
    intro a acc hacc
    have hpa := hp a
    rw [rLoop]
    generalize part a = r at *
    split
    · exact hpa
    · rename_i he
      have he : r.err = 0 := by simpa using he
      have hall : ∀ y ∈ acc ++ [r.expr], formE y = 0 := fun y hy => by
        rcases List.mem_append.1 hy with hy | hy
        · exact hacc y hy
        · rw [List.mem_singleton.1 hy]; exact hpa he
      split
      · exact ih _ _ hall
      · split
        · intro _; exact hpa he
        · rename_i hne
          intro _
          refine form_list hk ?_ hall
          have : acc.length ≠ 0 := by simpa using hne
          simp only [List.length_append, List.length_cons, List.length_nil]
          omega
theorem form_atomF {s : List UInt8} {inner : Option (Nat → Res)} (hp : ∀ f, inner = some f → ∀ a, FormR (f a)) (a : Nat) : FormR (rAtomF s inner a) := by
  unfold rAtomF
  generalize skipN s a = b
  split
  · cases inner with
    | none => intro h; exact absurd (show (11 : Int) = 0 from h) (by decide)
    | some f =>
      have h := hp f rfl (b + 1)
      dsimp only
      generalize f (b + 1) = r at *
      split
      · exact h
      · split
        · rename_i he _
          intro _
          exact h (by simpa using he)
        · intro h; exact absurd (show (4 : Int) = 0 from h) (by decide)
  · have h := form_name s b
    generalize rName s b = r at *
    split
    · rename_i he
      intro h0
      rw [h0] at he
      exact absurd he (by decide)
    · rename_i he
      obtain ⟨w, h1, h2⟩ := h (by simpa using he)
      split
      · intro _
        rw [h2]
        exact form_leaf (.inr rfl) h1 (.inl rfl)
      · split
        · have h3 := form_name s (skipN s r.at' + 4)
          generalize rName s (skipN s r.at' + 4) = q at *
          split
          · rename_i hq
            intro h0
            rw [h0] at hq
            exact absurd hq (by decide)
          · rename_i hq
            obtain ⟨w2, h4, h5⟩ := h3 (by simpa using hq)
            intro _
            rw [h2, h5]
            exact form_leaf (.inl rfl) h1 (.inr ⟨rfl, h4⟩)
        · intro _
          rw [h2]
          exact form_leaf (.inl rfl) h1 (.inl rfl)
theorem form_ands {s : List UInt8} {atom : Nat → Res} (h : ∀ a, FormR (atom a)) (a : Nat) : FormR (rAnds s atom a) := form_loop (.inl rfl) h _ _ _ (fun y hy => by cases hy)
theorem form_ors {s : List UInt8} {atom : Nat → Res} (h : ∀ a, FormR (atom a)) (a : Nat) : FormR (rOrs s atom a) := form_loop (.inr rfl) (form_ands h) _ _ _ (fun y hy => by cases hy)
theorem form_atom {s : List UInt8} : ∀ d a : Nat, FormR (rAtom s d a)
  | 0, a => form_atomF (fun f h => by cases h) a
  | d + 1, a => form_atomF (fun f h => by cases h; exact form_ors (form_atom d)) a
theorem parse_form {s : List UInt8} {x : LX} {a e : Int} (h : pParse s = (x, a, e)) : (e ≠ 0 → x = x0) ∧ (e = 0 → checkE x = 0 ∧ x.Bd 1099511627776) := by
  obtain ⟨h1, h2⟩ := parse_rel s
  by_cases he : (rParse s).err = 0
  · obtain ⟨h3, h4⟩ := h2 he
    rw [h] at h3
    simp only [Prod.mk.injEq] at h3
    obtain ⟨rfl, rfl, rfl⟩ := h3
    refine ⟨fun h => absurd rfl h, fun _ => ⟨?_, h4⟩⟩
    clear h1 h2 h4 h
    unfold rParse at he ⊢
    split at he
    · exact absurd (show (10 : Int) = 0 from he) (by decide)
    · rename_i c1
      rw [if_neg c1]
      split at he
      · rename_i c2
        rw [he] at c2
        exact absurd c2 (by decide)
      · rename_i c2
        rw [if_neg c2]
        split at he
        · exact absurd (show (4 : Int) = 0 from he) (by decide)
        · rename_i c3
          rw [if_neg c3]
          split at he
          · exact absurd (show (10 : Int) = 0 from he) (by decide)
          · rename_i c4
            rw [if_neg c4]
            split at he
            · exact absurd (show (11 : Int) = 0 from he) (by decide)
            · rename_i c5
              rw [if_neg c5]
              unfold checkE
              rw [if_neg c4, if_neg c5]
              exact form_ors (form_atom 24) 0 (by simpa using c2)
  · rw [h1 he] at h
    simp only [Prod.mk.injEq] at h
    obtain ⟨rfl, _, rfl⟩ := h
    exact ⟨fun _ => rfl, fun h => absurd h he⟩
end Go.Ab
namespace Go.Ab
open Go Go.RowKit Go.Proofs
set_option maxRecDepth 10000
set_option maxHeartbeats 16000000
theorem text_big {x : LX} (h : checkE x = 0) : (textX x).length ≤ 1099511627776 := by
  obtain ⟨h1, _, h3⟩ := check_ok h
  have := text_len x h3
  omega
theorem parse_big {s : List UInt8} (h : ¬ s.length ≤ 1024) : pParse s = (x0, 0, 10) := by
  unfold pParse
  rw [decide_eq_true (by omega), if_pos rfl]
noncomputable def g_law5 : List D → Option D := encSpec (fun x : LX × (List UInt8) => [eX x.1, .str x.2]) (fun x : LX × (List UInt8) => x.1.Bd 1099511627776 ∧ x.2.length ≤ 1099511627776) (fun x : LX × (List UInt8) => .bool true)
theorem f_law5_ok : PureOK Tryd.prog 5 true g_law5 := by
  have hΓ := Γp f_awake_ok (Γp f_few_ok (Γp f_fmtP_ok (Γp f_parseP_ok (Γp (f_equalP_ok 1099511627776) (Γp f_checkP_ok (Γn))))))
  refine pure_enc (n := 97) (rs := [.tmp 4]) Tryd.func5 (by kernel_rfl) rfl (by kernel_rfl) (by kernel_rfl) ?_
  rintro ⟨x, s⟩ hd
  (try dsimp only at hd ⊢)
  refine ⟨fun _ => by (repeat (first | exact .int _ _ | exact .bool _ | exact .str _ | (refine .tup _ (fun d hd => ?_); simp only [List.mem_cons, List.not_mem_nil, or_false] at hd; rcases hd with rfl | hd))), fun k hz0 => ?_⟩
  obtain ⟨hx, hs⟩ := hd
  have e0 := g_awake_eq
  have w1 := g_few_eq hx
  have f1 := g_fmtP_eq hx
  have p2 := g_parseP_eq hs
  have q0 := g_equalP_eq (h := 1099511627776) (a := x0) (b := x0) ⟨by decide, x0_bd, x0_bd⟩
  rw [eqX_refl] at q0
  rw [eX_eq]
  rw [start_frame (by simp)]; simp only [enumV, go_sem, emptyH]
  generalize hb1 : fewX x = b1 at *
  generalize hb2 : decide ((s.length : Int) > 800) = b2
  cases b1
  · repeat (first
    | (apply axJ; (focus ((with_reducible constructor) <;> rfl)))
    | (apply awT mixedOK hΓ (by kernel_rfl); (simp (disch := omega) only [go_sem, ↓reduceIte, ↓lk, Int.reduceBEq, Int.reduceBNe, Bool.true_bne, Bool.false_bne, Bool.not_true, Bool.not_false, e0, w1] <;> with_reducible rfl))
    | ((first | apply awR hΓ | apply awG | apply awH mixedOK hΓ rfl (by kernel_rfl) | apply ovE rfl); (simp (disch := omega) only [go_sem, ↓reduceIte, ↓lk, Int.reduceBEq, Int.reduceBNe, Bool.true_bne, Bool.false_bne, Bool.not_true, Bool.not_false, e0, w1] <;> with_reducible rfl); exact trivial)
    | rfl)
    try rfl
  cases b2
  rotate_left
  · repeat (first
    | (apply axJ; (focus ((with_reducible constructor) <;> rfl)))
    | (apply awT mixedOK hΓ (by kernel_rfl); (simp (disch := omega) only [go_sem, ↓reduceIte, ↓lk, Int.reduceBEq, Int.reduceBNe, Bool.true_bne, Bool.false_bne, Bool.not_true, Bool.not_false, e0, w1, hb2] <;> with_reducible rfl))
    | ((first | apply awR hΓ | apply awG | apply awH mixedOK hΓ rfl (by kernel_rfl) | apply ovE rfl); (simp (disch := omega) only [go_sem, ↓reduceIte, ↓lk, Int.reduceBEq, Int.reduceBNe, Bool.true_bne, Bool.false_bne, Bool.not_true, Bool.not_false, e0, w1, hb2] <;> with_reducible rfl); exact trivial)
    | rfl)
    try rfl
  by_cases hc : checkE x = 0
  · have hl := text_big hc
    rw [show fmtX x = (textX x, 0) by unfold fmtX; rw [hc]; rfl] at f1
    simp only [eFmt] at f1
    by_cases ht : (textX x).length ≤ 1024
    · have p1 := g_parseP_eq hl
      rw [parse_text hc ht] at p1
      have hh := Nat.le_trans x.hgt_le hx.z
      have q1 := g_equalP_eq (h := 1099511627776) (a := x) (b := x) ⟨hh, hx, hx⟩
      rw [eqX_refl] at q1
      simp only [ePr, eX_eq] at p1 q1
      have hd1 : decide (((textX x).length : Int) ≤ 1024) = true := decide_eq_true (by omega)
      clear ht hc hl
      generalize textX x = t at *
      generalize hp : pParse s = p at *
      obtain ⟨y, a, e⟩ := p
      obtain ⟨y1, y2⟩ := parse_form hp
      by_cases he : e = 0
      · subst he
        obtain ⟨hcy, hy⟩ := y2 rfl
        have hly := text_big hcy
        have f2 := g_fmtP_eq hy
        rw [show fmtX y = (textX y, 0) by unfold fmtX; rw [hcy]; rfl] at f2
        have p3 := g_parseP_eq hly
        have c2 := g_checkP_eq hy
        rw [hcy] at c2
        have hhy := Nat.le_trans y.hgt_le hy.z
        have q2 := g_equalP_eq (h := 1099511627776) (a := y) (b := y) ⟨hhy, hy, hy⟩
        rw [eqX_refl] at q2
        by_cases hty : (textX y).length ≤ 1024
        · rw [parse_text hcy hty] at p3
          simp only [ePr, eFmt, eX_eq] at f2 p3 p2 q2 c2
          generalize textX y = ty at *
          (repeat (first | (apply axJ; (focus ((with_reducible constructor) <;> rfl))) | ((first | apply awR hΓ | apply awG | apply ovE rfl); (simp (disch := omega) only [go_sem, ↓reduceIte, ↓lk, Int.reduceBEq, Int.reduceBNe, Bool.true_bne, Bool.false_bne, Bool.not_true, Bool.not_false, e0, w1, hb2, f1, hd1, p1, q1, p2, f2, p3, q2, c2] <;> with_reducible rfl); exact trivial) | rfl))
          try rfl
        · rw [parse_big hty] at p3
          have hd2 : decide (((textX y).length : Int) > 1024) = true := decide_eq_true (by omega)
          simp only [ePr, eFmt, eX_eq, show x0.kind = 0 from rfl, show x0.name = [] from rfl, show x0.exc = [] from rfl, show x0.kids = [] from rfl, List.map_nil] at f2 p3 p2 q2 c2
          generalize textX y = ty at *
          (repeat (first | (apply axJ; (focus ((with_reducible constructor) <;> rfl))) | ((first | apply awR hΓ | apply awG | apply ovE rfl); (simp (disch := omega) only [go_sem, ↓reduceIte, ↓lk, Int.reduceBEq, Int.reduceBNe, Bool.true_bne, Bool.false_bne, Bool.not_true, Bool.not_false, e0, w1, hb2, f1, hd1, p1, q1, p2, f2, p3, q2, c2, hd2] <;> with_reducible rfl); exact trivial) | rfl))
          try rfl
      · obtain rfl := y1 he
        have heb : (e != 0) = true := by simpa [bne] using he
        simp only [ePr, eX_eq, show x0.kind = 0 from rfl, show x0.name = [] from rfl, show x0.exc = [] from rfl, show x0.kids = [] from rfl, List.map_nil] at p2 q0
        (repeat (first | (apply axJ; (focus ((with_reducible constructor) <;> rfl))) | ((first | apply awR hΓ | apply awG | apply ovE rfl); (simp (disch := omega) only [go_sem, ↓reduceIte, ↓lk, Int.reduceBEq, Int.reduceBNe, Bool.true_bne, Bool.false_bne, Bool.not_true, Bool.not_false, ↓ty_build25, e0, w1, hb2, f1, hd1, p1, q1, p2, q0, heb] <;> with_reducible rfl); exact trivial) | rfl))
        try rfl
    · have hd1 : decide (((textX x).length : Int) ≤ 1024) = false := decide_eq_false (by omega)
      clear ht hc hl
      generalize textX x = t at *
      generalize hp : pParse s = p at *
      obtain ⟨y, a, e⟩ := p
      obtain ⟨y1, y2⟩ := parse_form hp
      by_cases he : e = 0
      · subst he
        obtain ⟨hcy, hy⟩ := y2 rfl
        have hly := text_big hcy
        have f2 := g_fmtP_eq hy
        rw [show fmtX y = (textX y, 0) by unfold fmtX; rw [hcy]; rfl] at f2
        have p3 := g_parseP_eq hly
        have c2 := g_checkP_eq hy
        rw [hcy] at c2
        have hhy := Nat.le_trans y.hgt_le hy.z
        have q2 := g_equalP_eq (h := 1099511627776) (a := y) (b := y) ⟨hhy, hy, hy⟩
        rw [eqX_refl] at q2
        by_cases hty : (textX y).length ≤ 1024
        · rw [parse_text hcy hty] at p3
          simp only [ePr, eFmt, eX_eq] at f2 p3 p2 q2 c2
          generalize textX y = ty at *
          (repeat (first | (apply axJ; (focus ((with_reducible constructor) <;> rfl))) | ((first | apply awR hΓ | apply awG | apply ovE rfl); (simp (disch := omega) only [go_sem, ↓reduceIte, ↓lk, Int.reduceBEq, Int.reduceBNe, Bool.true_bne, Bool.false_bne, Bool.not_true, Bool.not_false, e0, w1, hb2, f1, hd1, p2, f2, p3, q2, c2] <;> with_reducible rfl); exact trivial) | rfl))
          try rfl
        · rw [parse_big hty] at p3
          have hd2 : decide (((textX y).length : Int) > 1024) = true := decide_eq_true (by omega)
          simp only [ePr, eFmt, eX_eq, show x0.kind = 0 from rfl, show x0.name = [] from rfl, show x0.exc = [] from rfl, show x0.kids = [] from rfl, List.map_nil] at f2 p3 p2 q2 c2
          generalize textX y = ty at *
          (repeat (first | (apply axJ; (focus ((with_reducible constructor) <;> rfl))) | ((first | apply awR hΓ | apply awG | apply ovE rfl); (simp (disch := omega) only [go_sem, ↓reduceIte, ↓lk, Int.reduceBEq, Int.reduceBNe, Bool.true_bne, Bool.false_bne, Bool.not_true, Bool.not_false, e0, w1, hb2, f1, hd1, p2, f2, p3, q2, c2, hd2] <;> with_reducible rfl); exact trivial) | rfl))
          try rfl
      · obtain rfl := y1 he
        have heb : (e != 0) = true := by simpa [bne] using he
        simp only [ePr, eX_eq, show x0.kind = 0 from rfl, show x0.name = [] from rfl, show x0.exc = [] from rfl, show x0.kids = [] from rfl, List.map_nil] at p2 q0
        (repeat (first | (apply axJ; (focus ((with_reducible constructor) <;> rfl))) | ((first | apply awR hΓ | apply awG | apply ovE rfl); (simp (disch := omega) only [go_sem, ↓reduceIte, ↓lk, Int.reduceBEq, Int.reduceBNe, Bool.true_bne, Bool.false_bne, Bool.not_true, Bool.not_false, ↓ty_build25, e0, w1, hb2, f1, hd1, p2, q0, heb] <;> with_reducible rfl); exact trivial) | rfl))
        try rfl
  · rw [show fmtX x = ([], checkE x) by unfold fmtX; rw [if_pos (by simpa using hc)]] at f1
    simp only [eFmt] at f1
    have hcb : (checkE x == 0) = false := by simpa using hc
    clear hc
    generalize checkE x = ce at *
    generalize hp : pParse s = p at *
    obtain ⟨y, a, e⟩ := p
    obtain ⟨y1, y2⟩ := parse_form hp
    by_cases he : e = 0
    · subst he
      obtain ⟨hcy, hy⟩ := y2 rfl
      have hly := text_big hcy
      have f2 := g_fmtP_eq hy
      rw [show fmtX y = (textX y, 0) by unfold fmtX; rw [hcy]; rfl] at f2
      have p3 := g_parseP_eq hly
      have c2 := g_checkP_eq hy
      rw [hcy] at c2
      have hhy := Nat.le_trans y.hgt_le hy.z
      have q2 := g_equalP_eq (h := 1099511627776) (a := y) (b := y) ⟨hhy, hy, hy⟩
      rw [eqX_refl] at q2
      by_cases hty : (textX y).length ≤ 1024
      · rw [parse_text hcy hty] at p3
        simp only [ePr, eFmt, eX_eq] at f2 p3 p2 q2 c2
        generalize textX y = ty at *
        (repeat (first | (apply axJ; (focus ((with_reducible constructor) <;> rfl))) | ((first | apply awR hΓ | apply awG | apply ovE rfl); (simp (disch := omega) only [go_sem, ↓reduceIte, ↓lk, Int.reduceBEq, Int.reduceBNe, Bool.true_bne, Bool.false_bne, Bool.not_true, Bool.not_false, e0, w1, hb2, f1, hcb, p2, f2, p3, q2, c2] <;> with_reducible rfl); exact trivial) | rfl))
        try rfl
      · rw [parse_big hty] at p3
        have hd2 : decide (((textX y).length : Int) > 1024) = true := decide_eq_true (by omega)
        simp only [ePr, eFmt, eX_eq, show x0.kind = 0 from rfl, show x0.name = [] from rfl, show x0.exc = [] from rfl, show x0.kids = [] from rfl, List.map_nil] at f2 p3 p2 q2 c2
        generalize textX y = ty at *
        (repeat (first | (apply axJ; (focus ((with_reducible constructor) <;> rfl))) | ((first | apply awR hΓ | apply awG | apply ovE rfl); (simp (disch := omega) only [go_sem, ↓reduceIte, ↓lk, Int.reduceBEq, Int.reduceBNe, Bool.true_bne, Bool.false_bne, Bool.not_true, Bool.not_false, e0, w1, hb2, f1, hcb, p2, f2, p3, q2, c2, hd2] <;> with_reducible rfl); exact trivial) | rfl))
        try rfl
    · obtain rfl := y1 he
      have heb : (e != 0) = true := by simpa [bne] using he
      simp only [ePr, eX_eq, show x0.kind = 0 from rfl, show x0.name = [] from rfl, show x0.exc = [] from rfl, show x0.kids = [] from rfl, List.map_nil] at p2 q0
      (repeat (first | (apply axJ; (focus ((with_reducible constructor) <;> rfl))) | ((first | apply awR hΓ | apply awG | apply ovE rfl); (simp (disch := omega) only [go_sem, ↓reduceIte, ↓lk, Int.reduceBEq, Int.reduceBNe, Bool.true_bne, Bool.false_bne, Bool.not_true, Bool.not_false, ↓ty_build25, e0, w1, hb2, f1, hcb, p2, q0, heb] <;> with_reducible rfl); exact trivial) | rfl))
      try rfl
end Go.Ab
