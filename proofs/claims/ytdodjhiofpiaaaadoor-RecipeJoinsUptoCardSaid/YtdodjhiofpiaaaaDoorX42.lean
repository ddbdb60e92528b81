/-
  One text of the proof (own work): contracts of functions of the program, by the abstract machine.
-/
import Derived.Test.YtdodjhiofpiaaaaDoorX19
import Derived.Test.YtdodjhiofpiaaaaDoorX24
import Derived.Test.YtdodjhiofpiaaaaDoorX18
import Derived.Test.YtdodjhiofpiaaaaDoorX41
set_option linter.unusedVariables false
set_option linter.unusedSimpArgs false
namespace Go.Ab
open Go Go.RowKit Go.Proofs
set_option maxRecDepth 100000
set_option maxHeartbeats 40000000
theorem eq_nilS (ao : Option Addr) (n cap : Nat) (w : World) : (binOp BinOp.eql 22 (.slice ao n cap) (.slice none 0 0)).run Tryd.prog w = .ok (.bool ao.isNone) w := by
  have heq : ∀ k, (Op.equalIn (k + 1) 22 (.slice ao n cap) (.slice none 0 0)).run Tryd.prog w = .ok ao.isNone w := fun k => by
    simp only [Op.equalIn, Sem.run_bind, run_underlying ty_und22, Result.andThen_ok, Sem.run_pure]
    cases ao <;> simp
  have h2 : (Op.equal 22 (.slice ao n cap) (.slice none 0 0)).run Tryd.prog w = .ok ao.isNone w := heq 9999
  simp only [binOp, Sem.run_bind, h2, Result.andThen_ok, Sem.run_pure]
theorem callClo (ao : Option Addr) (cap : Nat) (w : World) :
    Calls Tryd.prog 15 #[.slice ao 0 cap] w fun e w' => ∃ v, e = .returned v ∧ ownsM w' w.heap.size 34 6 v 0 [] ∧ Below w.heap.size w w' := by
  cases ao with
  | none =>
    go_enter Tryd.func15, Tryd.ntmps15
    go_wp2
    rw [eq_nilS]
    simp only [Result.andThen]
    rw [Oper.upon_value]
    go_wp2
    go_ret
    exact ⟨_, rfl, ⟨rfl, .inl ⟨rfl, rfl⟩⟩, Below.refl _ _⟩
  | some a =>
    go_enter Tryd.func15, Tryd.ntmps15
    go_wp2
    rw [eq_nilS]
    simp only [Result.andThen]
    rw [Oper.upon_value]
    go_wp2
    go_ret
    exact ⟨_, rfl, ownsM_lit w #[] 0 (Nat.le_refl _) (Nat.zero_le _) rfl, (Below.refl _ _).alloc (Nat.le_refl _) _⟩
theorem f_clo_ex : ∃ g, OwnOK Tryd.prog 15 g ∧ ∀ l : List Stp, l.length ≤ 1099511627776 ∧ l ≠ [] → ∃ m, m = l.map eSt ∧ g [.list (l.map eSt)] = some (34, 6, m) := by
  have hΓ := Γ0_ok
  refine own_ex (enc := fun l : List Stp => [.list (l.map eSt)]) (dom := fun l => l.length ≤ 1099511627776 ∧ l ≠ []) (good := fun l m => m = l.map eSt) (t := 34) (sz := 6) (n := 8) (rs := [.tmp 2]) (by omega) Tryd.func15 (by kernel_rfl) rfl (by kernel_rfl) (by kernel_rfl) (fun a b h => by
    simp only [List.cons.injEq, and_true, D.list.injEq] at h
    exact cast (eSts_ie _ _) h) ?_
  rintro l ⟨hl, hne⟩
  obtain ⟨x, l, rfl⟩ := List.exists_cons_of_ne_nil hne
  refine ⟨fun l' hm => hm ▸ elemsOK_map (f := eSt) (sz := 6) (fun _ => ⟨rfl, rfl⟩) _, ?_⟩
  rw [List.map_cons, eSt_eq]
  rw [start_frame (by simp)]; simp only [enumV, go_sem, emptyH]
  have hem : elemsOK 6 (l.map eSt) = true := elemsOK_map (f := eSt) (sz := 6) (fun _ => ⟨rfl, rfl⟩) l
  have hml : (l.map eSt).length + 1 ≤ 1099511627776 := by simpa using hl
  generalize l.map eSt = m at *
  (repeat (first | (apply axJ; (focus ((with_reducible constructor) <;> rfl))) | ((first | apply axR hΓ | apply axG | apply ovX rfl | apply ovE rfl); (simp (disch := omega) only [go_sem, ↓reduceIte, ↓lk, dk, hem] <;> with_reducible rfl); exact trivial) | rfl))
  exact reto_x (o := 3) (l := eSt x :: m) rfl (by simp [go_sem]) rfl rfl
open Classical in
noncomputable def g_clo : List D → Option (TypeId × Nat × List D) := fun ds => if ds = [.list []] then some (34, 6, []) else f_clo_ex.choose ds
theorem g_clo_eq {l : List Stp} (h : l.length ≤ 1099511627776) : g_clo [.list (l.map eSt)] = some (34, 6, l.map eSt) := by
  cases l with
  | nil => rw [List.map_nil]; exact if_pos rfl
  | cons x l =>
    obtain ⟨m, rfl, h2⟩ := f_clo_ex.choose_spec.2 (x :: l) ⟨h, by simp⟩
    rw [← h2]
    exact if_neg (by simp)
theorem f_clo_ok : OwnOK Tryd.prog 15 g_clo := by
  intro ds e sz l hd
  unfold g_clo at hd
  by_cases hds : ds = [.list []]
  · rw [if_pos hds] at hd
    cases hd
    subst hds
    refine ⟨by omega, by simp, by simp [flat], fun w B vs hB hz hvs => ⟨⟨_, Tryd.func15, rfl, rfl⟩, ?_⟩⟩
    obtain ⟨u, hu⟩ : ∃ u, vs[0]? = some u := ⟨_, Array.getElem?_eq_getElem (by simp at hz; omega)⟩
    obtain ⟨ao, cap, hv, _⟩ := (hvs 0 (by simp) u hu).list_inv
    have hvs2 : vs = #[.slice ao 0 cap] := by
      apply Array.ext_getElem?
      intro i
      match i with
      | 0 => rw [hu, hv]; rfl
      | i + 1 => rw [Array.getElem?_eq_none (by simp at hz; omega), Array.getElem?_eq_none (by simp)]
    rw [hvs2]
    refine (callClo ao cap w).mono ?_
    rintro e w' ⟨v, rfl, ho, hb⟩
    exact ⟨_, rfl, ⟨[], ho, fun i hi => by simp [flat] at hi⟩, hb⟩
  · rw [if_neg hds] at hd
    exact f_clo_ex.choose_spec.1 ds e sz l hd
end Go.Ab
namespace Go.Ab
open Go Go.RowKit Go.Proofs Go.Shelf
set_option maxRecDepth 10000
set_option maxHeartbeats 16000000
theorem go_lines (M : Nat) : ∀ (q : List Bs) (i : Nat) (acc : List Stp), (∀ x ∈ acc, 0 ≤ x.line ∧ x.line ≤ (M : Int)) → i + q.length ≤ M → ∀ x ∈ (parseGo i acc q).1, 0 ≤ x.line ∧ x.line ≤ (M : Int)
  | [], _, acc, ha, _ => ha
  | w :: r, i, acc, ha, hm => by
    rw [List.length_cons] at hm
    rw [parseGo]
    split
    · exact go_lines M r (i + 1) acc ha (by omega)
    · split
      · refine go_lines M r (i + 1) _ (fun x hx => ?_) (by omega)
        rcases List.mem_append.1 hx with hx | hx
        · exact ha x hx
        · rw [List.mem_singleton.1 hx]
          show 0 ≤ (i : Int) ∧ (i : Int) ≤ M
          omega
      · intro x hx; cases hx
theorem parse_lines (s : Bs) : ∀ x ∈ (parseR s).1, 0 ≤ x.line ∧ x.line ≤ 1024 := by
  rw [parseR_if]
  split
  · rename_i h
    exact go_lines 1024 _ 0 [] (fun x hx => by cases hx) (by omega)
  · intro x hx; cases hx
theorem sh_take {l : List Stp} {i : Nat} {k : Int} (h : i < l.length) : (l.take (i + 1)).map (sh k) = (l.take i).map (sh k) ++ [sh k l[i]] := by
  rw [List.take_succ_eq_append_getElem h, List.map_append]
  rfl
noncomputable def g_lawJo : List D → Option D := encSpec (fun x : Bs × Bs => [.str x.1, .str x.2]) (fun x : Bs × Bs => x.1.length ≤ 1099511627776 ∧ x.2.length ≤ 1099511627776) (fun x : Bs × Bs => .bool true)
theorem f_lawJo_ok : PureOK Tryd.prog 4 true g_lawJo := by
  have hΓ := Γp f_awake_ok (Γp f_parseP_ok (Γp f_cnt1_ok (Γp f_sameAll14_ok (Γo f_clo_ok (Γn)))))
  refine pure_enc (n := 147) (rs := [.tmp 4]) Tryd.func4 (by kernel_rfl) rfl (by kernel_rfl) (by kernel_rfl) ?_
  rintro ⟨a, b⟩ hd
  (try dsimp only at hd ⊢)
  refine ⟨fun _ => by (repeat (first | exact .int _ _ | exact .bool _ | exact .str _ | (refine .tup _ (fun d hd => ?_); simp only [List.mem_cons, List.not_mem_nil, or_false] at hd; rcases hd with rfl | hd))), fun k hz0 => ?_⟩
  have ea := g_awake_eq
  obtain ⟨hda, hdb⟩ := hd
  rw [start_frame (by simp)]; simp only [enumV, go_sem, emptyH]
  by_cases hl : a.length ≤ 2000
  rotate_left
  · have hl1 : decide ((a.length : Int) > 2000) = true := decide_eq_true (by omega)
    repeat (first
      | (apply axJ; (focus ((with_reducible constructor) <;> rfl)))
      | (apply awT mixedOK hΓ (by kernel_rfl); (simp (disch := omega) only [go_sem, ↓reduceIte, dk, ↓lk, Int.reduceBEq, Int.reduceBNe, Bool.true_bne, Bool.false_bne, Bool.not_true, Bool.not_false, ea, hl1] <;> with_reducible rfl))
      | ((first | apply awR hΓ | apply awG | apply awH mixedOK hΓ rfl (by kernel_rfl) | apply ovE rfl); (simp (disch := omega) only [go_sem, ↓reduceIte, dk, ↓lk, Int.reduceBEq, Int.reduceBNe, Bool.true_bne, Bool.false_bne, Bool.not_true, Bool.not_false, ea, hl1] <;> with_reducible rfl); exact trivial)
      | rfl)
    try rfl
  have hl1 : decide ((a.length : Int) > 2000) = false := decide_eq_false (by omega)
  by_cases hm : b.length ≤ 2000
  rotate_left
  · have hm1 : decide ((b.length : Int) > 2000) = true := decide_eq_true (by omega)
    repeat (first
      | (apply axJ; (focus ((with_reducible constructor) <;> rfl)))
      | (apply awT mixedOK hΓ (by kernel_rfl); (simp (disch := omega) only [go_sem, ↓reduceIte, dk, ↓lk, Int.reduceBEq, Int.reduceBNe, Bool.true_bne, Bool.false_bne, Bool.not_true, Bool.not_false, ea, hl1, hm1] <;> with_reducible rfl))
      | ((first | apply awR hΓ | apply awG | apply awH mixedOK hΓ rfl (by kernel_rfl) | apply ovE rfl); (simp (disch := omega) only [go_sem, ↓reduceIte, dk, ↓lk, Int.reduceBEq, Int.reduceBNe, Bool.true_bne, Bool.false_bne, Bool.not_true, Bool.not_false, ea, hl1, hm1] <;> with_reducible rfl); exact trivial)
      | rfl)
    try rfl
  have hm1 : decide ((b.length : Int) > 2000) = false := decide_eq_false (by omega)
  have c1 := g_cnt1_eq (s := a) (b := 10) hda
  have c2 := g_cnt1_eq (s := a ++ b) (b := 10) (by rw [List.length_append]; omega)
  rw [show Lib.countByte a 10 = a.count 10 from rfl] at c1
  rw [show Lib.countByte (a ++ b) 10 = (a ++ b).count 10 from rfl] at c2
  by_cases hc : (a ++ b).count 10 ≤ 1000
  rotate_left
  · have hc1 : decide (((a ++ b).count 10 : Int) > 1000) = true := decide_eq_true (by omega)
    repeat (first
      | (apply axJ; (focus ((with_reducible constructor) <;> rfl)))
      | (apply awT mixedOK hΓ (by kernel_rfl); (simp (disch := omega) only [go_sem, ↓reduceIte, dk, ↓lk, Int.reduceBEq, Int.reduceBNe, Bool.true_bne, Bool.false_bne, Bool.not_true, Bool.not_false, ea, hl1, hm1, c2, hc1] <;> with_reducible rfl))
      | ((first | apply awR hΓ | apply awG | apply awH mixedOK hΓ rfl (by kernel_rfl) | apply ovE rfl); (simp (disch := omega) only [go_sem, ↓reduceIte, dk, ↓lk, Int.reduceBEq, Int.reduceBNe, Bool.true_bne, Bool.false_bne, Bool.not_true, Bool.not_false, ea, hl1, hm1, c2, hc1] <;> with_reducible rfl); exact trivial)
      | rfl)
    try rfl
  have hc1 : decide (((a ++ b).count 10 : Int) > 1000) = false := decide_eq_false (by omega)
  have hca : a.count 10 ≤ 1000 := by rw [List.count_append] at hc; omega
  have p1 := g_parseP_eq (s := a) (by omega)
  have p2 := g_parseP_eq (s := b) (by omega)
  have p3 := g_parseP_eq (s := a ++ 10 :: b) (by rw [List.length_append, List.length_cons]; omega)
  rw [show a ++ 10 :: b = a ++ [10] ++ b by simp] at p3
  obtain ⟨j1, j2⟩ := join_law hl hm hc
  rw [show a ++ 10 :: b = a ++ [10] ++ b by simp] at j1 j2
  obtain ⟨b1, b2⟩ := parseR_ok a (by omega)
  obtain ⟨b3, b4⟩ := parseR_ok b (by omega)
  obtain ⟨b5, b6⟩ := parseR_ok (a ++ [10] ++ b) (by rw [List.length_append, List.length_append]; simp only [List.length_cons, List.length_nil]; omega)
  have b7 := parse_lines b
  have b8 := fun l n e h he => parse_err (t := b) (l := l) (n := n) (e := e) h he
  have hcb : b.count 10 ≤ 2000 := Nat.le_trans List.count_le_length hm
  generalize a.count 10 = ka at *
  rcases h1 : parseR a with ⟨l1, n1, e1⟩
  rcases h2 : parseR b with ⟨l2, n2, e2⟩
  rcases h3 : parseR (a ++ [10] ++ b) with ⟨l3, n3, e3⟩
  rw [h1] at p1 j1 j2 b1 b2
  rw [h2] at p2 j2 b3 b4 b7 b8
  rw [h3] at p3 j1 j2 b5 b6
  dsimp only at j1 j2 b1 b2 b3 b4 b5 b6 b7
  replace p1 : g_parseP [.str a] = some (.tup [.list (l1.map eSt), .int .i64 n1, .int .i64 e1]) := p1
  replace p2 : g_parseP [.str b] = some (.tup [.list (l2.map eSt), .int .i64 n2, .int .i64 e2]) := p2
  replace p3 : g_parseP [.str (a ++ [10] ++ b)] = some (.tup [.list (l3.map eSt), .int .i64 n3, .int .i64 e3]) := p3
  by_cases he1 : e1 = 0
  rotate_left
  · have hn1 : (e1 != 0) = true := by simpa [bne_iff_ne] using he1
    have hj := j1 he1
    simp only [Prod.mk.injEq] at hj
    obtain ⟨rfl, rfl, rfl⟩ := hj
    repeat (first
      | (apply axJ; (focus ((with_reducible constructor) <;> rfl)))
      | (apply awT mixedOK hΓ (by kernel_rfl); (simp (disch := omega) only [go_sem, ↓reduceIte, dk, ↓lk, Int.reduceBEq, Int.reduceBNe, Bool.true_bne, Bool.false_bne, Bool.not_true, Bool.not_false, ea, hl1, hm1, c2, hc1, c1, p1, p2, p3, hn1, BEq.rfl, List.map_nil, List.length_nil, show (((0 : Nat) : Int) == 0) = true from rfl] <;> with_reducible rfl))
      | ((first | apply awR hΓ | apply awG | apply awH mixedOK hΓ rfl (by kernel_rfl) | apply ovE rfl); (simp (disch := omega) only [go_sem, ↓reduceIte, dk, ↓lk, Int.reduceBEq, Int.reduceBNe, Bool.true_bne, Bool.false_bne, Bool.not_true, Bool.not_false, ea, hl1, hm1, c2, hc1, c1, p1, p2, p3, hn1, BEq.rfl, List.map_nil, List.length_nil, show (((0 : Nat) : Int) == 0) = true from rfl] <;> with_reducible rfl); exact trivial)
      | rfl)
    try rfl
  subst he1
  rcases j2 rfl with hj | ⟨hj0, ⟨nn, hj⟩, hj2⟩
  rotate_left
  · simp only [Prod.mk.injEq] at hj
    obtain ⟨rfl, rfl, rfl⟩ := hj
    have hpos : decide ((l1.length : Int) > 0) = true := decide_eq_true (by have := List.length_pos_iff.2 hj0; omega)
    by_cases he2 : e2 = 0
    · have hgt : decide ((l1.length : Int) + l2.length > 64) = true := decide_eq_true (by have := hj2 he2; omega)
      repeat (first
        | (apply axJ; (focus ((with_reducible constructor) <;> rfl)))
        | (apply awT mixedOK hΓ (by kernel_rfl); (simp (disch := omega) only [go_sem, ↓reduceIte, dk, ↓lk, Int.reduceBEq, Int.reduceBNe, Bool.true_bne, Bool.false_bne, Bool.not_true, Bool.not_false, ea, hl1, hm1, c2, hc1, c1, p1, p2, p3, hgt, BEq.rfl, List.map_nil, List.length_nil, List.length_map, show (((0 : Nat) : Int) == 0) = true from rfl] <;> with_reducible rfl))
        | ((first | apply awR hΓ | apply awG | apply awH mixedOK hΓ rfl (by kernel_rfl) | apply ovE rfl); (simp (disch := omega) only [go_sem, ↓reduceIte, dk, ↓lk, Int.reduceBEq, Int.reduceBNe, Bool.true_bne, Bool.false_bne, Bool.not_true, Bool.not_false, ea, hl1, hm1, c2, hc1, c1, p1, p2, p3, hgt, BEq.rfl, List.map_nil, List.length_nil, List.length_map, show (((0 : Nat) : Int) == 0) = true from rfl] <;> with_reducible rfl); exact trivial)
        | rfl)
      try rfl
    · have hn2 : (e2 != 0) = true := by simpa [bne_iff_ne] using he2
      generalize hgt : decide ((l1.length : Int) + l2.length > 64) = q
      cases q
      · repeat (first
        | (apply axJ; (focus ((with_reducible constructor) <;> rfl)))
        | (apply awT mixedOK hΓ (by kernel_rfl); (simp (disch := omega) only [go_sem, ↓reduceIte, dk, ↓lk, Int.reduceBEq, Int.reduceBNe, Bool.true_bne, Bool.false_bne, Bool.not_true, Bool.not_false, ea, hl1, hm1, c2, hc1, c1, p1, p2, p3, hgt, hn2, hpos, BEq.rfl, List.map_nil, List.length_nil, List.length_map, show (((0 : Nat) : Int) == 0) = true from rfl] <;> with_reducible rfl))
        | ((first | apply awR hΓ | apply awG | apply awH mixedOK hΓ rfl (by kernel_rfl) | apply ovE rfl); (simp (disch := omega) only [go_sem, ↓reduceIte, dk, ↓lk, Int.reduceBEq, Int.reduceBNe, Bool.true_bne, Bool.false_bne, Bool.not_true, Bool.not_false, ea, hl1, hm1, c2, hc1, c1, p1, p2, p3, hgt, hn2, hpos, BEq.rfl, List.map_nil, List.length_nil, List.length_map, show (((0 : Nat) : Int) == 0) = true from rfl] <;> with_reducible rfl); exact trivial)
        | rfl)
        try rfl
      · repeat (first
        | (apply axJ; (focus ((with_reducible constructor) <;> rfl)))
        | (apply awT mixedOK hΓ (by kernel_rfl); (simp (disch := omega) only [go_sem, ↓reduceIte, dk, ↓lk, Int.reduceBEq, Int.reduceBNe, Bool.true_bne, Bool.false_bne, Bool.not_true, Bool.not_false, ea, hl1, hm1, c2, hc1, c1, p1, p2, p3, hgt, hn2, hpos, BEq.rfl, List.map_nil, List.length_nil, List.length_map, show (((0 : Nat) : Int) == 0) = true from rfl] <;> with_reducible rfl))
        | ((first | apply awR hΓ | apply awG | apply awH mixedOK hΓ rfl (by kernel_rfl) | apply ovE rfl); (simp (disch := omega) only [go_sem, ↓reduceIte, dk, ↓lk, Int.reduceBEq, Int.reduceBNe, Bool.true_bne, Bool.false_bne, Bool.not_true, Bool.not_false, ea, hl1, hm1, c2, hc1, c1, p1, p2, p3, hgt, hn2, hpos, BEq.rfl, List.map_nil, List.length_nil, List.length_map, show (((0 : Nat) : Int) == 0) = true from rfl] <;> with_reducible rfl); exact trivial)
        | rfl)
        try rfl
  unfold shiftR at hj
  dsimp only at hj
  by_cases he2 : e2 = 0
  rotate_left
  · obtain ⟨rfl, b9, b10⟩ := b8 _ _ _ rfl he2
    have hn2 : (e2 != 0) = true := by simpa [bne_iff_ne] using he2
    rw [if_neg (by simpa using he2)] at hj
    simp only [Prod.mk.injEq] at hj
    obtain ⟨rfl, rfl, he3⟩ := hj
    subst e3
    by_cases h10 : e2 = 10
    · subst h10
      generalize hgt : decide ((l1.length : Int) + ([] : List Stp).length > 64) = q
      generalize hpos : decide ((l1.length : Int) > 0) = q2
      rw [List.length_nil] at hgt
      cases q <;> cases q2
      all_goals
        repeat (first
          | (apply axJ; (focus ((with_reducible constructor) <;> rfl)))
          | (apply awT mixedOK hΓ (by kernel_rfl); (simp (disch := omega) only [go_sem, ↓reduceIte, dk, ↓lk, Int.reduceBEq, Int.reduceBNe, Bool.true_bne, Bool.false_bne, Bool.not_true, Bool.not_false, ea, hl1, hm1, c2, hc1, c1, p1, p2, p3, hgt, hn2, hpos, BEq.rfl, List.map_nil, List.length_nil, List.length_map, show (((0 : Nat) : Int) == 0) = true from rfl] <;> with_reducible rfl))
          | ((first | apply awR hΓ | apply awG | apply awH mixedOK hΓ rfl (by kernel_rfl) | apply ovE rfl); (simp (disch := omega) only [go_sem, ↓reduceIte, dk, ↓lk, Int.reduceBEq, Int.reduceBNe, Bool.true_bne, Bool.false_bne, Bool.not_true, Bool.not_false, ea, hl1, hm1, c2, hc1, c1, p1, p2, p3, hgt, hn2, hpos, BEq.rfl, List.map_nil, List.length_nil, List.length_map, show (((0 : Nat) : Int) == 0) = true from rfl] <;> with_reducible rfl); exact trivial)
          | rfl)
        try rfl
    · have h0 : 0 ≤ n2 := b9.resolve_right h10
      have hne : (e2 == 10) = false := by simpa using h10
      have hsum : (1 : Int) + (ka : Int) = ((ka + 1 : Nat) : Int) := by omega
      repeat (first
        | (apply axJ; (focus ((with_reducible constructor) <;> rfl)))
        | (apply awT mixedOK hΓ (by kernel_rfl); (simp (disch := omega) only [go_sem, ↓reduceIte, dk, ↓lk, Int.reduceBEq, Int.reduceBNe, Bool.true_bne, Bool.false_bne, Bool.not_true, Bool.not_false, ea, hl1, hm1, c2, hc1, c1, p1, p2, p3, hn2, hne, hsum, BEq.rfl, List.map_nil, List.length_nil, List.length_map, show (((0 : Nat) : Int) == 0) = true from rfl] <;> with_reducible rfl))
        | ((first | apply awR hΓ | apply awG | apply awH mixedOK hΓ rfl (by kernel_rfl) | apply ovE rfl); (simp (disch := omega) only [go_sem, ↓reduceIte, dk, ↓lk, Int.reduceBEq, Int.reduceBNe, Bool.true_bne, Bool.false_bne, Bool.not_true, Bool.not_false, ea, hl1, hm1, c2, hc1, c1, p1, p2, p3, hn2, hne, hsum, BEq.rfl, List.map_nil, List.length_nil, List.length_map, show (((0 : Nat) : Int) == 0) = true from rfl] <;> with_reducible rfl); exact trivial)
        | rfl)
      try rfl
  subst he2
  rw [if_pos (show ((0 : Int) == 0) = true from rfl)] at hj
  simp only [Prod.mk.injEq] at hj
  obtain ⟨rfl, rfl, rfl⟩ := hj
  have e5 := g_clo_eq (l := l1) (by omega)
  have e6 := g_sameAll14_eq (a := l1 ++ l2.map (sh ((ka + 1 : Nat) : Int))) (b := l1 ++ l2.map (sh ((ka + 1 : Nat) : Int))) ⟨⟨by omega, b6⟩, ⟨by omega, b6⟩⟩
  rw [sameAll_rfl] at e6
  have hsum : (1 : Int) + (ka : Int) = ((ka + 1 : Nat) : Int) := by omega
  have hem : elemsOK 6 (l1.map eSt) = true := elemsOK_map (f := eSt) (sz := 6) (fun _ => ⟨rfl, rfl⟩) l1
  generalize hk : ((ka + 1 : Nat) : Int) = k at *
  generalize h3l : l1 ++ l2.map (sh k) = l3 at *
  repeat (first
    | (apply axJ; (focus ((with_reducible constructor) <;> rfl)))
    | (apply awT mixedOK hΓ (by kernel_rfl); (simp (disch := omega) only [go_sem, ↓reduceIte, dk, ↓lk, Int.reduceBEq, Int.reduceBNe, Bool.true_bne, Bool.false_bne, Bool.not_true, Bool.not_false, ea, hl1, hm1, c2, hc1, c1, p1, p2, p3, e5, hem, hsum, BEq.rfl, List.length_map] <;> with_reducible rfl))
    | ((first | apply awR hΓ | apply awG | apply awH mixedOK hΓ rfl (by kernel_rfl) | apply ovE rfl); (simp (disch := omega) only [go_sem, ↓reduceIte, dk, ↓lk, Int.reduceBEq, Int.reduceBNe, Bool.true_bne, Bool.false_bne, Bool.not_true, Bool.not_false, ea, hl1, hm1, c2, hc1, c1, p1, p2, p3, e5, hem, hsum, BEq.rfl, List.length_map] <;> with_reducible rfl); exact trivial)
    | rfl)
  have hkb : 0 ≤ k ∧ k ≤ 1001 := by omega
  refine awp_loop_at (X := Nat) (fun i => (frame 147 [(5, .data (i64 k)), (12, .data (.list (l3.map eSt))), (13, .data (i64 (-1))), (14, .data (i64 0)), (15, .row 64 (l1 ++ (l2.take i).map (sh k)).length), (120, .data (.list (l2.map eSt))), (121, .data (i64 l2.length)), (122, .data (i64 i))])) (fun i => [(64, .row 34 6 ((l1 ++ (l2.take i).map (sh k)).map eSt))]) 69
    (fun i => i ≤ l2.length) (fun i => l2.length - i) 0 (Nat.zero_le _) (Weak.v (by (simp [ConvF, lookV, Conv, ints, List.take_zero, List.map_nil, List.append_nil]; done)) (by (simp (disch := omega) only [TabSub, look, if_pos, if_neg, Obj.refsOK, refsOKs, AV.refsOK, decide_eq_true_eq, Bool.and_true, Bool.and_self, List.take_zero, List.map_nil, List.append_nil] ) <;> ((repeat' apply And.intro) <;> first | exact True.intro | omega | (simp; done) | rfl))) ?_
  intro i hi
  (try dsimp only at hi ⊢)
  by_cases hi2 : i < l2.length
  · have hst := sh_take (k := k) hi2
    have hyb := b7 _ (List.getElem_mem hi2)
    have hlen : (l1 ++ (l2.take i).map (sh k)).length ≤ 3000 := by
      rw [List.length_append, List.length_map, List.length_take]
      omega
    have hap : l1 ++ (l2.take (i + 1)).map (sh k) = (l1 ++ (l2.take i).map (sh k)) ++ [sh k l2[i]] := by rw [hst, List.append_assoc]
    generalize l1 ++ (l2.take i).map (sh k) = acc at *
    generalize hy : l2[i] = y at *
    obtain ⟨yl, yk, yi, yu, yw, yo⟩ := y
    dsimp only at hyb
    repeat (first
      | (apply axJ; (focus ((with_reducible constructor) <;> rfl)))
      | (apply awT mixedOK hΓ (by kernel_rfl); (simp (disch := omega) only [go_sem, ↓reduceIte, dk, ↓lk, hy, eSt_eq] <;> with_reducible rfl))
      | ((first | apply awR hΓ | apply awG | apply awH mixedOK hΓ rfl (by kernel_rfl) | apply ovE rfl); (simp (disch := omega) only [go_sem, ↓reduceIte, dk, ↓lk, hy, eSt_eq] <;> with_reducible rfl); exact trivial)
      | rfl)
    refine ⟨i + 1, by omega, by omega, ?_⟩
    rw [hap]
    have hm : (acc ++ [sh k ⟨yl, yk, yi, yu, yw, yo⟩]).map eSt = acc.map eSt ++ [.agg [.int .i64 (yl + k), .int .i64 yk, .list (yi.map .str), .list (yu.map .str), .list (yw.map .str), .str yo]] := by rw [List.map_append]; rfl
    have hl2 : (acc ++ [sh k ⟨yl, yk, yi, yu, yw, yo⟩]).length = acc.length + 1 := by simp
    rw [hm, hl2]
    exact Weak.w
  · have hi3 : i = l2.length := by omega
    subst hi3
    rw [List.take_length, h3l]
    repeat (first
      | (apply axJ; (focus ((with_reducible constructor) <;> rfl)))
      | (apply awT mixedOK hΓ (by kernel_rfl); (simp (disch := omega) only [go_sem, ↓reduceIte, dk, ↓lk, Int.reduceBEq, Int.reduceBNe, Bool.true_bne, Bool.false_bne, Bool.not_true, Bool.not_false, e6] <;> with_reducible rfl))
      | ((first | apply awR hΓ | apply awG | apply awH mixedOK hΓ rfl (by kernel_rfl) | apply ovE rfl); (simp (disch := omega) only [go_sem, ↓reduceIte, dk, ↓lk, Int.reduceBEq, Int.reduceBNe, Bool.true_bne, Bool.false_bne, Bool.not_true, Bool.not_false, e6] <;> with_reducible rfl); exact trivial)
      | rfl)
    try rfl
end Go.Ab
