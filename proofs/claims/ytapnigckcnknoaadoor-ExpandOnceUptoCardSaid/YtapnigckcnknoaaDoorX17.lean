/-
  One text of the proof (own work): contracts of functions of the program, by the abstract machine.
-/
import Derived.Test.YtapnigckcnknoaaDoorX12
import Derived.Test.YtapnigckcnknoaaDoorX14
import Derived.Test.YtapnigckcnknoaaDoorX16
import Derived.Test.YtapnigckcnknoaaDoorX15
import Derived.Test.YtapnigckcnknoaaDoorX11
set_option linter.unusedVariables false
set_option linter.unusedSimpArgs false
namespace Go.Ab
open Go Go.RowKit Go.Proofs
set_option maxRecDepth 10000
set_option maxHeartbeats 16000000
theorem any_nx {α : Type} {p : α → Bool} {l : List α} {i : Nat} (hi : i < l.length) (hb : (l.take i).any p = false) (hp : p l[i] = false) : (l.take (i + 1)).any p = false := by
  rw [List.take_add_one, List.any_append, hb, List.getElem?_eq_getElem hi]
  simp [hp]
theorem pure_union {P : Program} {X : Type} {f : FuncId} {fl : Bool} {G : X → List D → Option D} {g : List D → Option D} (h : ∀ x, PureOK P f fl (G x)) (hg : ∀ ds d, g ds = some d → ∃ x, G x ds = some d) : PureOK P f fl g := fun ds d hd => by
  obtain ⟨x, hx⟩ := hg ds d hd
  exact h x ds d hx
abbrev Fl := Bs × Bs
def eFl (p : Fl) : D := .agg [.str p.1, .str p.2]
abbrev Sp := Bs × Int × Int
def eSp (s : Sp) : D := .agg [.str s.1, i64 s.2.1, i64 s.2.2]
structure Mc where
  name : Bs
  params : List Bs
  body : Sp
def eMc (m : Mc) : D := .agg [.str m.name, .list (m.params.map .str), .str m.body.1, i64 m.body.2.1, i64 m.body.2.2]
@[go_sem] theorem eFl_eq (p : Fl) : eFl p = .agg [.str p.1, .str p.2] := rfl
@[go_sem] theorem eSp_eq (s : Sp) : eSp s = .agg [.str s.1, i64 s.2.1, i64 s.2.2] := rfl
@[go_sem] theorem eMc_eq (m : Mc) : eMc m = .agg [.str m.name, .list (m.params.map .str), .str m.body.1, i64 m.body.2.1, i64 m.body.2.2] := rfl
@[go_sem] theorem eTk_eq (p : Tk) : eTk p = .agg [i64 p.1, .str p.2] := rfl
@[go_sem] theorem elemsOK_sp (l : List Sp) : elemsOK 3 (l.map eSp) = true := elemsOK_map (f := eSp) (fun _ => ⟨by rfl, by rfl⟩) l
@[go_sem] theorem elemsOK_tk (l : List Tk) : elemsOK 2 (l.map eTk) = true := elemsOK_map (f := eTk) (fun _ => ⟨by rfl, by rfl⟩) l
theorem eTk_inj (a b : Tk) (h : eTk a = eTk b) : a = b := by
  simp only [eTk, D.agg.injEq, List.cons.injEq, D.int.injEq, D.str.injEq, and_true, true_and] at h
  exact Prod.ext h.1 h.2
theorem eFl_inj (a b : Fl) (h : eFl a = eFl b) : a = b := by
  simp only [eFl, D.agg.injEq, List.cons.injEq, D.str.injEq, and_true] at h
  exact Prod.ext h.1 h.2
theorem eSp_inj (a b : Sp) (h : eSp a = eSp b) : a = b := by
  simp only [eSp, D.agg.injEq, List.cons.injEq, D.int.injEq, D.str.injEq, and_true, true_and] at h
  exact Prod.ext h.1 (Prod.ext h.2.1 h.2.2)
theorem eMc_inj (a b : Mc) (h : eMc a = eMc b) : a = b := by
  obtain ⟨a1, a2, a3, a4, a5⟩ := a
  obtain ⟨b1, b2, b3, b4, b5⟩ := b
  simp only [eMc, D.agg.injEq, List.cons.injEq, D.int.injEq, D.str.injEq, D.list.injEq, and_true, true_and] at h
  obtain ⟨rfl, h2, rfl, rfl, rfl⟩ := h
  have := (map_ie str_inj' _ _).mp h2
  subst this
  rfl
theorem eFl_e (a b : Fl) : (eFl a = eFl b) = (a = b) := propext ⟨eFl_inj a b, fun h => by rw [h]⟩
theorem eTk_e (a b : Tk) : (eTk a = eTk b) = (a = b) := propext ⟨eTk_inj a b, fun h => by rw [h]⟩
theorem eSp_e (a b : Sp) : (eSp a = eSp b) = (a = b) := propext ⟨eSp_inj a b, fun h => by rw [h]⟩
theorem eMc_e (a b : Mc) : (eMc a = eMc b) = (a = b) := propext ⟨eMc_inj a b, fun h => by rw [h]⟩
theorem eFl_ie (a b : List Fl) : (a.map eFl = b.map eFl) = (a = b) := map_ie eFl_inj a b
theorem eSp_ie (a b : List Sp) : (a.map eSp = b.map eSp) = (a = b) := map_ie eSp_inj a b
theorem eTk_ie (a b : List Tk) : (a.map eTk = b.map eTk) = (a = b) := map_ie eTk_inj a b
theorem eMc_ie (a b : List Mc) : (a.map eMc = b.map eMc) = (a = b) := map_ie eMc_inj a b
theorem f_idxFl_ok {dm : Fl → Prop} {f : FuncId} {g : List D → Option D} {caps : List D} {p : Fl → Bool} (hf : PureOK Tryd.prog f true g) (hp : ∀ x, dm x → g (eFl x :: caps) = some (.bool (p x))) : PureOK Tryd.prog 77 true (gIdxD eFl dm f caps p) := by
  have hΓ := Γc_ok hf
  refine pure_enc (n := 19) (rs := [.tmp 4]) Tryd.func77 (by kernel_rfl) rfl (by kernel_rfl) (by kernel_rfl) ?_
  rintro l ⟨hlen, hdm⟩
  refine ⟨fun _ => .int _ _, fun k hz0 => ?_⟩
  rw [start_frame (by simp)]; simp only [enumV, go_sem, emptyH]
  repeat (first
    | (apply axJ; (focus ((with_reducible constructor) <;> rfl)))
    | (apply awT mixedOK hΓ (by kernel_rfl); (simp (disch := omega) only [go_sem, ↓reduceIte, dk, ↓lk] <;> with_reducible rfl))
    | ((first | apply awR hΓ | apply awG | apply awH mixedOK hΓ rfl (by kernel_rfl) | apply ovE rfl); (simp (disch := omega) only [go_sem, ↓reduceIte, dk, ↓lk] <;> with_reducible rfl); exact trivial)
    | rfl)
  refine awp_loop_at (X := Nat) (fun i => (frame 19 [(0, .data (.list (l.map eFl))), (1, .data (.clo f caps)), (7, .data (i64 l.length)), (8, .data (i64 i))])) (fun _ => []) 9
    (fun i => i ≤ l.length ∧ (l.take i).any p = false) (fun i => l.length - i) 0 ⟨Nat.zero_le _, rfl⟩ (Weak.w) ?_
  rintro i ⟨hi, hpre⟩
  by_cases hi' : i < l.length
  · have hp' := hp _ (hdm _ (List.getElem_mem hi'))
    have hat := fun h => idx_at (p := p) hi' h hpre
    have hnx := fun h => any_nx (p := p) hi' hpre h
    try simp only [go_sem] at hp'
    generalize hy : l[i] = y at *
    generalize p y = c at *
    cases c
    · repeat (first
      | (apply axJ; (focus ((with_reducible constructor) <;> rfl)))
      | (apply awT mixedOK hΓ (by kernel_rfl); (simp (disch := omega) only [go_sem, ↓reduceIte, dk, ↓lk, Γc, hp', hy, freeze_data] <;> with_reducible rfl))
      | ((first | apply awR hΓ | apply awG | apply awH mixedOK hΓ rfl (by kernel_rfl) | apply ovE rfl); (simp (disch := omega) only [go_sem, ↓reduceIte, dk, ↓lk, Γc, hp', hy, freeze_data] <;> with_reducible rfl); exact trivial)
      | rfl)
      exact ⟨i + 1, ⟨by omega, hnx rfl⟩, by omega, Weak.w⟩
    · rw [hat rfl]
      repeat (first
        | (apply axJ; (focus ((with_reducible constructor) <;> rfl)))
        | (apply awT mixedOK hΓ (by kernel_rfl); (simp (disch := omega) only [go_sem, ↓reduceIte, dk, ↓lk, Γc, hp', hy, freeze_data] <;> with_reducible rfl))
        | ((first | apply awR hΓ | apply awG | apply awH mixedOK hΓ rfl (by kernel_rfl) | apply ovE rfl); (simp (disch := omega) only [go_sem, ↓reduceIte, dk, ↓lk, Γc, hp', hy, freeze_data] <;> with_reducible rfl); exact trivial)
        | rfl)
      try rfl
  · have hi3 : i = l.length := by omega
    subst hi3
    rw [List.take_length] at hpre
    rw [idx_none hpre]
    repeat (first
      | (apply axJ; (focus ((with_reducible constructor) <;> rfl)))
      | (apply awT mixedOK hΓ (by kernel_rfl); (simp (disch := omega) only [go_sem, ↓reduceIte, dk, ↓lk] <;> with_reducible rfl))
      | ((first | apply awR hΓ | apply awG | apply awH mixedOK hΓ rfl (by kernel_rfl) | apply ovE rfl); (simp (disch := omega) only [go_sem, ↓reduceIte, dk, ↓lk] <;> with_reducible rfl); exact trivial)
      | rfl)
    try rfl
theorem f_idxMc_ok {dm : Mc → Prop} {f : FuncId} {g : List D → Option D} {caps : List D} {p : Mc → Bool} (hf : PureOK Tryd.prog f true g) (hp : ∀ x, dm x → g (eMc x :: caps) = some (.bool (p x))) : PureOK Tryd.prog 17 true (gIdxD eMc dm f caps p) := by
  have hΓ := Γc_ok hf
  refine pure_enc (n := 19) (rs := [.tmp 4]) Tryd.func17 (by kernel_rfl) rfl (by kernel_rfl) (by kernel_rfl) ?_
  rintro l ⟨hlen, hdm⟩
  refine ⟨fun _ => .int _ _, fun k hz0 => ?_⟩
  rw [start_frame (by simp)]; simp only [enumV, go_sem, emptyH]
  repeat (first
    | (apply axJ; (focus ((with_reducible constructor) <;> rfl)))
    | (apply awT mixedOK hΓ (by kernel_rfl); (simp (disch := omega) only [go_sem, ↓reduceIte, dk, ↓lk] <;> with_reducible rfl))
    | ((first | apply awR hΓ | apply awG | apply awH mixedOK hΓ rfl (by kernel_rfl) | apply ovE rfl); (simp (disch := omega) only [go_sem, ↓reduceIte, dk, ↓lk] <;> with_reducible rfl); exact trivial)
    | rfl)
  refine awp_loop_at (X := Nat) (fun i => (frame 19 [(0, .data (.list (l.map eMc))), (1, .data (.clo f caps)), (7, .data (i64 l.length)), (8, .data (i64 i))])) (fun _ => []) 9
    (fun i => i ≤ l.length ∧ (l.take i).any p = false) (fun i => l.length - i) 0 ⟨Nat.zero_le _, rfl⟩ (Weak.w) ?_
  rintro i ⟨hi, hpre⟩
  by_cases hi' : i < l.length
  · have hp' := hp _ (hdm _ (List.getElem_mem hi'))
    have hat := fun h => idx_at (p := p) hi' h hpre
    have hnx := fun h => any_nx (p := p) hi' hpre h
    try simp only [go_sem] at hp'
    generalize hy : l[i] = y at *
    generalize p y = c at *
    cases c
    · repeat (first
      | (apply axJ; (focus ((with_reducible constructor) <;> rfl)))
      | (apply awT mixedOK hΓ (by kernel_rfl); (simp (disch := omega) only [go_sem, ↓reduceIte, dk, ↓lk, Γc, hp', hy, freeze_data] <;> with_reducible rfl))
      | ((first | apply awR hΓ | apply awG | apply awH mixedOK hΓ rfl (by kernel_rfl) | apply ovE rfl); (simp (disch := omega) only [go_sem, ↓reduceIte, dk, ↓lk, Γc, hp', hy, freeze_data] <;> with_reducible rfl); exact trivial)
      | rfl)
      exact ⟨i + 1, ⟨by omega, hnx rfl⟩, by omega, Weak.w⟩
    · rw [hat rfl]
      repeat (first
        | (apply axJ; (focus ((with_reducible constructor) <;> rfl)))
        | (apply awT mixedOK hΓ (by kernel_rfl); (simp (disch := omega) only [go_sem, ↓reduceIte, dk, ↓lk, Γc, hp', hy, freeze_data] <;> with_reducible rfl))
        | ((first | apply awR hΓ | apply awG | apply awH mixedOK hΓ rfl (by kernel_rfl) | apply ovE rfl); (simp (disch := omega) only [go_sem, ↓reduceIte, dk, ↓lk, Γc, hp', hy, freeze_data] <;> with_reducible rfl); exact trivial)
        | rfl)
      try rfl
  · have hi3 : i = l.length := by omega
    subst hi3
    rw [List.take_length] at hpre
    rw [idx_none hpre]
    repeat (first
      | (apply axJ; (focus ((with_reducible constructor) <;> rfl)))
      | (apply awT mixedOK hΓ (by kernel_rfl); (simp (disch := omega) only [go_sem, ↓reduceIte, dk, ↓lk] <;> with_reducible rfl))
      | ((first | apply awR hΓ | apply awG | apply awH mixedOK hΓ rfl (by kernel_rfl) | apply ovE rfl); (simp (disch := omega) only [go_sem, ↓reduceIte, dk, ↓lk] <;> with_reducible rfl); exact trivial)
      | rfl)
    try rfl
theorem f_idxSp_ok {dm : Sp → Prop} {f : FuncId} {g : List D → Option D} {caps : List D} {p : Sp → Bool} (hf : PureOK Tryd.prog f true g) (hp : ∀ x, dm x → g (eSp x :: caps) = some (.bool (p x))) : PureOK Tryd.prog 42 true (gIdxD eSp dm f caps p) := by
  have hΓ := Γc_ok hf
  refine pure_enc (n := 19) (rs := [.tmp 4]) Tryd.func42 (by kernel_rfl) rfl (by kernel_rfl) (by kernel_rfl) ?_
  rintro l ⟨hlen, hdm⟩
  refine ⟨fun _ => .int _ _, fun k hz0 => ?_⟩
  rw [start_frame (by simp)]; simp only [enumV, go_sem, emptyH]
  repeat (first
    | (apply axJ; (focus ((with_reducible constructor) <;> rfl)))
    | (apply awT mixedOK hΓ (by kernel_rfl); (simp (disch := omega) only [go_sem, ↓reduceIte, dk, ↓lk] <;> with_reducible rfl))
    | ((first | apply awR hΓ | apply awG | apply awH mixedOK hΓ rfl (by kernel_rfl) | apply ovE rfl); (simp (disch := omega) only [go_sem, ↓reduceIte, dk, ↓lk] <;> with_reducible rfl); exact trivial)
    | rfl)
  refine awp_loop_at (X := Nat) (fun i => (frame 19 [(0, .data (.list (l.map eSp))), (1, .data (.clo f caps)), (7, .data (i64 l.length)), (8, .data (i64 i))])) (fun _ => []) 9
    (fun i => i ≤ l.length ∧ (l.take i).any p = false) (fun i => l.length - i) 0 ⟨Nat.zero_le _, rfl⟩ (Weak.w) ?_
  rintro i ⟨hi, hpre⟩
  by_cases hi' : i < l.length
  · have hp' := hp _ (hdm _ (List.getElem_mem hi'))
    have hat := fun h => idx_at (p := p) hi' h hpre
    have hnx := fun h => any_nx (p := p) hi' hpre h
    try simp only [go_sem] at hp'
    generalize hy : l[i] = y at *
    generalize p y = c at *
    cases c
    · repeat (first
      | (apply axJ; (focus ((with_reducible constructor) <;> rfl)))
      | (apply awT mixedOK hΓ (by kernel_rfl); (simp (disch := omega) only [go_sem, ↓reduceIte, dk, ↓lk, Γc, hp', hy, freeze_data] <;> with_reducible rfl))
      | ((first | apply awR hΓ | apply awG | apply awH mixedOK hΓ rfl (by kernel_rfl) | apply ovE rfl); (simp (disch := omega) only [go_sem, ↓reduceIte, dk, ↓lk, Γc, hp', hy, freeze_data] <;> with_reducible rfl); exact trivial)
      | rfl)
      exact ⟨i + 1, ⟨by omega, hnx rfl⟩, by omega, Weak.w⟩
    · rw [hat rfl]
      repeat (first
        | (apply axJ; (focus ((with_reducible constructor) <;> rfl)))
        | (apply awT mixedOK hΓ (by kernel_rfl); (simp (disch := omega) only [go_sem, ↓reduceIte, dk, ↓lk, Γc, hp', hy, freeze_data] <;> with_reducible rfl))
        | ((first | apply awR hΓ | apply awG | apply awH mixedOK hΓ rfl (by kernel_rfl) | apply ovE rfl); (simp (disch := omega) only [go_sem, ↓reduceIte, dk, ↓lk, Γc, hp', hy, freeze_data] <;> with_reducible rfl); exact trivial)
        | rfl)
      try rfl
  · have hi3 : i = l.length := by omega
    subst hi3
    rw [List.take_length] at hpre
    rw [idx_none hpre]
    repeat (first
      | (apply axJ; (focus ((with_reducible constructor) <;> rfl)))
      | (apply awT mixedOK hΓ (by kernel_rfl); (simp (disch := omega) only [go_sem, ↓reduceIte, dk, ↓lk] <;> with_reducible rfl))
      | ((first | apply awR hΓ | apply awG | apply awH mixedOK hΓ rfl (by kernel_rfl) | apply ovE rfl); (simp (disch := omega) only [go_sem, ↓reduceIte, dk, ↓lk] <;> with_reducible rfl); exact trivial)
      | rfl)
    try rfl
noncomputable def g_tidxC : List D → Option D := encSpec (fun x : Fl × Bs => [eFl x.1, .ref [.str x.2]]) (fun x : Fl × Bs => True) (fun x : Fl × Bs => .bool (x.1.1 == x.2))
theorem g_tidxC_eq {f : Fl} {p : Bs} (hd : True) : g_tidxC [eFl f, .ref [.str p]] = some (.bool (f.1 == p)) := encSpec_eq (x := (f, p)) hd fun y hy => by
    obtain ⟨y0, y1⟩ := y; simp only [List.cons.injEq, and_true, true_and, D.str.injEq, D.int.injEq, D.list.injEq, D.bool.injEq, D.agg.injEq, D.clo.injEq, Int.natCast_inj, inj_ie, D.ref.injEq, eFl_ie, eFl_e, eTk_e, eSp_e, eMc_e] at hy
    (try obtain ⟨rfl, rfl⟩ := hy)
    (try subst_vars)
    rfl
theorem f_tidxC_ok : PureOK Tryd.prog 78 true g_tidxC := by
  have hΓ := Γ0_ok
  refine pure_enc (n := 8) (rs := [.tmp 3]) Tryd.func78 (by kernel_rfl) rfl (by kernel_rfl) (by kernel_rfl) ?_
  rintro ⟨f, p⟩ hd
  (try dsimp only at hd ⊢)
  refine ⟨fun _ => by (repeat (first | exact .int _ _ | exact .bool _ | exact .str _ | (refine .tup _ (fun d hd => ?_); simp only [List.mem_cons, List.not_mem_nil, or_false] at hd; rcases hd with rfl | hd))), fun k hz0 => ?_⟩
  unfold eFl
  generalize hc : (f.1 == p) = c
  rw [start_frame (by simp)]; simp only [enumV, go_sem, emptyH]
  repeat (first
    | (apply axJ; (focus ((with_reducible constructor) <;> rfl)))
    | (apply awT mixedOK hΓ (by kernel_rfl); (simp (disch := omega) only [go_sem, ↓reduceIte, dk, ↓lk, Int.reduceBEq, Int.reduceBNe, Bool.true_bne, Bool.false_bne, Bool.not_true, Bool.not_false, hc] <;> with_reducible rfl))
    | ((first | apply awR hΓ | apply awG | apply awH mixedOK hΓ rfl (by kernel_rfl) | apply ovE rfl); (simp (disch := omega) only [go_sem, ↓reduceIte, dk, ↓lk, Int.reduceBEq, Int.reduceBNe, Bool.true_bne, Bool.false_bne, Bool.not_true, Bool.not_false, hc] <;> with_reducible rfl); exact trivial)
    | rfl)
  try rfl
noncomputable def g_tix : List D → Option D := encSpec (fun y : List Fl × Bs => [.list (y.1.map eFl), .clo 78 [.ref [.str y.2]]]) (fun y => y.1.length ≤ 1099511627776) (fun y => i64 (idx (fun f : Fl => f.1 == y.2) y.1))
theorem f_tix_ok : PureOK Tryd.prog 77 true g_tix := by
  refine pure_union (X := Bs) (G := fun p => gIdxD eFl (fun _ => True) 78 [.ref [.str p]] (fun f => f.1 == p)) (fun p => f_idxFl_ok f_tidxC_ok fun y _ => g_tidxC_eq (f := y) (p := p) trivial) fun ds d hd => ?_
  obtain ⟨⟨l, p⟩, rfl, h1, rfl⟩ := encSpec_some hd
  exact ⟨p, gIdxD_eq eFl_inj h1 (fun _ _ => trivial)⟩
theorem g_tix_eq {l : List Fl} {p : Bs} (h1 : l.length ≤ 1099511627776) : g_tix [.list (l.map eFl), .clo 78 [.ref [.str p]]] = some (.int .i64 (idx (fun f : Fl => f.1 == p) l)) := encSpec_eq (x := (l, p)) h1 fun y hy => by
  obtain ⟨y1, y2⟩ := y
  simp only [List.cons.injEq, and_true, D.list.injEq, D.clo.injEq, D.ref.injEq, D.str.injEq, true_and, eFl_ie] at hy
  obtain ⟨rfl, rfl⟩ := hy
  rfl
noncomputable def g_tindex : List D → Option D := encSpec (fun x : (List Fl) × Bs => [.list (x.1.map eFl), .str x.2]) (fun x : (List Fl) × Bs => x.1.length ≤ 1099511627776) (fun x : (List Fl) × Bs => i64 (idx (fun f : Fl => f.1 == x.2) x.1))
theorem g_tindex_eq {l : List Fl} {q : Bs} (hd : l.length ≤ 1099511627776) : g_tindex [.list (l.map eFl), .str q] = some (i64 (idx (fun f : Fl => f.1 == q) l)) := encSpec_eq (x := (l, q)) hd fun y hy => by
    obtain ⟨y0, y1⟩ := y; simp only [List.cons.injEq, and_true, true_and, D.str.injEq, D.int.injEq, D.list.injEq, D.bool.injEq, D.agg.injEq, D.clo.injEq, Int.natCast_inj, inj_ie, D.ref.injEq, eFl_ie, eFl_e, eTk_e, eSp_e, eMc_e] at hy
    (try obtain ⟨rfl, rfl⟩ := hy)
    (try subst_vars)
    rfl
theorem f_tindex_ok : PureOK Tryd.prog 58 true g_tindex := by
  have hΓ := Γp f_tix_ok (Γn)
  refine pure_enc (n := 8) (rs := [.tmp 4]) Tryd.func58 (by kernel_rfl) rfl (by kernel_rfl) (by kernel_rfl) ?_
  rintro ⟨l, q⟩ hd
  (try dsimp only at hd ⊢)
  refine ⟨fun _ => by (repeat (first | exact .int _ _ | exact .bool _ | exact .str _ | (refine .tup _ (fun d hd => ?_); simp only [List.mem_cons, List.not_mem_nil, or_false] at hd; rcases hd with rfl | hd))), fun k hz0 => ?_⟩
  have e1 := g_tix_eq (l := l) (p := q) hd
  rw [start_frame (by simp)]; simp only [enumV, go_sem, emptyH]
  repeat (first
    | (apply axJ; (focus ((with_reducible constructor) <;> rfl)))
    | (apply awT mixedOK hΓ (by kernel_rfl); (simp (disch := omega) only [go_sem, ↓reduceIte, dk, ↓lk, e1] <;> with_reducible rfl))
    | ((first | apply awR hΓ | apply awG | apply awH mixedOK hΓ rfl (by kernel_rfl) | apply ovE rfl); (simp (disch := omega) only [go_sem, ↓reduceIte, dk, ↓lk, e1] <;> with_reducible rfl); exact trivial)
    | rfl)
  try rfl
def findF (l : List Fl) (p : Bs) : Bs × Bool := match l.find? (fun f => f.1 == p) with
  | some f => (f.2, true)
  | none => ([], false)
theorem find_idx (l : List Fl) (p : Bs) : (idx (fun f : Fl => f.1 == p) l = -1 ∧ findF l p = ([], false)) ∨ ∃ i : Nat, ∃ h : i < l.length, idx (fun f : Fl => f.1 == p) l = (i : Int) ∧ findF l p = ((l[i]).2, true) := by
  unfold idx findF
  rw [List.find?_eq_bind_findIdx?_getElem?]
  cases h : l.findIdx? (fun f : Fl => f.1 == p) with
  | none => exact .inl ⟨rfl, rfl⟩
  | some i =>
    have hi := (List.findIdx?_eq_some_iff_getElem.1 h).1
    refine .inr ⟨i, hi, rfl, ?_⟩
    simp [List.getElem?_eq_getElem hi]
noncomputable def g_tfind : List D → Option D := encSpec (fun x : (List Fl) × Bs => [.list (x.1.map eFl), .str x.2]) (fun x : (List Fl) × Bs => x.1.length ≤ 1099511627776) (fun x : (List Fl) × Bs => .tup [.str (findF x.1 x.2).1, .bool (findF x.1 x.2).2])
theorem g_tfind_eq {l : List Fl} {q : Bs} (hd : l.length ≤ 1099511627776) : g_tfind [.list (l.map eFl), .str q] = some (.tup [.str (findF l q).1, .bool (findF l q).2]) := encSpec_eq (x := (l, q)) hd fun y hy => by
    obtain ⟨y0, y1⟩ := y; simp only [List.cons.injEq, and_true, true_and, D.str.injEq, D.int.injEq, D.list.injEq, D.bool.injEq, D.agg.injEq, D.clo.injEq, Int.natCast_inj, inj_ie, D.ref.injEq, eFl_ie, eFl_e, eTk_e, eSp_e, eMc_e] at hy
    (try obtain ⟨rfl, rfl⟩ := hy)
    (try subst_vars)
    rfl
theorem f_tfind_ok : PureOK Tryd.prog 38 true g_tfind := by
  have hΓ := Γp f_tindex_ok (Γn)
  refine pure_enc (n := 17) (rs := [.tmp 4, .tmp 5]) Tryd.func38 (by kernel_rfl) rfl (by kernel_rfl) (by kernel_rfl) ?_
  rintro ⟨l, q⟩ hd
  (try dsimp only at hd ⊢)
  refine ⟨fun _ => by (refine .tup _ (fun d hd => ?_); simp only [List.mem_cons, List.not_mem_nil, or_false] at hd; repeat (first | exact .int _ _ | exact .bool _ | exact .str _ | (rcases hd with rfl | hd) | subst hd | (refine .agg _ (fun d hd => ?_); simp only [List.mem_cons, List.not_mem_nil, or_false] at hd))), fun k hz0 => ?_⟩
  have e1 := g_tindex_eq (l := l) (q := q) hd
  rw [start_frame (by simp)]; simp only [enumV, go_sem, emptyH]
  rcases find_idx l q with ⟨h1, h2⟩ | ⟨i, hi, h1, h2⟩
  · rw [h2]
    rw [h1] at e1
    have hg : decide ((-1 : Int) ≥ 0) = false := rfl
    repeat (first
      | (apply axJ; (focus ((with_reducible constructor) <;> rfl)))
      | (apply awT mixedOK hΓ (by kernel_rfl); (simp (disch := omega) only [go_sem, ↓reduceIte, dk, ↓lk, e1, hg] <;> with_reducible rfl))
      | ((first | apply awR hΓ | apply awG | apply awH mixedOK hΓ rfl (by kernel_rfl) | apply ovE rfl); (simp (disch := omega) only [go_sem, ↓reduceIte, dk, ↓lk, e1, hg] <;> with_reducible rfl); exact trivial)
      | rfl)
    try rfl
  · rw [h2]
    rw [h1] at e1
    generalize hy : l[i] = y at *
    have hg : decide ((i : Int) ≥ 0) = true := decide_eq_true (by omega)
    unfold eFl at *
    repeat (first
      | (apply axJ; (focus ((with_reducible constructor) <;> rfl)))
      | (apply awT mixedOK hΓ (by kernel_rfl); (simp (disch := omega) only [go_sem, ↓reduceIte, dk, ↓lk, e1, hg, hy] <;> with_reducible rfl))
      | ((first | apply awR hΓ | apply awG | apply awH mixedOK hΓ rfl (by kernel_rfl) | apply ovE rfl); (simp (disch := omega) only [go_sem, ↓reduceIte, dk, ↓lk, e1, hg, hy] <;> with_reducible rfl); exact trivial)
      | rfl)
    try rfl
end Go.Ab
namespace Go.Ab
open Go Go.RowKit Go.Proofs
set_option maxRecDepth 10000
set_option maxHeartbeats 16000000
def printE (l : List Tk) : Bs × Int := if decide ((l.length : Int) > 256) then ([], 10) else if l.all (fun t => validB t.1 t.2) then (Lib.join (l.map Prod.snd) [32], 0) else ([], 1)
theorem join_max (m : Nat) : ∀ l : List Bs, (∀ s ∈ l, s.length ≤ m) → (Lib.join l [32]).length ≤ l.length * (m + 1)
  | [], _ => Nat.zero_le _
  | [x], h => by
    have := h x (by simp)
    simp [Lib.join]
    omega
  | x :: y :: r, h => by
    have h1 := h x (by simp)
    have h2 := join_max m (y :: r) (fun s hs => h s (by simp [hs]))
    have e : Lib.join (x :: y :: r) [32] = x ++ [32] ++ Lib.join (y :: r) [32] := by simp [Lib.join]
    rw [e, List.length_append, List.length_append, List.length_cons (a := x), Nat.succ_mul]
    simp only [List.length_cons, List.length_nil] at *
    omega
theorem all_take {α : Type} {p : α → Bool} {l : List α} {i : Nat} (hi : i < l.length) (hb : (l.take i).all p = true) (hp : p l[i] = true) : (l.take (i + 1)).all p = true := by
  rw [List.take_add_one, List.all_append, hb, List.getElem?_eq_getElem hi]
  simp [hp]
theorem all_at {α : Type} {p : α → Bool} {l : List α} {i : Nat} (hi : i < l.length) (hp : p l[i] = false) : l.all p = false := by
  rw [List.all_eq_false]
  exact ⟨l[i], List.getElem_mem hi, by rw [hp]; simp⟩
noncomputable def g_tprint : List D → Option D := encSpec (fun x : (List Tk) => [.list (x.map eTk)]) (fun x : (List Tk) => x.length ≤ 1099511627776 ∧ ∀ t ∈ x, t.2.length ≤ 1000000000) (fun x : (List Tk) => .tup [.str (printE x).1, i64 (printE x).2])
theorem g_tprint_eq {l : List Tk} (hd : l.length ≤ 1099511627776 ∧ ∀ t ∈ l, t.2.length ≤ 1000000000) : g_tprint [.list (l.map eTk)] = some (.tup [.str (printE l).1, i64 (printE l).2]) := encSpec_eq (x := l) hd fun y hy => by
    simp only [List.cons.injEq, and_true, true_and, D.str.injEq, D.int.injEq, D.list.injEq, D.bool.injEq, D.agg.injEq, D.clo.injEq, Int.natCast_inj, inj_ie, D.ref.injEq, eTk_ie, eTk_e] at hy
    rw [hy]
theorem f_tprint_ok : PureOK Tryd.prog 10 true g_tprint := by
  have hΓ := Γp f_validP_ok (Γp f_join_ok (Γn))
  refine pure_enc (n := 27) (rs := [.tmp 2, .tmp 3]) Tryd.func10 (by kernel_rfl) rfl (by kernel_rfl) (by kernel_rfl) ?_
  rintro l hd
  (try dsimp only at hd ⊢)
  refine ⟨fun _ => by (refine .tup _ (fun d hd => ?_); simp only [List.mem_cons, List.not_mem_nil, or_false] at hd; repeat (first | exact .int _ _ | exact .bool _ | exact .str _ | (rcases hd with rfl | hd) | subst hd | (refine .agg _ (fun d hd => ?_); simp only [List.mem_cons, List.not_mem_nil, or_false] at hd))), fun k hz0 => ?_⟩
  obtain ⟨d1, d2⟩ := hd
  unfold printE
  rw [start_frame (by simp)]; simp only [enumV, go_sem, emptyH]
  by_cases hl : (l.length : Int) > 256
  · have h1 : decide ((l.length : Int) > 256) = true := decide_eq_true hl
    rw [h1]
    simp only [if_true]
    repeat (first
      | (apply axJ; (focus ((with_reducible constructor) <;> rfl)))
      | (apply awT mixedOK hΓ (by kernel_rfl); (simp (disch := omega) only [go_sem, ↓reduceIte, dk, ↓lk, Int.reduceBEq, Int.reduceBNe, Bool.true_bne, Bool.false_bne, Bool.not_true, Bool.not_false, h1] <;> with_reducible rfl))
      | ((first | apply awR hΓ | apply awG | apply awH mixedOK hΓ rfl (by kernel_rfl) | apply ovE rfl); (simp (disch := omega) only [go_sem, ↓reduceIte, dk, ↓lk, Int.reduceBEq, Int.reduceBNe, Bool.true_bne, Bool.false_bne, Bool.not_true, Bool.not_false, h1] <;> with_reducible rfl); exact trivial)
      | rfl)
    try rfl
  have h1 : decide ((l.length : Int) > 256) = false := decide_eq_false hl
  rw [h1]
  simp only [Bool.false_eq_true, if_false]
  repeat (first
    | (apply axJ; (focus ((with_reducible constructor) <;> rfl)))
    | (apply awT mixedOK hΓ (by kernel_rfl); (simp (disch := omega) only [go_sem, ↓reduceIte, dk, ↓lk, Int.reduceBEq, Int.reduceBNe, Bool.true_bne, Bool.false_bne, Bool.not_true, Bool.not_false, h1] <;> with_reducible rfl))
    | ((first | apply awR hΓ | apply awG | apply awH mixedOK hΓ rfl (by kernel_rfl) | apply ovE rfl); (simp (disch := omega) only [go_sem, ↓reduceIte, dk, ↓lk, Int.reduceBEq, Int.reduceBNe, Bool.true_bne, Bool.false_bne, Bool.not_true, Bool.not_false, h1] <;> with_reducible rfl); exact trivial)
    | rfl)
  refine awp_weak (Weak.nilrowF (i := 4) 9 (sz := 1) (by omega) (by omega) rfl) ?_
  refine awp_loop_at (X := Nat) (fun i => (frame 27 [(4, .row 9 i), (10, .data (.list (l.map eTk))), (11, .data (i64 l.length)), (12, .data (i64 i))])) (fun i => [(9, .row 9 1 (((l.map Prod.snd).take i).map .str))]) 10
    (fun i => i ≤ l.length ∧ (l.take i).all (fun t => validB t.1 t.2) = true) (fun i => l.length - i) 0 ⟨Nat.zero_le _, rfl⟩ (Weak.v (by (simp [ConvF, lookV, Conv, ints, upd]; done)) (by (simp (disch := omega) only [TabSub, look, if_pos, if_neg, Obj.refsOK, refsOKs, AV.refsOK, decide_eq_true_eq, Bool.and_true, Bool.and_self, upd] ) <;> ((repeat' apply And.intro) <;> first | exact True.intro | omega | (simp; done) | rfl))) ?_
  rintro i ⟨hi, hpre⟩
  (try dsimp only at hi hpre ⊢)
  by_cases hi2 : i < l.length
  · have hdy := d2 l[i] (List.getElem_mem hi2)
    have ev := g_validP_eq (kd := (l[i]).1) (s := (l[i]).2) (by omega)
    have hat := @all_at _ (fun t : Tk => validB t.1 t.2) l i hi2
    have htk := @all_take _ (fun t : Tk => validB t.1 t.2) l i hi2 hpre
    have hst : (((l.map Prod.snd).take (i + 1)).map D.str) = ((l.map Prod.snd).take i).map D.str ++ [.str (l[i]).2] := by
      rw [List.take_add_one, List.getElem?_map, List.getElem?_eq_getElem hi2, List.map_append]
      rfl
    have hll : (((l.map Prod.snd).take i).map D.str).length = i := by simp; omega
    generalize ((l.map Prod.snd).take i).map D.str = R at *
    generalize hy : l[i] = y at *
    obtain ⟨yk, yt⟩ := y
    dsimp only at ev hat htk hst hdy
    generalize validB yk yt = b at *
    cases b
    · rw [hat rfl]
      simp only [Bool.false_eq_true, if_false]
      repeat (first
        | (apply axJ; (focus ((with_reducible constructor) <;> rfl)))
        | (apply awT mixedOK hΓ (by kernel_rfl); (simp (disch := omega) only [go_sem, ↓reduceIte, dk, ↓lk, Int.reduceBEq, Int.reduceBNe, Bool.true_bne, Bool.false_bne, Bool.not_true, Bool.not_false, hy, ev, hll] <;> with_reducible rfl))
        | ((first | apply awR hΓ | apply awG | apply awH mixedOK hΓ rfl (by kernel_rfl) | apply ovE rfl); (simp (disch := omega) only [go_sem, ↓reduceIte, dk, ↓lk, Int.reduceBEq, Int.reduceBNe, Bool.true_bne, Bool.false_bne, Bool.not_true, Bool.not_false, hy, ev, hll] <;> with_reducible rfl); exact trivial)
        | rfl)
      try rfl
    · repeat (first
      | (apply axJ; (focus ((with_reducible constructor) <;> rfl)))
      | (apply awT mixedOK hΓ (by kernel_rfl); (simp (disch := omega) only [go_sem, ↓reduceIte, dk, ↓lk, Int.reduceBEq, Int.reduceBNe, Bool.true_bne, Bool.false_bne, Bool.not_true, Bool.not_false, hy, ev, hll] <;> with_reducible rfl))
      | ((first | apply awR hΓ | apply awG | apply awH mixedOK hΓ rfl (by kernel_rfl) | apply ovE rfl); (simp (disch := omega) only [go_sem, ↓reduceIte, dk, ↓lk, Int.reduceBEq, Int.reduceBNe, Bool.true_bne, Bool.false_bne, Bool.not_true, Bool.not_false, hy, ev, hll] <;> with_reducible rfl); exact trivial)
      | rfl)
      exact ⟨i + 1, ⟨by omega, htk rfl⟩, by omega, by rw [hst]; exact Weak.w⟩
  have hi3 : i = l.length := by omega
  subst hi3
  rw [List.take_length] at hpre
  rw [hpre]
  simp only [if_true]
  rw [show (l.map Prod.snd).take l.length = l.map Prod.snd from List.take_of_length_le (by simp)]
  have hj := join_max 1000000000 (l.map Prod.snd) (fun s hs => by obtain ⟨t, ht, rfl⟩ := List.mem_map.1 hs; exact d2 t ht)
  rw [List.length_map] at hj
  have e2 := g_join_eq (l := l.map Prod.snd) (s := [32]) ⟨by simp; omega, by omega⟩
  have hlm : (l.map Prod.snd).length = l.length := List.length_map _
  generalize Lib.join (l.map Prod.snd) [32] = J at *
  generalize l.map Prod.snd = L at *
  rw [← hlm] at *
  repeat (first
    | (apply axJ; (focus ((with_reducible constructor) <;> rfl)))
    | (apply awT mixedOK hΓ (by kernel_rfl); (simp (disch := omega) only [go_sem, ↓reduceIte, dk, ↓lk, Int.reduceBEq, Int.reduceBNe, Bool.true_bne, Bool.false_bne, Bool.not_true, Bool.not_false, e2] <;> with_reducible rfl))
    | ((first | apply awR hΓ | apply awG | apply awH mixedOK hΓ rfl (by kernel_rfl) | apply ovE rfl); (simp (disch := omega) only [go_sem, ↓reduceIte, dk, ↓lk, Int.reduceBEq, Int.reduceBNe, Bool.true_bne, Bool.false_bne, Bool.not_true, Bool.not_false, e2] <;> with_reducible rfl); exact trivial)
    | rfl)
  try rfl
end Go.Ab
namespace Go.Ab
open Go Go.RowKit Go.Proofs
set_option maxRecDepth 10000
set_option maxHeartbeats 16000000
theorem list_diff {α : Type} {a b : List α} {i : Nat} (ha : i < a.length) (hb : i < b.length) (h : a[i] ≠ b[i]) : a ≠ b := fun e => by
  subst e
  exact h rfl
noncomputable def g_sameT : List D → Option D := encSpec (fun x : (List Tk) × (List Tk) => [.list (x.1.map eTk), .list (x.2.map eTk)]) (fun x : (List Tk) × (List Tk) => x.1.length ≤ 1099511627776 ∧ x.2.length ≤ 1099511627776) (fun x : (List Tk) × (List Tk) => .bool (decide (x.1 = x.2)))
theorem g_sameT_eq {a : List Tk} {b : List Tk} (hd : a.length ≤ 1099511627776 ∧ b.length ≤ 1099511627776) : g_sameT [.list (a.map eTk), .list (b.map eTk)] = some (.bool (decide (a = b))) := encSpec_eq (x := (a, b)) hd fun y hy => by
    obtain ⟨y0, y1⟩ := y; simp only [List.cons.injEq, and_true, true_and, D.str.injEq, D.int.injEq, D.list.injEq, D.bool.injEq, D.agg.injEq, D.clo.injEq, Int.natCast_inj, inj_ie, D.ref.injEq, eTk_ie, eTk_e, eFl_ie] at hy
    (try obtain ⟨rfl, rfl⟩ := hy)
    (try subst_vars)
    rfl
theorem f_sameT_ok : PureOK Tryd.prog 8 true g_sameT := by
  have hΓ := Γ0_ok
  refine pure_enc (n := 26) (rs := [.tmp 4]) Tryd.func8 (by kernel_rfl) rfl (by kernel_rfl) (by kernel_rfl) ?_
  rintro ⟨a, b⟩ hd
  (try dsimp only at hd ⊢)
  refine ⟨fun _ => by (repeat (first | exact .int _ _ | exact .bool _ | exact .str _ | (refine .tup _ (fun d hd => ?_); simp only [List.mem_cons, List.not_mem_nil, or_false] at hd; rcases hd with rfl | hd))), fun k hz0 => ?_⟩
  obtain ⟨d1, d2⟩ := hd
  rw [start_frame (by simp)]; simp only [enumV, go_sem, emptyH]
  by_cases hl : a.length = b.length
  case neg =>
    have hab : decide (a = b) = false := decide_eq_false fun e => hl (by rw [e])
    rw [hab]
    have h1 : (((a.length : Nat) : Int) != (b.length : Int)) = true := by
      simp only [bne_iff_ne, ne_eq]
      omega
    repeat (first
      | (apply axJ; (focus ((with_reducible constructor) <;> rfl)))
      | (apply awT mixedOK hΓ (by kernel_rfl); (simp (disch := omega) only [go_sem, ↓reduceIte, dk, ↓lk, Int.reduceBEq, Int.reduceBNe, Bool.true_bne, Bool.false_bne, Bool.not_true, Bool.not_false, h1] <;> with_reducible rfl))
      | ((first | apply awR hΓ | apply awG | apply awH mixedOK hΓ rfl (by kernel_rfl) | apply ovE rfl); (simp (disch := omega) only [go_sem, ↓reduceIte, dk, ↓lk, Int.reduceBEq, Int.reduceBNe, Bool.true_bne, Bool.false_bne, Bool.not_true, Bool.not_false, h1] <;> with_reducible rfl); exact trivial)
      | rfl)
    try rfl
  have h1 : (((a.length : Nat) : Int) != (b.length : Int)) = false := by simp [hl]
  repeat (first
    | (apply axJ; (focus ((with_reducible constructor) <;> rfl)))
    | (apply awT mixedOK hΓ (by kernel_rfl); (simp (disch := omega) only [go_sem, ↓reduceIte, dk, ↓lk, Int.reduceBEq, Int.reduceBNe, Bool.true_bne, Bool.false_bne, Bool.not_true, Bool.not_false, h1] <;> with_reducible rfl))
    | ((first | apply awR hΓ | apply awG | apply awH mixedOK hΓ rfl (by kernel_rfl) | apply ovE rfl); (simp (disch := omega) only [go_sem, ↓reduceIte, dk, ↓lk, Int.reduceBEq, Int.reduceBNe, Bool.true_bne, Bool.false_bne, Bool.not_true, Bool.not_false, h1] <;> with_reducible rfl); exact trivial)
    | rfl)
  refine awp_loop_at (X := Nat) (fun i => (frame 26 [(0, .data (.list (a.map eTk))), (1, .data (.list (b.map eTk))), (12, .data (i64 a.length)), (13, .data (i64 i))])) (fun _ => []) 12
    (fun i => i ≤ a.length ∧ a.take i = b.take i) (fun i => a.length - i) 0 ⟨Nat.zero_le _, rfl⟩ (Weak.w) ?_
  rintro i ⟨hi, hpre⟩
  (try dsimp only at hi hpre ⊢)
  by_cases hi2 : i < a.length
  · have hi3 : i < b.length := by omega
    have hdf := list_diff hi2 hi3
    have hnx : a[i] = b[i] → a.take (i + 1) = b.take (i + 1) := fun h => by
      rw [List.take_add_one, List.take_add_one, hpre, List.getElem?_eq_getElem hi2, List.getElem?_eq_getElem hi3, h]
    generalize hy : a[i] = y at *
    generalize hz : b[i] = z at *
    obtain ⟨y1, y2⟩ := y
    obtain ⟨z1, z2⟩ := z
    by_cases he : ((y1, y2) : Tk) = (z1, z2)
    · have hq : ((y1 == z1) && (y2 == z2)) = true := by
        simp only [Prod.mk.injEq] at he
        simp [he.1, he.2]
      repeat (first
        | (apply axJ; (focus ((with_reducible constructor) <;> rfl)))
        | (apply awT mixedOK hΓ (by kernel_rfl); (simp (disch := omega) only [go_sem, ↓reduceIte, dk, ↓lk, Int.reduceBEq, Int.reduceBNe, Bool.true_bne, Bool.false_bne, Bool.not_true, Bool.not_false, hy, hz, eq_tok, hq] <;> with_reducible rfl))
        | ((first | apply awR hΓ | apply awG | apply awH mixedOK hΓ rfl (by kernel_rfl) | apply ovE rfl); (simp (disch := omega) only [go_sem, ↓reduceIte, dk, ↓lk, Int.reduceBEq, Int.reduceBNe, Bool.true_bne, Bool.false_bne, Bool.not_true, Bool.not_false, hy, hz, eq_tok, hq] <;> with_reducible rfl); exact trivial)
        | rfl)
      exact ⟨i + 1, ⟨by omega, hnx he⟩, by omega, Weak.w⟩
    · have hq : ((y1 == z1) && (y2 == z2)) = false := by
        rw [Bool.eq_false_iff]
        intro h
        simp only [Bool.and_eq_true, beq_iff_eq] at h
        exact he (by rw [h.1, h.2])
      have hab : decide (a = b) = false := decide_eq_false (hdf he)
      rw [hab]
      repeat (first
        | (apply axJ; (focus ((with_reducible constructor) <;> rfl)))
        | (apply awT mixedOK hΓ (by kernel_rfl); (simp (disch := omega) only [go_sem, ↓reduceIte, dk, ↓lk, Int.reduceBEq, Int.reduceBNe, Bool.true_bne, Bool.false_bne, Bool.not_true, Bool.not_false, hy, hz, eq_tok, hq] <;> with_reducible rfl))
        | ((first | apply awR hΓ | apply awG | apply awH mixedOK hΓ rfl (by kernel_rfl) | apply ovE rfl); (simp (disch := omega) only [go_sem, ↓reduceIte, dk, ↓lk, Int.reduceBEq, Int.reduceBNe, Bool.true_bne, Bool.false_bne, Bool.not_true, Bool.not_false, hy, hz, eq_tok, hq] <;> with_reducible rfl); exact trivial)
        | rfl)
      try rfl
  have hi3 : i = a.length := by omega
  subst hi3
  rw [List.take_length, List.take_of_length_le (by omega)] at hpre
  rw [decide_eq_true hpre]
  repeat (first
    | (apply axJ; (focus ((with_reducible constructor) <;> rfl)))
    | (apply awT mixedOK hΓ (by kernel_rfl); (simp (disch := omega) only [go_sem, ↓reduceIte, dk, ↓lk, Int.reduceBEq, Int.reduceBNe, Bool.true_bne, Bool.false_bne, Bool.not_true, Bool.not_false] <;> with_reducible rfl))
    | ((first | apply awR hΓ | apply awG | apply awH mixedOK hΓ rfl (by kernel_rfl) | apply ovE rfl); (simp (disch := omega) only [go_sem, ↓reduceIte, dk, ↓lk, Int.reduceBEq, Int.reduceBNe, Bool.true_bne, Bool.false_bne, Bool.not_true, Bool.not_false] <;> with_reducible rfl); exact trivial)
    | rfl)
  try rfl
end Go.Ab
namespace Go.Ab
open Go Go.RowKit Go.Proofs Go.Shelf
set_option maxRecDepth 10000
set_option maxHeartbeats 16000000
theorem wrapU8 {n : Int} (h : 0 ≤ n) (h' : n < 256) : IntKind.wrap .u8 n = n := by show n % 256 = n; omega
theorem wrapU64 {n : Int} (h : 0 ≤ n) (h' : n < 18446744073709551616) : IntKind.wrap .u64 n = n := by show n % 18446744073709551616 = n; omega
theorem wrapU32 {n : Int} (h : 0 ≤ n) (h' : n < 4294967296) : IntKind.wrap .u32 n = n := by show n % 4294967296 = n; omega
def numRGo : Int → Bool → Bs → Int × Int
  | n, l, [] => if l then (0, 3) else (n, 0)
  | n, l, c :: r => if digI c.toNat then (if decide (10 * n + ((c.toNat : Int) - 48) > 4294967295) then numRGo 4294967296 true r else numRGo (10 * n + ((c.toNat : Int) - 48)) l r) else (0, 4)
theorem numRGo_bad : ∀ (r : Bs) (n : Int) (l : Bool), (∃ c ∈ r, digI c.toNat = false) → numRGo n l r = (0, 4)
  | [], _, _, h => by obtain ⟨c, hc, _⟩ := h; cases hc
  | c :: r, n, l, h => by
    rw [numRGo]
    cases hc : digI c.toNat
    · rfl
    · have h2 : ∃ c ∈ r, digI c.toNat = false := by
        obtain ⟨d, hd, hq⟩ := h
        rcases List.mem_cons.1 hd with rfl | hd
        · rw [hc] at hq; cases hq
        · exact ⟨d, hd, hq⟩
      rw [if_pos rfl, numRGo_bad r _ _ h2, numRGo_bad r _ _ h2]
      split <;> rfl
theorem dig_ge {c : UInt8} (h : digI c.toNat = true) : 48 ≤ (c.toNat : Int) ∧ (c.toNat : Int) ≤ 57 := by
  unfold digI at h
  simp only [Bool.and_eq_true, decide_eq_true_eq] at h
  exact h
theorem numRGo_large : ∀ (r : Bs), (∀ c ∈ r, digI c.toNat = true) → numRGo 4294967296 true r = (0, 3)
  | [], _ => rfl
  | c :: r, h => by
    have := dig_ge (h c (by simp))
    rw [numRGo, h c (by simp), if_pos rfl, if_pos (by simp only [decide_eq_true_eq]; omega)]
    exact numRGo_large r fun x hx => h x (by simp [hx])
theorem numRGo_ok : ∀ (r : Bs) (n : Int), (∀ c ∈ r, digI c.toNat = true) → numRGo n false r = numGo n r
  | [], _, _ => rfl
  | c :: r, n, h => by
    rw [numRGo, h c (by simp), if_pos rfl, numGo]
    split
    · exact numRGo_large r fun x hx => h x (by simp [hx])
    · exact numRGo_ok r _ fun x hx => h x (by simp [hx])
theorem numR_eq (s : Bs) : (if s == [] || (decide ((s.length : Int) > 1) && s.headD 0 == 48) then ((0, 4) : Int × Int) else numRGo 0 false s) = numE s := by
  unfold numE
  by_cases hr : runI s false = s.length
  · have hd : ∀ c ∈ s, digI c.toNat = true := fun c hc => by
      have := (runI_all s false).1 hr
      rw [List.any_eq_false] at this
      have := this c hc
      unfold runQ at this
      simp only [Bool.false_and, Bool.not_false, Bool.and_true, Bool.not_eq_true, Bool.not_eq_false'] at this
      exact this
    rw [decide_eq_true hr, numRGo_ok s 0 hd]
    simp
  · have hb : ∃ c ∈ s, digI c.toNat = false := by
      have h1 : s.any (fun b => runQ false b.toNat) = true := by
        cases h2 : s.any (fun b => runQ false b.toNat) with
        | true => rfl
        | false => exact absurd ((runI_all s false).2 h2) hr
      rw [List.any_eq_true] at h1
      obtain ⟨c, hc, hq⟩ := h1
      refine ⟨c, hc, ?_⟩
      unfold runQ at hq
      simpa using hq
    rw [decide_eq_false hr, numRGo_bad s 0 false hb]
    simp
theorem numE_bd (s : Bs) : 0 ≤ (numE s).1 ∧ (numE s).1 ≤ 4294967295 := by
  have h : ∀ (r : Bs) (n : Int), 0 ≤ n → n ≤ 4294967295 → (∀ c ∈ r, digI c.toNat = true) → 0 ≤ (numGo n r).1 ∧ (numGo n r).1 ≤ 4294967295 := by
    intro r
    induction r with
    | nil => intro n h1 h2 _; exact ⟨h1, h2⟩
    | cons c r ih =>
      intro n h1 h2 h3
      have := dig_ge (h3 c (by simp))
      rw [numGo]
      split
      · exact ⟨by decide, by decide⟩
      · rename_i hq
        simp only [decide_eq_true_eq] at hq
        exact ih _ (by omega) (by omega) fun x hx => h3 x (by simp [hx])
  rw [← numR_eq]
  split
  · exact ⟨by decide, by decide⟩
  · by_cases hd : ∀ c ∈ s, digI c.toNat = true
    · rw [numRGo_ok s 0 hd]
      exact h s 0 (by decide) (by decide) hd
    · have : ∃ c ∈ s, digI c.toNat = false := by
        simp only [Classical.not_forall] at hd
        obtain ⟨c, hc, hq⟩ := hd
        exact ⟨c, hc, by simpa using hq⟩
      rw [numRGo_bad s 0 false this]
      exact ⟨by decide, by decide⟩
noncomputable def g_numR5 : List D → Option D := encSpec (fun x : Bs => [.str x]) (fun x : Bs => x.length ≤ 1099511627776) (fun x : Bs => .tup [.int .u32 (numE x).1, i64 (numE x).2])
theorem g_numR5_eq {s : Bs} (hd : s.length ≤ 1099511627776) : g_numR5 [.str s] = some (.tup [.int .u32 (numE s).1, i64 (numE s).2]) := encSpec_eq (x := s) hd fun y hy => by
    simp only [List.cons.injEq, and_true, true_and, D.str.injEq, D.int.injEq, D.list.injEq, D.bool.injEq, D.agg.injEq, D.clo.injEq, Int.natCast_inj, inj_ie, D.ref.injEq, eTk_ie, eTk_e] at hy
    rw [hy]
theorem f_numR5_ok : PureOK Tryd.prog 49 true g_numR5 := by
  have hΓ := Γp f_digR_ok (Γn)
  refine pure_enc (n := 43) (rs := [.tmp 2, .tmp 3]) Tryd.func49 (by kernel_rfl) rfl (by kernel_rfl) (by kernel_rfl) ?_
  rintro s hd
  (try dsimp only at hd ⊢)
  refine ⟨fun _ => by (refine .tup _ (fun d hd => ?_); simp only [List.mem_cons, List.not_mem_nil, or_false] at hd; repeat (first | exact .int _ _ | exact .bool _ | exact .str _ | (rcases hd with rfl | hd) | subst hd | (refine .agg _ (fun d hd => ?_); simp only [List.mem_cons, List.not_mem_nil, or_false] at hd))), fun k hz0 => ?_⟩
  rw [← numR_eq]
  have hbd := numE_bd s
  rw [← numR_eq] at hbd
  rcases hs : s with _ | ⟨c, r⟩
  · rw [start_frame (by simp)]; simp only [enumV, go_sem, emptyH]
    repeat (first
      | (apply axJ; (focus ((with_reducible constructor) <;> rfl)))
      | (apply awT mixedOK hΓ (by kernel_rfl); (simp (disch := omega) only [go_sem, ↓reduceIte, dk, ↓lk, Int.reduceBEq, Int.reduceBNe, Bool.true_bne, Bool.false_bne, Bool.not_true, Bool.not_false] <;> with_reducible rfl))
      | ((first | apply awR hΓ | apply awG | apply awH mixedOK hΓ rfl (by kernel_rfl) | apply ovE rfl); (simp (disch := omega) only [go_sem, ↓reduceIte, dk, ↓lk, Int.reduceBEq, Int.reduceBNe, Bool.true_bne, Bool.false_bne, Bool.not_true, Bool.not_false] <;> with_reducible rfl); exact trivial)
      | rfl)
    try rfl
  have hne : (s == []) = false := by rw [hs]; rfl
  have hhd : s.headD 0 = c := by rw [hs]; rfl
  have hb0 : ∀ h : 0 < s.length, s[0]'h = c := fun h => by subst hs; rfl
  have hlen : 0 < s.length := by rw [hs]; simp
  rw [← hs]
  rw [hne, hhd, Bool.false_or] at hbd ⊢
  clear hs
  have hb : (((c.toNat : Nat) : Int) == 48) = (c == 48) := byteEq c 48
  rw [start_frame (by simp)]; simp only [enumV, go_sem, emptyH]
  cases k1 : decide ((s.length : Int) > 1)
  · rw [k1] at hbd
    simp only [Bool.false_eq_true, Bool.false_and, if_false] at hbd ⊢
    repeat (first
      | (apply axJ; (focus ((with_reducible constructor) <;> rfl)))
      | (apply awT mixedOK hΓ (by kernel_rfl); (simp (disch := omega) only [go_sem, ↓reduceIte, dk, ↓lk, Int.reduceBEq, Int.reduceBNe, Bool.true_bne, Bool.false_bne, Bool.not_true, Bool.not_false, Int.reduceToNat, hne, k1, hb0, hb] <;> with_reducible rfl))
      | ((first | apply awR hΓ | apply awG | apply awH mixedOK hΓ rfl (by kernel_rfl) | apply ovE rfl); (simp (disch := omega) only [go_sem, ↓reduceIte, dk, ↓lk, Int.reduceBEq, Int.reduceBNe, Bool.true_bne, Bool.false_bne, Bool.not_true, Bool.not_false, Int.reduceToNat, hne, k1, hb0, hb] <;> with_reducible rfl); exact trivial)
      | rfl)
    refine awp_loop_at (X := Nat × Int × Bool) (fun y => (frame 43 [(0, .data (.str s)), (4, .data (.int .u64 y.2.1)), (5, .data (.bool y.2.2)), (6, .data (i64 y.1))])) (fun _ => []) 6
      (fun y => y.1 ≤ s.length ∧ numRGo 0 false s = numRGo y.2.1 y.2.2 (s.drop y.1) ∧ 0 ≤ y.2.1 ∧ y.2.1 ≤ 4294967296 ∧ (y.2.2 = false → y.2.1 ≤ 4294967295)) (fun y => s.length - y.1) (0, 0, false) ⟨Nat.zero_le _, rfl, by decide, by decide, fun _ => by decide⟩ (Weak.w) ?_
    rintro ⟨i, n, l⟩ ⟨hi, hpre, hn1, hn2, hn3⟩
    (try dsimp only at hi hpre hn1 hn2 hn3 ⊢)
    by_cases hi2 : i < s.length
    · have hdr := List.drop_eq_getElem_cons hi2
      have e1 := g_digR_eq (c := (s[i].toNat : Int)) trivial
      have hge : digI (s[i].toNat : Int) = true → _ := fun h => dig_ge h
      rw [hdr, numRGo] at hpre
      generalize hy : s[i] = y at *
      cases hq : digI (y.toNat : Int)
      · rw [hq] at hpre e1
        simp only [Bool.false_eq_true, if_false] at hpre
        rw [hpre]
        repeat (first
          | (apply axJ; (focus ((with_reducible constructor) <;> rfl)))
          | (apply awT mixedOK hΓ (by kernel_rfl); (simp (disch := omega) only [go_sem, ↓reduceIte, dk, ↓lk, Int.reduceBEq, Int.reduceBNe, Bool.true_bne, Bool.false_bne, Bool.not_true, Bool.not_false, hy, e1] <;> with_reducible rfl))
          | ((first | apply awR hΓ | apply awG | apply awH mixedOK hΓ rfl (by kernel_rfl) | apply ovE rfl); (simp (disch := omega) only [go_sem, ↓reduceIte, dk, ↓lk, Int.reduceBEq, Int.reduceBNe, Bool.true_bne, Bool.false_bne, Bool.not_true, Bool.not_false, hy, e1] <;> with_reducible rfl); exact trivial)
          | rfl)
        try rfl
      · rw [hq] at hpre e1
        obtain ⟨g1, g2⟩ := hge hq
        have w1 := wrapU8 (n := (y.toNat : Int) - 48) (by omega) (by omega)
        have w2 := wrapU64 (n := (y.toNat : Int) - 48) (by omega) (by omega)
        have w3 := wrapU64 (n := 10 * n) (by omega) (by omega)
        have w4 := wrapU64 (n := 10 * n + ((y.toNat : Int) - 48)) (by omega) (by omega)
        simp only [if_true] at hpre
        cases hg : decide (10 * n + ((y.toNat : Int) - 48) > 4294967295)
        · rw [hg] at hpre
          simp only [Bool.false_eq_true, if_false] at hpre
          have hg2 := of_decide_eq_false hg
          repeat (first
            | (apply axJ; (focus ((with_reducible constructor) <;> rfl)))
            | (apply awT mixedOK hΓ (by kernel_rfl); (simp (disch := omega) only [go_sem, ↓reduceIte, dk, ↓lk, Int.reduceBEq, Int.reduceBNe, Bool.true_bne, Bool.false_bne, Bool.not_true, Bool.not_false, hy, e1, w1, w2, w3, w4, hg] <;> with_reducible rfl))
            | ((first | apply awR hΓ | apply awG | apply awH mixedOK hΓ rfl (by kernel_rfl) | apply ovE rfl); (simp (disch := omega) only [go_sem, ↓reduceIte, dk, ↓lk, Int.reduceBEq, Int.reduceBNe, Bool.true_bne, Bool.false_bne, Bool.not_true, Bool.not_false, hy, e1, w1, w2, w3, w4, hg] <;> with_reducible rfl); exact trivial)
            | rfl)
          exact ⟨(i + 1, 10 * n + ((y.toNat : Int) - 48), l), ⟨by dsimp only; omega, hpre, by dsimp only; omega, by dsimp only; omega, fun _ => by dsimp only; omega⟩, by dsimp only; omega, Weak.w⟩
        · rw [hg] at hpre
          simp only [if_true] at hpre
          repeat (first
            | (apply axJ; (focus ((with_reducible constructor) <;> rfl)))
            | (apply awT mixedOK hΓ (by kernel_rfl); (simp (disch := omega) only [go_sem, ↓reduceIte, dk, ↓lk, Int.reduceBEq, Int.reduceBNe, Bool.true_bne, Bool.false_bne, Bool.not_true, Bool.not_false, hy, e1, w1, w2, w3, w4, hg] <;> with_reducible rfl))
            | ((first | apply awR hΓ | apply awG | apply awH mixedOK hΓ rfl (by kernel_rfl) | apply ovE rfl); (simp (disch := omega) only [go_sem, ↓reduceIte, dk, ↓lk, Int.reduceBEq, Int.reduceBNe, Bool.true_bne, Bool.false_bne, Bool.not_true, Bool.not_false, hy, e1, w1, w2, w3, w4, hg] <;> with_reducible rfl); exact trivial)
            | rfl)
          exact ⟨(i + 1, 4294967296, true), ⟨by dsimp only; omega, hpre, by dsimp only; omega, by dsimp only; omega, fun h => by cases h⟩, by dsimp only; omega, Weak.w⟩
    · have hi3 : i = s.length := by omega
      subst hi3
      rw [List.drop_length, numRGo] at hpre
      cases l
      · simp only [Bool.false_eq_true, if_false] at hpre
        rw [hpre]
        have w1 := wrapU32 (n := n) hn1 (by have := hn3 rfl; omega)
        repeat (first
          | (apply axJ; (focus ((with_reducible constructor) <;> rfl)))
          | (apply awT mixedOK hΓ (by kernel_rfl); (simp (disch := omega) only [go_sem, ↓reduceIte, dk, ↓lk, Int.reduceBEq, Int.reduceBNe, Bool.true_bne, Bool.false_bne, Bool.not_true, Bool.not_false, w1] <;> with_reducible rfl))
          | ((first | apply awR hΓ | apply awG | apply awH mixedOK hΓ rfl (by kernel_rfl) | apply ovE rfl); (simp (disch := omega) only [go_sem, ↓reduceIte, dk, ↓lk, Int.reduceBEq, Int.reduceBNe, Bool.true_bne, Bool.false_bne, Bool.not_true, Bool.not_false, w1] <;> with_reducible rfl); exact trivial)
          | rfl)
        try rfl
      · simp only [if_true] at hpre
        rw [hpre]
        repeat (first
          | (apply axJ; (focus ((with_reducible constructor) <;> rfl)))
          | (apply awT mixedOK hΓ (by kernel_rfl); (simp (disch := omega) only [go_sem, ↓reduceIte, dk, ↓lk, Int.reduceBEq, Int.reduceBNe, Bool.true_bne, Bool.false_bne, Bool.not_true, Bool.not_false] <;> with_reducible rfl))
          | ((first | apply awR hΓ | apply awG | apply awH mixedOK hΓ rfl (by kernel_rfl) | apply ovE rfl); (simp (disch := omega) only [go_sem, ↓reduceIte, dk, ↓lk, Int.reduceBEq, Int.reduceBNe, Bool.true_bne, Bool.false_bne, Bool.not_true, Bool.not_false] <;> with_reducible rfl); exact trivial)
          | rfl)
        try rfl
  cases k2 : (c == 48)
  · rw [k1, k2] at hbd
    rw [k2] at hb
    simp only [Bool.false_eq_true, Bool.and_false, if_false] at hbd ⊢
    repeat (first
      | (apply axJ; (focus ((with_reducible constructor) <;> rfl)))
      | (apply awT mixedOK hΓ (by kernel_rfl); (simp (disch := omega) only [go_sem, ↓reduceIte, dk, ↓lk, Int.reduceBEq, Int.reduceBNe, Bool.true_bne, Bool.false_bne, Bool.not_true, Bool.not_false, Int.reduceToNat, hne, k1, hb0, hb] <;> with_reducible rfl))
      | ((first | apply awR hΓ | apply awG | apply awH mixedOK hΓ rfl (by kernel_rfl) | apply ovE rfl); (simp (disch := omega) only [go_sem, ↓reduceIte, dk, ↓lk, Int.reduceBEq, Int.reduceBNe, Bool.true_bne, Bool.false_bne, Bool.not_true, Bool.not_false, Int.reduceToNat, hne, k1, hb0, hb] <;> with_reducible rfl); exact trivial)
      | rfl)
    refine awp_loop_at (X := Nat × Int × Bool) (fun y => (frame 43 [(0, .data (.str s)), (4, .data (.int .u64 y.2.1)), (5, .data (.bool y.2.2)), (6, .data (i64 y.1))])) (fun _ => []) 6
      (fun y => y.1 ≤ s.length ∧ numRGo 0 false s = numRGo y.2.1 y.2.2 (s.drop y.1) ∧ 0 ≤ y.2.1 ∧ y.2.1 ≤ 4294967296 ∧ (y.2.2 = false → y.2.1 ≤ 4294967295)) (fun y => s.length - y.1) (0, 0, false) ⟨Nat.zero_le _, rfl, by decide, by decide, fun _ => by decide⟩ (Weak.w) ?_
    rintro ⟨i, n, l⟩ ⟨hi, hpre, hn1, hn2, hn3⟩
    (try dsimp only at hi hpre hn1 hn2 hn3 ⊢)
    by_cases hi2 : i < s.length
    · have hdr := List.drop_eq_getElem_cons hi2
      have e1 := g_digR_eq (c := (s[i].toNat : Int)) trivial
      have hge : digI (s[i].toNat : Int) = true → _ := fun h => dig_ge h
      rw [hdr, numRGo] at hpre
      generalize hy : s[i] = y at *
      cases hq : digI (y.toNat : Int)
      · rw [hq] at hpre e1
        simp only [Bool.false_eq_true, if_false] at hpre
        rw [hpre]
        repeat (first
          | (apply axJ; (focus ((with_reducible constructor) <;> rfl)))
          | (apply awT mixedOK hΓ (by kernel_rfl); (simp (disch := omega) only [go_sem, ↓reduceIte, dk, ↓lk, Int.reduceBEq, Int.reduceBNe, Bool.true_bne, Bool.false_bne, Bool.not_true, Bool.not_false, hy, e1] <;> with_reducible rfl))
          | ((first | apply awR hΓ | apply awG | apply awH mixedOK hΓ rfl (by kernel_rfl) | apply ovE rfl); (simp (disch := omega) only [go_sem, ↓reduceIte, dk, ↓lk, Int.reduceBEq, Int.reduceBNe, Bool.true_bne, Bool.false_bne, Bool.not_true, Bool.not_false, hy, e1] <;> with_reducible rfl); exact trivial)
          | rfl)
        try rfl
      · rw [hq] at hpre e1
        obtain ⟨g1, g2⟩ := hge hq
        have w1 := wrapU8 (n := (y.toNat : Int) - 48) (by omega) (by omega)
        have w2 := wrapU64 (n := (y.toNat : Int) - 48) (by omega) (by omega)
        have w3 := wrapU64 (n := 10 * n) (by omega) (by omega)
        have w4 := wrapU64 (n := 10 * n + ((y.toNat : Int) - 48)) (by omega) (by omega)
        simp only [if_true] at hpre
        cases hg : decide (10 * n + ((y.toNat : Int) - 48) > 4294967295)
        · rw [hg] at hpre
          simp only [Bool.false_eq_true, if_false] at hpre
          have hg2 := of_decide_eq_false hg
          repeat (first
            | (apply axJ; (focus ((with_reducible constructor) <;> rfl)))
            | (apply awT mixedOK hΓ (by kernel_rfl); (simp (disch := omega) only [go_sem, ↓reduceIte, dk, ↓lk, Int.reduceBEq, Int.reduceBNe, Bool.true_bne, Bool.false_bne, Bool.not_true, Bool.not_false, hy, e1, w1, w2, w3, w4, hg] <;> with_reducible rfl))
            | ((first | apply awR hΓ | apply awG | apply awH mixedOK hΓ rfl (by kernel_rfl) | apply ovE rfl); (simp (disch := omega) only [go_sem, ↓reduceIte, dk, ↓lk, Int.reduceBEq, Int.reduceBNe, Bool.true_bne, Bool.false_bne, Bool.not_true, Bool.not_false, hy, e1, w1, w2, w3, w4, hg] <;> with_reducible rfl); exact trivial)
            | rfl)
          exact ⟨(i + 1, 10 * n + ((y.toNat : Int) - 48), l), ⟨by dsimp only; omega, hpre, by dsimp only; omega, by dsimp only; omega, fun _ => by dsimp only; omega⟩, by dsimp only; omega, Weak.w⟩
        · rw [hg] at hpre
          simp only [if_true] at hpre
          repeat (first
            | (apply axJ; (focus ((with_reducible constructor) <;> rfl)))
            | (apply awT mixedOK hΓ (by kernel_rfl); (simp (disch := omega) only [go_sem, ↓reduceIte, dk, ↓lk, Int.reduceBEq, Int.reduceBNe, Bool.true_bne, Bool.false_bne, Bool.not_true, Bool.not_false, hy, e1, w1, w2, w3, w4, hg] <;> with_reducible rfl))
            | ((first | apply awR hΓ | apply awG | apply awH mixedOK hΓ rfl (by kernel_rfl) | apply ovE rfl); (simp (disch := omega) only [go_sem, ↓reduceIte, dk, ↓lk, Int.reduceBEq, Int.reduceBNe, Bool.true_bne, Bool.false_bne, Bool.not_true, Bool.not_false, hy, e1, w1, w2, w3, w4, hg] <;> with_reducible rfl); exact trivial)
            | rfl)
          exact ⟨(i + 1, 4294967296, true), ⟨by dsimp only; omega, hpre, by dsimp only; omega, by dsimp only; omega, fun h => by cases h⟩, by dsimp only; omega, Weak.w⟩
    · have hi3 : i = s.length := by omega
      subst hi3
      rw [List.drop_length, numRGo] at hpre
      cases l
      · simp only [Bool.false_eq_true, if_false] at hpre
        rw [hpre]
        have w1 := wrapU32 (n := n) hn1 (by have := hn3 rfl; omega)
        repeat (first
          | (apply axJ; (focus ((with_reducible constructor) <;> rfl)))
          | (apply awT mixedOK hΓ (by kernel_rfl); (simp (disch := omega) only [go_sem, ↓reduceIte, dk, ↓lk, Int.reduceBEq, Int.reduceBNe, Bool.true_bne, Bool.false_bne, Bool.not_true, Bool.not_false, w1] <;> with_reducible rfl))
          | ((first | apply awR hΓ | apply awG | apply awH mixedOK hΓ rfl (by kernel_rfl) | apply ovE rfl); (simp (disch := omega) only [go_sem, ↓reduceIte, dk, ↓lk, Int.reduceBEq, Int.reduceBNe, Bool.true_bne, Bool.false_bne, Bool.not_true, Bool.not_false, w1] <;> with_reducible rfl); exact trivial)
          | rfl)
        try rfl
      · simp only [if_true] at hpre
        rw [hpre]
        repeat (first
          | (apply axJ; (focus ((with_reducible constructor) <;> rfl)))
          | (apply awT mixedOK hΓ (by kernel_rfl); (simp (disch := omega) only [go_sem, ↓reduceIte, dk, ↓lk, Int.reduceBEq, Int.reduceBNe, Bool.true_bne, Bool.false_bne, Bool.not_true, Bool.not_false] <;> with_reducible rfl))
          | ((first | apply awR hΓ | apply awG | apply awH mixedOK hΓ rfl (by kernel_rfl) | apply ovE rfl); (simp (disch := omega) only [go_sem, ↓reduceIte, dk, ↓lk, Int.reduceBEq, Int.reduceBNe, Bool.true_bne, Bool.false_bne, Bool.not_true, Bool.not_false] <;> with_reducible rfl); exact trivial)
          | rfl)
        try rfl
  · rw [k2] at hb
    repeat (first
      | (apply axJ; (focus ((with_reducible constructor) <;> rfl)))
      | (apply awT mixedOK hΓ (by kernel_rfl); (simp (disch := omega) only [go_sem, ↓reduceIte, dk, ↓lk, Int.reduceBEq, Int.reduceBNe, Bool.true_bne, Bool.false_bne, Bool.not_true, Bool.not_false, Int.reduceToNat, hne, k1, hb0, hb] <;> with_reducible rfl))
      | ((first | apply awR hΓ | apply awG | apply awH mixedOK hΓ rfl (by kernel_rfl) | apply ovE rfl); (simp (disch := omega) only [go_sem, ↓reduceIte, dk, ↓lk, Int.reduceBEq, Int.reduceBNe, Bool.true_bne, Bool.false_bne, Bool.not_true, Bool.not_false, Int.reduceToNat, hne, k1, hb0, hb] <;> with_reducible rfl); exact trivial)
      | rfl)
    try rfl
end Go.Ab
