/-
  One text of the proof (own work): contracts of functions of the program, by the abstract machine.
-/
import Derived.Shelf.Small.Strs
import Derived.Scope
import Derived.Test.YtapnigckcnknoaaDoorX12
import Derived.Test.YtapnigckcnknoaaDoorX15
import Derived.Test.YtapnigckcnknoaaDoorX14
set_option linter.unusedVariables false
set_option linter.unusedSimpArgs false
namespace Go.Ab
open Go Go.RowKit Go.Proofs Go.Shelf
set_option maxRecDepth 10000
set_option maxHeartbeats 8000000
noncomputable def g_xr : List D → Option D := encSpec (fun x : Bs × Bool => [.str x.1, .clo 73 [.ref [.bool x.2]]]) (fun x => x.1.length ≤ 1099511627776) (fun x => i64 (idx (fun b => runQ x.2 b.toNat) x.1))
theorem g_xr_eq {s : Bs} {nm : Bool} (h : s.length ≤ 1099511627776) : g_xr [.str s, .clo 73 [.ref [.bool nm]]] = some (.int .i64 (idx (fun b => runQ nm b.toNat) s)) := encSpec_eq (x := (s, nm)) h fun y hy => by
  obtain ⟨y0, y1⟩ := y
  simp only [List.cons.injEq, and_true, D.str.injEq, D.clo.injEq, D.ref.injEq, D.bool.injEq, true_and] at hy
  obtain ⟨rfl, rfl⟩ := hy
  rfl
theorem f_xr_ok : PureOK Tryd.prog 72 true g_xr := by
  intro ds d hd
  obtain ⟨⟨s, nm⟩, rfl, hx, rfl⟩ := encSpec_some hd
  exact f_xfR_ok nm _ _ (g_xf_eq hx)
def runI (s : Bs) (nm : Bool) : Int := if decide (idx (fun b : UInt8 => runQ nm b.toNat) s < 0) then (s.length : Int) else idx (fun b : UInt8 => runQ nm b.toNat) s
noncomputable def g_runP : List D → Option D := encSpec (fun x : Bs × Bool => [.str x.1, .bool x.2]) (fun x : Bs × Bool => x.1.length ≤ 1099511627776) (fun x : Bs × Bool => i64 (runI x.1 x.2))
theorem g_runP_eq {s : Bs} {nm : Bool} (hd : s.length ≤ 1099511627776) : g_runP [.str s, .bool nm] = some (i64 (runI s nm)) := encSpec_eq (x := (s, nm)) hd fun y hy => by
    obtain ⟨y0, y1⟩ := y; simp only [List.cons.injEq, and_true, true_and, D.str.injEq, D.int.injEq, D.list.injEq, D.bool.injEq, D.agg.injEq, D.clo.injEq, Int.natCast_inj, inj_ie, D.ref.injEq] at hy
    (try obtain ⟨rfl, rfl⟩ := hy)
    (try subst_vars)
    rfl
theorem f_runP_ok : PureOK Tryd.prog 52 true g_runP := by
  have hΓ := Γp f_xr_ok (Γn)
  refine pure_enc (n := 14) (rs := [.tmp 4]) Tryd.func52 (by kernel_rfl) rfl (by kernel_rfl) (by kernel_rfl) ?_
  rintro ⟨s, nm⟩ hd
  (try dsimp only at hd ⊢)
  refine ⟨fun _ => by (repeat (first | exact .int _ _ | exact .bool _ | exact .str _ | (refine .tup _ (fun d hd => ?_); simp only [List.mem_cons, List.not_mem_nil, or_false] at hd; rcases hd with rfl | hd))), fun k hz0 => ?_⟩
  have e1 := g_xr_eq (nm := nm) hd
  unfold runI
  generalize idx (fun b : UInt8 => runQ nm b.toNat) s = n at *
  rw [start_frame (by simp)]; simp only [enumV, go_sem, emptyH]
  generalize hc : decide (n < 0) = c
  cases c
  · repeat (first
    | (apply axJ; (focus ((with_reducible constructor) <;> rfl)))
    | (apply awT mixedOK hΓ (by kernel_rfl); (simp (disch := omega) only [go_sem, ↓reduceIte, dk, ↓lk, e1, hc] <;> with_reducible rfl))
    | ((first | apply awR hΓ | apply awG | apply awH mixedOK hΓ rfl (by kernel_rfl) | apply ovE rfl); (simp (disch := omega) only [go_sem, ↓reduceIte, dk, ↓lk, e1, hc] <;> with_reducible rfl); exact trivial)
    | rfl)
    try rfl
  · repeat (first
    | (apply axJ; (focus ((with_reducible constructor) <;> rfl)))
    | (apply awT mixedOK hΓ (by kernel_rfl); (simp (disch := omega) only [go_sem, ↓reduceIte, dk, ↓lk, e1, hc] <;> with_reducible rfl))
    | ((first | apply awR hΓ | apply awG | apply awH mixedOK hΓ rfl (by kernel_rfl) | apply ovE rfl); (simp (disch := omega) only [go_sem, ↓reduceIte, dk, ↓lk, e1, hc] <;> with_reducible rfl); exact trivial)
    | rfl)
    try rfl
theorem idx_cases {α : Type} (p : α → Bool) (l : List α) : (idx p l = -1 ∧ l.any p = false) ∨ ∃ i : Nat, idx p l = (i : Int) ∧ ∃ h : i < l.length, p l[i] = true ∧ (l.take i).any p = false := by
  unfold idx
  cases h : l.findIdx? p with
  | none =>
    rw [List.findIdx?_eq_none_iff] at h
    exact .inl ⟨rfl, List.any_eq_false.2 fun x hx => by simp [h x hx]⟩
  | some i =>
    obtain ⟨h1, h2, h3⟩ := List.findIdx?_eq_some_iff_getElem.1 h
    refine .inr ⟨i, rfl, h1, h2, ?_⟩
    rw [List.any_eq_false]
    intro x hx
    obtain ⟨j, hj, rfl⟩ := List.mem_take_iff_getElem.1 hx
    have := h3 j (by omega)
    simpa using this
theorem runI_bd (s : Bs) (nm : Bool) : 0 ≤ runI s nm ∧ runI s nm ≤ s.length := by
  unfold runI
  rcases idx_cases (fun b : UInt8 => runQ nm b.toNat) s with ⟨h, _⟩ | ⟨i, h, h2, _⟩
  · rw [h, if_pos (by decide)]; omega
  · rw [h, if_neg (by simp only [decide_eq_true_eq]; omega)]; omega
theorem runI_all (s : Bs) (nm : Bool) : (runI s nm = s.length) ↔ s.any (fun b => runQ nm b.toNat) = false := by
  unfold runI
  rcases idx_cases (fun b : UInt8 => runQ nm b.toNat) s with ⟨h, h1⟩ | ⟨i, h, h2, h3, h4⟩
  · rw [h, if_pos (by decide)]
    exact ⟨fun _ => h1, fun _ => rfl⟩
  · rw [h, if_neg (by simp only [decide_eq_true_eq]; omega)]
    constructor
    · intro h5; omega
    · intro h5
      rw [List.any_eq_false] at h5
      exact absurd h3 (h5 _ (List.getElem_mem h2))
def numE (s : Bs) : Int × Int := if s == [] || (!(decide (runI s false = s.length)) || (decide ((s.length : Int) > 1) && s.headD 0 == 48)) then (0, 4) else numGo 0 s
noncomputable def g_numP : List D → Option D := encSpec (fun s : Bs => [.str s]) (fun s => s.length ≤ 1099511627776) (fun s => .tup [.int .u32 (numE s).1, i64 (numE s).2])
theorem g_numP_eq {s : Bs} (h : s.length ≤ 1099511627776) : g_numP [.str s] = some (.tup [.int .u32 (numE s).1, .int .i64 (numE s).2]) := encSpec_eq (x := s) h fun y hy => by
  simp only [List.cons.injEq, and_true, D.str.injEq] at hy
  rw [hy]
theorem f_numP_ok : PureOK Tryd.prog 54 true g_numP := by
  intro ds d hd
  obtain ⟨s, rfl, hx, rfl⟩ := encSpec_some hd
  refine ⟨fun _ => (.tup _ fun d hd => by simp only [List.mem_cons, List.not_mem_nil, or_false] at hd; rcases hd with rfl | rfl <;> exact .int _ _), fun w B vs hB hz hvs => ⟨⟨Tryd.f54, Tryd.func54, by kernel_rfl, by kernel_rfl⟩, ?_⟩⟩
  have hz1 : vs.size = 1 := hz
  have h0 : 0 < vs.size := by omega
  have hv := hvs 0 (by simp) (vs[0]'h0) (Array.getElem?_eq_getElem h0)
  have e : vs = #[vs[0]'h0] := Array.ext hz1 fun i h1 h2 => by
    have : i = 0 := by simp at h2; omega
    subst this
    rfl
  have e0 : vs[0]'h0 = .string ⟨s.toArray⟩ := DR.str_eq hv
  rw [e, e0]
  refine (num_calls s (decide (runI s false = s.length)) w hx (runI s false) (by rw [← decide_not]; rw [Bool.eq_iff_iff]; simp [bne_iff_ne]) (fun w => ?_) (fun h => ?_) (numE s) rfl).mono ?_
  · refine ((f_runP_ok _ _ (g_runP_eq (s := s) (nm := false) hx)).2 w (fun _ => False) #[.string ⟨s.toArray⟩, .bool false] (fun _ h => h.elim) rfl (fun i hi u hu => ?_)).2.mono ?_
    · match i, hi with
      | 0, _ => cases hu; exact .str _
      | 1, _ => cases hu; exact .bool _
    · rintro e w' ⟨u, rfl, hu, hb⟩
      cases hu
      exact ⟨rfl, hb⟩
  · intro c hc
    have := (runI_all s false).1 (of_decide_eq_true h)
    rw [List.any_eq_false] at this
    have := this c hc
    unfold runQ at this
    simp only [Bool.false_and, Bool.not_false, Bool.and_true, Bool.not_eq_true, Bool.not_eq_false'] at this
    exact this
  · rintro e w' ⟨rfl, hb⟩
    refine ⟨_, rfl, .tup _ _ (fun i => ([.int .u32 (numE s).1, .int .i64 (numE s).2] : List Value).getD i undef) rfl (fun i hi => ?_) (fun i hi => ?_), hb⟩
    · match i, hi with
      | 0, _ => rfl
      | 1, _ => rfl
    · match i, hi with
      | 0, _ => exact .int _ _
      | 1, _ => exact .int _ _
end Go.Ab
namespace Go.Ab
open Go Go.RowKit Go.Proofs Go.Shelf
set_option maxRecDepth 10000
set_option maxHeartbeats 8000000
noncomputable def g_idxByte : List D → Option D := encSpec (fun x : List UInt8 × UInt8 => [.str x.1, u8 x.2.toNat]) (fun x => x.1.length ≤ 1099511627776) (fun x => i64 (Lib.indexByte x.1 x.2))
theorem f_idxByte_ok : PureOK Tryd.prog 74 true g_idxByte := pure_calls Tryd.func74 (by kernel_rfl) (by kernel_rfl) (fun _ => ⟨rfl, rfl⟩) fun x hs w =>
  (Any.strings_IndexByte lay137 ⟨x.1.toArray⟩ x.2.toNat w).mono fun e w' h => ⟨by rw [h.1]; simp [D.val], h.2 ▸ Below.refl _ _⟩
theorem g_idxByte_eq {s : List UInt8} {b : UInt8} (h : s.length ≤ 1099511627776) : g_idxByte [.str s, .int .u8 b.toNat] = some (.int .i64 (Lib.indexByte s b)) := encSpec_eq (x := (s, b)) h fun y hy => by
  obtain ⟨y0, y1⟩ := y
  simp only [List.cons.injEq, and_true, D.str.injEq, D.int.injEq, true_and, Int.natCast_inj, UInt8.toNat_inj] at hy
  obtain ⟨rfl, rfl⟩ := hy
  rfl
def symQ (x : Bs) : Bool := x == [124, 124] || (x == [38, 38] || (x == [61, 61] || (x == [33, 61] || (x == [60, 61] || (x == [62, 61] || (x == [60, 60] || x == [62, 62]))))))
def ones : Bs := [124, 94, 38, 60, 62, 43, 45, 42, 47, 37, 126, 33, 40, 41, 44, 61]
def symT : Bs → Bs
  | [] => []
  | c :: _ => if decide (Lib.indexByte ones c ≥ 0) then [c] else []
def symB (s : Bs) : Bs := if decide ((s.length : Int) > 1) && symQ (s.take 2) then s.take 2 else symT s
noncomputable def g_symP : List D → Option D := encSpec (fun x : Bs => [.str x]) (fun x : Bs => x.length ≤ 1099511627776) (fun x : Bs => .str (symB x))
theorem g_symP_eq {s : Bs} (hd : s.length ≤ 1099511627776) : g_symP [.str s] = some (.str (symB s)) := encSpec_eq (x := s) hd fun y hy => by
    simp only [List.cons.injEq, and_true, true_and, D.str.injEq, D.int.injEq, D.list.injEq, D.bool.injEq, D.agg.injEq, D.clo.injEq, Int.natCast_inj, inj_ie, UInt8.toNat_inj] at hy
    rw [hy]
theorem f_symP_ok : PureOK Tryd.prog 55 true g_symP := by
  have hΓ := Γp f_idxByte_ok (Γn)
  refine pure_enc (n := 29) (rs := [.tmp 2]) Tryd.func55 (by kernel_rfl) rfl (by kernel_rfl) (by kernel_rfl) ?_
  rintro s hd
  (try dsimp only at hd ⊢)
  refine ⟨fun _ => by (repeat (first | exact .int _ _ | exact .bool _ | exact .str _ | (refine .tup _ (fun d hd => ?_); simp only [List.mem_cons, List.not_mem_nil, or_false] at hd; rcases hd with rfl | hd))), fun k hz0 => ?_⟩
  unfold symB
  rw [start_frame (by simp)]; simp only [enumV, go_sem, emptyH]
  rcases s with _ | ⟨c, r⟩
  · repeat (first
    | (apply axJ; (focus ((with_reducible constructor) <;> rfl)))
    | (apply awT mixedOK hΓ (by kernel_rfl); (simp (disch := omega) only [go_sem, ↓reduceIte, dk, ↓lk, Int.reduceBEq, Int.reduceBNe, Bool.true_bne, Bool.false_bne, Bool.not_true, Bool.not_false, show ((0 : Nat) : Int) = 0 from rfl, List.length_nil, Bool.false_and] <;> with_reducible rfl))
    | ((first | apply awR hΓ | apply awG | apply awH mixedOK hΓ rfl (by kernel_rfl) | apply ovE rfl); (simp (disch := omega) only [go_sem, ↓reduceIte, dk, ↓lk, Int.reduceBEq, Int.reduceBNe, Bool.true_bne, Bool.false_bne, Bool.not_true, Bool.not_false, show ((0 : Nat) : Int) = 0 from rfl, List.length_nil, Bool.false_and] <;> with_reducible rfl); exact trivial)
    | rfl)
    try rfl
  have hsT : symT (c :: r) = if decide (Lib.indexByte ones c ≥ 0) then [c] else [] := rfl
  have e1 := g_idxByte_eq (s := ones) (b := c) (by decide)
  unfold ones at e1 hsT
  rw [hsT]
  have hne : ((c :: r) != []) = true := rfl
  have hne2 : ((c :: r) == []) = false := rfl
  have hb0 : (c :: r)[0]? = some c := rfl
  have htk : (c :: r).take 1 = [c] := rfl
  have hlen : 1 ≤ (c :: r).length := by simp
  generalize c :: r = s at *
  have hb1 : ∀ h : 0 < s.length, s[0]'h = c := fun h => by rw [List.getElem?_eq_getElem h] at hb0; simpa using hb0
  generalize Lib.indexByte [124, 94, 38, 60, 62, 43, 45, 42, 47, 37, 126, 33, 40, 41, 44, 61] c = n at *
  generalize hc0 : decide (n ≥ 0) = c0
  by_cases hl : 1 < s.length
  · have hl1 : decide ((s.length : Int) > 1) = true := decide_eq_true (by omega)
    rw [hl1, Bool.true_and]
    unfold symQ
    generalize hx : s.take 2 = x
    generalize h1 : (x == [124, 124]) = k1
    generalize h2 : (x == [38, 38]) = k2
    generalize h3 : (x == [61, 61]) = k3
    generalize h4 : (x == [33, 61]) = k4
    generalize h5 : (x == [60, 61]) = k5
    generalize h6 : (x == [62, 61]) = k6
    generalize h7 : (x == [60, 60]) = k7
    generalize h8 : (x == [62, 62]) = k8
    cases k1
    rotate_left
    · ((repeat (first | (apply axJ; (focus ((with_reducible constructor) <;> rfl))) | (apply awT mixedOK hΓ (by kernel_rfl); (simp (disch := omega) only [go_sem, ↓reduceIte, dk, ↓lk, Int.reduceToNat, Nat.sub_zero, List.drop_zero, hl1, hx, h1, h2, h3, h4, h5, h6, h7, h8] <;> with_reducible rfl)) | ((first | apply awR hΓ | apply awG | apply awH mixedOK hΓ rfl (by kernel_rfl) | apply ovE rfl); (simp (disch := omega) only [go_sem, ↓reduceIte, dk, ↓lk, Int.reduceToNat, Nat.sub_zero, List.drop_zero, hl1, hx, h1, h2, h3, h4, h5, h6, h7, h8] <;> with_reducible rfl); exact trivial) | rfl)); (first | done | rfl))
    cases k2
    rotate_left
    · ((repeat (first | (apply axJ; (focus ((with_reducible constructor) <;> rfl))) | (apply awT mixedOK hΓ (by kernel_rfl); (simp (disch := omega) only [go_sem, ↓reduceIte, dk, ↓lk, Int.reduceToNat, Nat.sub_zero, List.drop_zero, hl1, hx, h1, h2, h3, h4, h5, h6, h7, h8] <;> with_reducible rfl)) | ((first | apply awR hΓ | apply awG | apply awH mixedOK hΓ rfl (by kernel_rfl) | apply ovE rfl); (simp (disch := omega) only [go_sem, ↓reduceIte, dk, ↓lk, Int.reduceToNat, Nat.sub_zero, List.drop_zero, hl1, hx, h1, h2, h3, h4, h5, h6, h7, h8] <;> with_reducible rfl); exact trivial) | rfl)); (first | done | rfl))
    cases k3
    rotate_left
    · ((repeat (first | (apply axJ; (focus ((with_reducible constructor) <;> rfl))) | (apply awT mixedOK hΓ (by kernel_rfl); (simp (disch := omega) only [go_sem, ↓reduceIte, dk, ↓lk, Int.reduceToNat, Nat.sub_zero, List.drop_zero, hl1, hx, h1, h2, h3, h4, h5, h6, h7, h8] <;> with_reducible rfl)) | ((first | apply awR hΓ | apply awG | apply awH mixedOK hΓ rfl (by kernel_rfl) | apply ovE rfl); (simp (disch := omega) only [go_sem, ↓reduceIte, dk, ↓lk, Int.reduceToNat, Nat.sub_zero, List.drop_zero, hl1, hx, h1, h2, h3, h4, h5, h6, h7, h8] <;> with_reducible rfl); exact trivial) | rfl)); (first | done | rfl))
    cases k4
    rotate_left
    · ((repeat (first | (apply axJ; (focus ((with_reducible constructor) <;> rfl))) | (apply awT mixedOK hΓ (by kernel_rfl); (simp (disch := omega) only [go_sem, ↓reduceIte, dk, ↓lk, Int.reduceToNat, Nat.sub_zero, List.drop_zero, hl1, hx, h1, h2, h3, h4, h5, h6, h7, h8] <;> with_reducible rfl)) | ((first | apply awR hΓ | apply awG | apply awH mixedOK hΓ rfl (by kernel_rfl) | apply ovE rfl); (simp (disch := omega) only [go_sem, ↓reduceIte, dk, ↓lk, Int.reduceToNat, Nat.sub_zero, List.drop_zero, hl1, hx, h1, h2, h3, h4, h5, h6, h7, h8] <;> with_reducible rfl); exact trivial) | rfl)); (first | done | rfl))
    cases k5
    rotate_left
    · ((repeat (first | (apply axJ; (focus ((with_reducible constructor) <;> rfl))) | (apply awT mixedOK hΓ (by kernel_rfl); (simp (disch := omega) only [go_sem, ↓reduceIte, dk, ↓lk, Int.reduceToNat, Nat.sub_zero, List.drop_zero, hl1, hx, h1, h2, h3, h4, h5, h6, h7, h8] <;> with_reducible rfl)) | ((first | apply awR hΓ | apply awG | apply awH mixedOK hΓ rfl (by kernel_rfl) | apply ovE rfl); (simp (disch := omega) only [go_sem, ↓reduceIte, dk, ↓lk, Int.reduceToNat, Nat.sub_zero, List.drop_zero, hl1, hx, h1, h2, h3, h4, h5, h6, h7, h8] <;> with_reducible rfl); exact trivial) | rfl)); (first | done | rfl))
    cases k6
    rotate_left
    · ((repeat (first | (apply axJ; (focus ((with_reducible constructor) <;> rfl))) | (apply awT mixedOK hΓ (by kernel_rfl); (simp (disch := omega) only [go_sem, ↓reduceIte, dk, ↓lk, Int.reduceToNat, Nat.sub_zero, List.drop_zero, hl1, hx, h1, h2, h3, h4, h5, h6, h7, h8] <;> with_reducible rfl)) | ((first | apply awR hΓ | apply awG | apply awH mixedOK hΓ rfl (by kernel_rfl) | apply ovE rfl); (simp (disch := omega) only [go_sem, ↓reduceIte, dk, ↓lk, Int.reduceToNat, Nat.sub_zero, List.drop_zero, hl1, hx, h1, h2, h3, h4, h5, h6, h7, h8] <;> with_reducible rfl); exact trivial) | rfl)); (first | done | rfl))
    cases k7
    rotate_left
    · ((repeat (first | (apply axJ; (focus ((with_reducible constructor) <;> rfl))) | (apply awT mixedOK hΓ (by kernel_rfl); (simp (disch := omega) only [go_sem, ↓reduceIte, dk, ↓lk, Int.reduceToNat, Nat.sub_zero, List.drop_zero, hl1, hx, h1, h2, h3, h4, h5, h6, h7, h8] <;> with_reducible rfl)) | ((first | apply awR hΓ | apply awG | apply awH mixedOK hΓ rfl (by kernel_rfl) | apply ovE rfl); (simp (disch := omega) only [go_sem, ↓reduceIte, dk, ↓lk, Int.reduceToNat, Nat.sub_zero, List.drop_zero, hl1, hx, h1, h2, h3, h4, h5, h6, h7, h8] <;> with_reducible rfl); exact trivial) | rfl)); (first | done | rfl))
    cases k8
    rotate_left
    · ((repeat (first | (apply axJ; (focus ((with_reducible constructor) <;> rfl))) | (apply awT mixedOK hΓ (by kernel_rfl); (simp (disch := omega) only [go_sem, ↓reduceIte, dk, ↓lk, Int.reduceToNat, Nat.sub_zero, List.drop_zero, hl1, hx, h1, h2, h3, h4, h5, h6, h7, h8] <;> with_reducible rfl)) | ((first | apply awR hΓ | apply awG | apply awH mixedOK hΓ rfl (by kernel_rfl) | apply ovE rfl); (simp (disch := omega) only [go_sem, ↓reduceIte, dk, ↓lk, Int.reduceToNat, Nat.sub_zero, List.drop_zero, hl1, hx, h1, h2, h3, h4, h5, h6, h7, h8] <;> with_reducible rfl); exact trivial) | rfl)); (first | done | rfl))
    cases c0
    · repeat (first
      | (apply axJ; (focus ((with_reducible constructor) <;> rfl)))
      | (apply awT mixedOK hΓ (by kernel_rfl); (simp (disch := omega) only [go_sem, ↓reduceIte, dk, ↓lk, Int.reduceToNat, Nat.sub_zero, List.drop_zero, hl1, hx, h1, h2, h3, h4, h5, h6, h7, h8, hne, hne2, hb1, e1, hc0, htk] <;> with_reducible rfl))
      | ((first | apply awR hΓ | apply awG | apply awH mixedOK hΓ rfl (by kernel_rfl) | apply ovE rfl); (simp (disch := omega) only [go_sem, ↓reduceIte, dk, ↓lk, Int.reduceToNat, Nat.sub_zero, List.drop_zero, hl1, hx, h1, h2, h3, h4, h5, h6, h7, h8, hne, hne2, hb1, e1, hc0, htk] <;> with_reducible rfl); exact trivial)
      | rfl)
      try rfl
    · repeat (first
      | (apply axJ; (focus ((with_reducible constructor) <;> rfl)))
      | (apply awT mixedOK hΓ (by kernel_rfl); (simp (disch := omega) only [go_sem, ↓reduceIte, dk, ↓lk, Int.reduceToNat, Nat.sub_zero, List.drop_zero, hl1, hx, h1, h2, h3, h4, h5, h6, h7, h8, hne, hne2, hb1, e1, hc0, htk] <;> with_reducible rfl))
      | ((first | apply awR hΓ | apply awG | apply awH mixedOK hΓ rfl (by kernel_rfl) | apply ovE rfl); (simp (disch := omega) only [go_sem, ↓reduceIte, dk, ↓lk, Int.reduceToNat, Nat.sub_zero, List.drop_zero, hl1, hx, h1, h2, h3, h4, h5, h6, h7, h8, hne, hne2, hb1, e1, hc0, htk] <;> with_reducible rfl); exact trivial)
      | rfl)
      try rfl
  · have hl1 : decide ((s.length : Int) > 1) = false := decide_eq_false (by omega)
    rw [hl1, Bool.false_and]
    cases c0
    · repeat (first
      | (apply axJ; (focus ((with_reducible constructor) <;> rfl)))
      | (apply awT mixedOK hΓ (by kernel_rfl); (simp (disch := omega) only [go_sem, ↓reduceIte, dk, ↓lk, Int.reduceToNat, Nat.sub_zero, List.drop_zero, hl1, hne, hne2, hb1, e1, hc0, htk] <;> with_reducible rfl))
      | ((first | apply awR hΓ | apply awG | apply awH mixedOK hΓ rfl (by kernel_rfl) | apply ovE rfl); (simp (disch := omega) only [go_sem, ↓reduceIte, dk, ↓lk, Int.reduceToNat, Nat.sub_zero, List.drop_zero, hl1, hne, hne2, hb1, e1, hc0, htk] <;> with_reducible rfl); exact trivial)
      | rfl)
      try rfl
    · repeat (first
      | (apply axJ; (focus ((with_reducible constructor) <;> rfl)))
      | (apply awT mixedOK hΓ (by kernel_rfl); (simp (disch := omega) only [go_sem, ↓reduceIte, dk, ↓lk, Int.reduceToNat, Nat.sub_zero, List.drop_zero, hl1, hne, hne2, hb1, e1, hc0, htk] <;> with_reducible rfl))
      | ((first | apply awR hΓ | apply awG | apply awH mixedOK hΓ rfl (by kernel_rfl) | apply ovE rfl); (simp (disch := omega) only [go_sem, ↓reduceIte, dk, ↓lk, Int.reduceToNat, Nat.sub_zero, List.drop_zero, hl1, hne, hne2, hb1, e1, hc0, htk] <;> with_reducible rfl); exact trivial)
      | rfl)
      try rfl
end Go.Ab
namespace Go.Ab
open Go Go.RowKit Go.Proofs Go.Shelf
set_option maxRecDepth 10000
set_option maxHeartbeats 8000000
theorem wrap32_byte : ∀ n : Nat, n < 256 → IntKind.i32.wrap (n : Int) = n := by decide
def runN (s : Bs) (nm : Bool) : Nat := (runI s nm).toNat
theorem runN_eq (s : Bs) (nm : Bool) : runI s nm = (runN s nm : Int) ∧ runN s nm ≤ s.length := by
  have := runI_bd s nm
  unfold runN
  omega
def nextB (s : Bs) : (Int × Bs) × Int :=
  if lettI (s.headD 0).toNat then (if decide ((runN s true : Int) > 32) then ((0, []), 2) else ((1, s.take (runN s true)), 0))
  else if digI (s.headD 0).toNat then
    (if (numE (s.take (runN s false))).2 == 0 then (if decide ((runN s false : Int) < s.length) && lettI (s.getD (runN s false) 0).toNat then ((0, []), 4) else ((2, s.take (runN s false)), 0)) else ((0, []), (numE (s.take (runN s false))).2))
  else if symB s == [] then ((0, []), 4) else ((3, symB s), 0)
def eNx (p : (Int × Bs) × Int) : D := .tup [.agg [i64 p.1.1, .str p.1.2], i64 p.2]
noncomputable def g_nextP : List D → Option D := encSpec (fun x : Bs => [.str x]) (fun x : Bs => x.length ≤ 1099511627776 ∧ x ≠ []) (fun x : Bs => eNx (nextB x))
theorem g_nextP_eq {s : Bs} (hd : s.length ≤ 1099511627776 ∧ s ≠ []) : g_nextP [.str s] = some (eNx (nextB s)) := encSpec_eq (x := s) hd fun y hy => by
    simp only [List.cons.injEq, and_true, true_and, D.str.injEq, D.int.injEq, D.list.injEq, D.bool.injEq, D.agg.injEq, D.clo.injEq, Int.natCast_inj, inj_ie, UInt8.toNat_inj] at hy
    rw [hy]
theorem f_nextP_ok : PureOK Tryd.prog 33 false g_nextP := by
  have hΓ := Γp f_letP_ok (Γp f_runP_ok (Γp f_digP_ok (Γp f_numP_ok (Γp f_symP_ok (Γn)))))
  refine pure_enc (n := 64) (rs := [.cell 2 46, .tmp 3]) Tryd.func33 (by kernel_rfl) rfl (by kernel_rfl) (by kernel_rfl) ?_
  rintro s hd
  (try dsimp only at hd ⊢)
  refine ⟨fun h => (by cases h), fun k hz0 => ?_⟩
  obtain ⟨hs, hne⟩ := hd
  obtain ⟨r1, l1⟩ := runN_eq s true
  obtain ⟨r2, l2⟩ := runN_eq s false
  have e1 := g_runP_eq (nm := true) hs
  have e2 := g_runP_eq (nm := false) hs
  have e3 := g_numP_eq (s := s.take (runN s false)) (by rw [List.length_take]; omega)
  have e4 := g_symP_eq hs
  have e5 := g_letP_eq (r := ((s.headD 0).toNat : Int)) trivial
  have e6 := g_digP_eq (r := ((s.headD 0).toNat : Int)) trivial
  have e7 := g_letP_eq (r := ((s.getD (runN s false) 0).toNat : Int)) trivial
  rw [r1] at e1
  rw [r2] at e2
  unfold nextB
  have hb0 : ∀ h : 0 < s.length, s[0]'h = s.headD 0 := fun h => by cases s with | nil => exact absurd rfl hne | cons c r => rfl
  have hlen : 0 < s.length := List.length_pos_iff.2 hne
  have hbn : ∀ h : runN s false < s.length, s[runN s false]'h = s.getD (runN s false) 0 := fun h => by rw [List.getD_eq_getElem?_getD, List.getElem?_eq_getElem h]; rfl
  clear r1 r2
  generalize runN s true = n1 at *
  generalize runN s false = n2 at *
  generalize s.headD 0 = c at *
  generalize s.getD n2 0 = c' at *
  have hcb : IntKind.i32.wrap ((c.toNat : Nat) : Int) = (c.toNat : Nat) := wrap32_byte _ c.toNat_lt
  have hcb' : IntKind.i32.wrap ((c'.toNat : Nat) : Int) = (c'.toNat : Nat) := wrap32_byte _ c'.toNat_lt
  generalize symB s = y at *
  generalize hv : s.take n2 = v at *
  generalize hw : s.take n1 = w at *
  generalize numE v = q at *
  obtain ⟨q1, q2⟩ := q
  dsimp only at e3 ⊢
  have hk5 : (decide ((n2 : Int) < s.length) && lettI (c'.toNat : Int)) = if n2 < s.length then lettI (c'.toNat : Int) else false := by
    split
    · rw [decide_eq_true (by omega), Bool.true_and]
    · rw [decide_eq_false (by omega), Bool.false_and]
  rw [hk5]
  rw [start_frame (by simp)]; simp only [enumV, go_sem, emptyH]
  generalize lettI (c.toNat : Int) = k1 at *
  cases k1
  rotate_left
  · generalize hc1 : decide ((n1 : Int) > 32) = k2
    cases k2
    · repeat (first
      | (apply axJ; (focus ((with_reducible constructor) <;> rfl)))
      | (apply awT mixedOK hΓ (by kernel_rfl); (simp (disch := omega) only [go_sem, ↓reduceIte, dk, ↓lk, ↓ty_build46, Int.reduceToNat, hcb, hcb', hb0, e1, e5, hc1, hw, Nat.sub_zero, List.drop_zero] <;> with_reducible rfl))
      | ((first | apply awR hΓ | apply awG | apply awH mixedOK hΓ rfl (by kernel_rfl) | apply ovE rfl); (simp (disch := omega) only [go_sem, ↓reduceIte, dk, ↓lk, ↓ty_build46, Int.reduceToNat, hcb, hcb', hb0, e1, e5, hc1, hw, Nat.sub_zero, List.drop_zero] <;> with_reducible rfl); exact trivial)
      | rfl)
      try rfl
    · repeat (first
      | (apply axJ; (focus ((with_reducible constructor) <;> rfl)))
      | (apply awT mixedOK hΓ (by kernel_rfl); (simp (disch := omega) only [go_sem, ↓reduceIte, dk, ↓lk, ↓ty_build46, Int.reduceToNat, hcb, hcb', hb0, e1, e5, hc1, hw, Nat.sub_zero, List.drop_zero] <;> with_reducible rfl))
      | ((first | apply awR hΓ | apply awG | apply awH mixedOK hΓ rfl (by kernel_rfl) | apply ovE rfl); (simp (disch := omega) only [go_sem, ↓reduceIte, dk, ↓lk, ↓ty_build46, Int.reduceToNat, hcb, hcb', hb0, e1, e5, hc1, hw, Nat.sub_zero, List.drop_zero] <;> with_reducible rfl); exact trivial)
      | rfl)
      try rfl
  generalize digI (c.toNat : Int) = k2 at *
  cases k2
  · generalize hy : (y == []) = k3
    have hy2 : (y != []) = !k3 := by rw [← hy]; rfl
    cases k3
    · repeat (first
      | (apply axJ; (focus ((with_reducible constructor) <;> rfl)))
      | (apply awT mixedOK hΓ (by kernel_rfl); (simp (disch := omega) only [go_sem, ↓reduceIte, dk, ↓lk, Int.reduceBEq, Int.reduceBNe, Bool.true_bne, Bool.false_bne, Bool.not_true, Bool.not_false, ↓ty_build46, Int.reduceToNat, hcb, hcb', hb0, e4, e5, e6, hy, hy2] <;> with_reducible rfl))
      | ((first | apply awR hΓ | apply awG | apply awH mixedOK hΓ rfl (by kernel_rfl) | apply ovE rfl); (simp (disch := omega) only [go_sem, ↓reduceIte, dk, ↓lk, Int.reduceBEq, Int.reduceBNe, Bool.true_bne, Bool.false_bne, Bool.not_true, Bool.not_false, ↓ty_build46, Int.reduceToNat, hcb, hcb', hb0, e4, e5, e6, hy, hy2] <;> with_reducible rfl); exact trivial)
      | rfl)
      try rfl
    · repeat (first
      | (apply axJ; (focus ((with_reducible constructor) <;> rfl)))
      | (apply awT mixedOK hΓ (by kernel_rfl); (simp (disch := omega) only [go_sem, ↓reduceIte, dk, ↓lk, Int.reduceBEq, Int.reduceBNe, Bool.true_bne, Bool.false_bne, Bool.not_true, Bool.not_false, ↓ty_build46, Int.reduceToNat, hcb, hcb', hb0, e4, e5, e6, hy, hy2] <;> with_reducible rfl))
      | ((first | apply awR hΓ | apply awG | apply awH mixedOK hΓ rfl (by kernel_rfl) | apply ovE rfl); (simp (disch := omega) only [go_sem, ↓reduceIte, dk, ↓lk, Int.reduceBEq, Int.reduceBNe, Bool.true_bne, Bool.false_bne, Bool.not_true, Bool.not_false, ↓ty_build46, Int.reduceToNat, hcb, hcb', hb0, e4, e5, e6, hy, hy2] <;> with_reducible rfl); exact trivial)
      | rfl)
      try rfl
  generalize hq : (q2 == 0) = k3
  have hq2 : (q2 != 0) = !k3 := by rw [← hq]; rfl
  cases k3
  · repeat (first
    | (apply axJ; (focus ((with_reducible constructor) <;> rfl)))
    | (apply awT mixedOK hΓ (by kernel_rfl); (simp (disch := omega) only [go_sem, ↓reduceIte, dk, ↓lk, Int.reduceBEq, Int.reduceBNe, Bool.true_bne, Bool.false_bne, Bool.not_true, Bool.not_false, ↓ty_build46, Int.reduceToNat, hcb, hcb', hb0, hbn, e2, e3, e5, e6, e7, hv, hq, hq2, Nat.sub_zero, List.drop_zero] <;> with_reducible rfl))
    | ((first | apply awR hΓ | apply awG | apply awH mixedOK hΓ rfl (by kernel_rfl) | apply ovE rfl); (simp (disch := omega) only [go_sem, ↓reduceIte, dk, ↓lk, Int.reduceBEq, Int.reduceBNe, Bool.true_bne, Bool.false_bne, Bool.not_true, Bool.not_false, ↓ty_build46, Int.reduceToNat, hcb, hcb', hb0, hbn, e2, e3, e5, e6, e7, hv, hq, hq2, Nat.sub_zero, List.drop_zero] <;> with_reducible rfl); exact trivial)
    | rfl)
    try rfl
  by_cases hl : n2 < s.length
  · have hl1 : decide ((n2 : Int) < s.length) = true := decide_eq_true (by omega)
    have hbn2 := hbn hl
    rw [if_pos hl]
    generalize lettI (c'.toNat : Int) = k4 at *
    cases k4
    · repeat (first
      | (apply axJ; (focus ((with_reducible constructor) <;> rfl)))
      | (apply awT mixedOK hΓ (by kernel_rfl); (simp (disch := omega) only [go_sem, ↓reduceIte, dk, ↓lk, Int.reduceBEq, Int.reduceBNe, Bool.true_bne, Bool.false_bne, Bool.not_true, Bool.not_false, ↓ty_build46, Int.reduceToNat, hcb, hcb', hb0, hbn, e2, e3, e5, e6, e7, hv, hq, hq2, hl1, Nat.sub_zero, List.drop_zero] <;> with_reducible rfl))
      | ((first | apply awR hΓ | apply awG | apply awH mixedOK hΓ rfl (by kernel_rfl) | apply ovE rfl); (simp (disch := omega) only [go_sem, ↓reduceIte, dk, ↓lk, Int.reduceBEq, Int.reduceBNe, Bool.true_bne, Bool.false_bne, Bool.not_true, Bool.not_false, ↓ty_build46, Int.reduceToNat, hcb, hcb', hb0, hbn, e2, e3, e5, e6, e7, hv, hq, hq2, hl1, Nat.sub_zero, List.drop_zero] <;> with_reducible rfl); exact trivial)
      | rfl)
      try rfl
    · repeat (first
      | (apply axJ; (focus ((with_reducible constructor) <;> rfl)))
      | (apply awT mixedOK hΓ (by kernel_rfl); (simp (disch := omega) only [go_sem, ↓reduceIte, dk, ↓lk, Int.reduceBEq, Int.reduceBNe, Bool.true_bne, Bool.false_bne, Bool.not_true, Bool.not_false, ↓ty_build46, Int.reduceToNat, hcb, hcb', hb0, hbn, e2, e3, e5, e6, e7, hv, hq, hq2, hl1, Nat.sub_zero, List.drop_zero] <;> with_reducible rfl))
      | ((first | apply awR hΓ | apply awG | apply awH mixedOK hΓ rfl (by kernel_rfl) | apply ovE rfl); (simp (disch := omega) only [go_sem, ↓reduceIte, dk, ↓lk, Int.reduceBEq, Int.reduceBNe, Bool.true_bne, Bool.false_bne, Bool.not_true, Bool.not_false, ↓ty_build46, Int.reduceToNat, hcb, hcb', hb0, hbn, e2, e3, e5, e6, e7, hv, hq, hq2, hl1, Nat.sub_zero, List.drop_zero] <;> with_reducible rfl); exact trivial)
      | rfl)
      try rfl
  · have hl1 : decide ((n2 : Int) < s.length) = false := decide_eq_false (by omega)
    rw [if_neg hl]
    repeat (first
      | (apply axJ; (focus ((with_reducible constructor) <;> rfl)))
      | (apply awT mixedOK hΓ (by kernel_rfl); (simp (disch := omega) only [go_sem, ↓reduceIte, dk, ↓lk, Int.reduceBEq, Int.reduceBNe, Bool.true_bne, Bool.false_bne, Bool.not_true, Bool.not_false, ↓ty_build46, Int.reduceToNat, hcb, hcb', hb0, hbn, e2, e3, e5, e6, e7, hv, hq, hq2, hl1, Nat.sub_zero, List.drop_zero] <;> with_reducible rfl))
      | ((first | apply awR hΓ | apply awG | apply awH mixedOK hΓ rfl (by kernel_rfl) | apply ovE rfl); (simp (disch := omega) only [go_sem, ↓reduceIte, dk, ↓lk, Int.reduceBEq, Int.reduceBNe, Bool.true_bne, Bool.false_bne, Bool.not_true, Bool.not_false, ↓ty_build46, Int.reduceToNat, hcb, hcb', hb0, hbn, e2, e3, e5, e6, e7, hv, hq, hq2, hl1, Nat.sub_zero, List.drop_zero] <;> with_reducible rfl); exact trivial)
      | rfl)
    try rfl
theorem und_tok : Program.underlying Tryd.prog 46 = some (.struct #[⟨"Kind", 3, 0, false, "", "", 0⟩, ⟨"Text", 9, 1, false, "", "", 8⟩]) := by kernel_rfl
theorem eq_tok (a b : Int) (s t : Bs) : eqAgg Tryd.prog 46 [.int .i64 a, .str s] [.int .i64 b, .str t] = some ((a == b) && (s == t)) := by
  have hg : (Tryd.prog.stoodInHeld 46 || Tryd.prog.eqGuardType Tryd.prog.depth 46) = false := by kernel_rfl
  unfold eqAgg
  rw [und_tok]
  simp only [hg, Bool.false_eq_true, if_false]
  simp [eqFlds, keyKind, keyEq, ty_und3, ty_agg3, ty_und9, ty_agg9]
def validB (k : Int) (s : Bs) : Bool := if s == [] then false else (nextB s).2 == 0 && ((nextB s).1.1 == k && (nextB s).1.2 == s)
noncomputable def g_validP : List D → Option D := encSpec (fun x : Int × Bs => [.agg [i64 x.1, .str x.2]]) (fun x : Int × Bs => x.2.length ≤ 1099511627776) (fun x : Int × Bs => .bool (validB x.1 x.2))
theorem g_validP_eq {kd : Int} {s : Bs} (hd : s.length ≤ 1099511627776) : g_validP [.agg [.int .i64 kd, .str s]] = some (.bool (validB kd s)) := encSpec_eq (x := (kd, s)) hd fun y hy => by
    obtain ⟨y0, y1⟩ := y; simp only [List.cons.injEq, and_true, true_and, D.str.injEq, D.int.injEq, D.list.injEq, D.bool.injEq, D.agg.injEq, D.clo.injEq, Int.natCast_inj, inj_ie, UInt8.toNat_inj] at hy
    (try obtain ⟨rfl, rfl⟩ := hy)
    (try subst_vars)
    rfl
theorem f_validP_ok : PureOK Tryd.prog 15 true g_validP := by
  have hΓ := Γp f_nextP_ok (Γn)
  refine pure_enc (n := 21) (rs := [.tmp 2]) Tryd.func15 (by kernel_rfl) rfl (by kernel_rfl) (by kernel_rfl) ?_
  rintro ⟨kd, s⟩ hd
  (try dsimp only at hd ⊢)
  refine ⟨fun _ => by (repeat (first | exact .int _ _ | exact .bool _ | exact .str _ | (refine .tup _ (fun d hd => ?_); simp only [List.mem_cons, List.not_mem_nil, or_false] at hd; rcases hd with rfl | hd))), fun k hz0 => ?_⟩
  unfold validB
  rw [start_frame (by simp)]; simp only [enumV, go_sem, emptyH]
  rcases hs : s with _ | ⟨c, r⟩
  · repeat (first
    | (apply axJ; (focus ((with_reducible constructor) <;> rfl)))
    | (apply awT mixedOK hΓ (by kernel_rfl); (simp (disch := omega) only [go_sem, ↓reduceIte, dk, ↓lk, Int.reduceBEq, Int.reduceBNe, Bool.true_bne, Bool.false_bne, Bool.not_true, Bool.not_false] <;> with_reducible rfl))
    | ((first | apply awR hΓ | apply awG | apply awH mixedOK hΓ rfl (by kernel_rfl) | apply ovE rfl); (simp (disch := omega) only [go_sem, ↓reduceIte, dk, ↓lk, Int.reduceBEq, Int.reduceBNe, Bool.true_bne, Bool.false_bne, Bool.not_true, Bool.not_false] <;> with_reducible rfl); exact trivial)
    | rfl)
    try rfl
  rw [← hs]
  have hne : s ≠ [] := by rw [hs]; simp
  have hne1 : (s == []) = false := by rw [hs]; rfl
  have e1 := g_nextP_eq (s := s) ⟨hd, hne⟩
  generalize nextB s = p at *
  obtain ⟨⟨q1, q2⟩, q3⟩ := p
  replace e1 : g_nextP [.str s] = some (.tup [.agg [.int .i64 q1, .str q2], .int .i64 q3]) := e1
  dsimp only
  rw [hne1]
  generalize hk1 : (q3 == 0) = k1
  generalize hk2 : (q1 == kd) = k2
  generalize hk3 : (q2 == s) = k3
  cases k1
  · repeat (first
    | (apply axJ; (focus ((with_reducible constructor) <;> rfl)))
    | (apply awT mixedOK hΓ (by kernel_rfl); (simp (disch := omega) only [go_sem, ↓reduceIte, dk, ↓lk, Int.reduceBEq, Int.reduceBNe, Bool.true_bne, Bool.false_bne, Bool.not_true, Bool.not_false, eq_tok, hne1, e1, hk1, hk2, hk3] <;> with_reducible rfl))
    | ((first | apply awR hΓ | apply awG | apply awH mixedOK hΓ rfl (by kernel_rfl) | apply ovE rfl); (simp (disch := omega) only [go_sem, ↓reduceIte, dk, ↓lk, Int.reduceBEq, Int.reduceBNe, Bool.true_bne, Bool.false_bne, Bool.not_true, Bool.not_false, eq_tok, hne1, e1, hk1, hk2, hk3] <;> with_reducible rfl); exact trivial)
    | rfl)
    try rfl
  cases k2
  · repeat (first
    | (apply axJ; (focus ((with_reducible constructor) <;> rfl)))
    | (apply awT mixedOK hΓ (by kernel_rfl); (simp (disch := omega) only [go_sem, ↓reduceIte, dk, ↓lk, Int.reduceBEq, Int.reduceBNe, Bool.true_bne, Bool.false_bne, Bool.not_true, Bool.not_false, eq_tok, hne1, e1, hk1, hk2, hk3] <;> with_reducible rfl))
    | ((first | apply awR hΓ | apply awG | apply awH mixedOK hΓ rfl (by kernel_rfl) | apply ovE rfl); (simp (disch := omega) only [go_sem, ↓reduceIte, dk, ↓lk, Int.reduceBEq, Int.reduceBNe, Bool.true_bne, Bool.false_bne, Bool.not_true, Bool.not_false, eq_tok, hne1, e1, hk1, hk2, hk3] <;> with_reducible rfl); exact trivial)
    | rfl)
    try rfl
  cases k3
  · repeat (first
    | (apply axJ; (focus ((with_reducible constructor) <;> rfl)))
    | (apply awT mixedOK hΓ (by kernel_rfl); (simp (disch := omega) only [go_sem, ↓reduceIte, dk, ↓lk, Int.reduceBEq, Int.reduceBNe, Bool.true_bne, Bool.false_bne, Bool.not_true, Bool.not_false, eq_tok, hne1, e1, hk1, hk2, hk3] <;> with_reducible rfl))
    | ((first | apply awR hΓ | apply awG | apply awH mixedOK hΓ rfl (by kernel_rfl) | apply ovE rfl); (simp (disch := omega) only [go_sem, ↓reduceIte, dk, ↓lk, Int.reduceBEq, Int.reduceBNe, Bool.true_bne, Bool.false_bne, Bool.not_true, Bool.not_false, eq_tok, hne1, e1, hk1, hk2, hk3] <;> with_reducible rfl); exact trivial)
    | rfl)
    try rfl
  · repeat (first
    | (apply axJ; (focus ((with_reducible constructor) <;> rfl)))
    | (apply awT mixedOK hΓ (by kernel_rfl); (simp (disch := omega) only [go_sem, ↓reduceIte, dk, ↓lk, Int.reduceBEq, Int.reduceBNe, Bool.true_bne, Bool.false_bne, Bool.not_true, Bool.not_false, eq_tok, hne1, e1, hk1, hk2, hk3] <;> with_reducible rfl))
    | ((first | apply awR hΓ | apply awG | apply awH mixedOK hΓ rfl (by kernel_rfl) | apply ovE rfl); (simp (disch := omega) only [go_sem, ↓reduceIte, dk, ↓lk, Int.reduceBEq, Int.reduceBNe, Bool.true_bne, Bool.false_bne, Bool.not_true, Bool.not_false, eq_tok, hne1, e1, hk1, hk2, hk3] <;> with_reducible rfl); exact trivial)
    | rfl)
    try rfl
end Go.Ab
namespace Go.Ab
open Go Go.RowKit Go.Proofs Go.Shelf
set_option maxRecDepth 10000
set_option maxHeartbeats 16000000
end Go.Ab
namespace Go.Ab
open Go Go.RowKit
theorem awp_scope {P : Program} {c : Ctx} {Q : Exit → List AV → Heap → Prop} {sl : List AV} {H : Heap} {x : Code} (hq : ∀ l sl H, ¬ Q (.goto l) sl H) (h : awp P c x Q sl H) : awp P c (.scope x) Q sl H := fun θ w a hs =>
  wp_scope_straight (Go.wp_mono (h θ w a hs) fun e a' w' ⟨sl', H', θ', q, r⟩ => by
    cases e with
    | goto l => exact absurd q (hq l sl' H')
    | normal => exact ⟨sl', H', θ', q, r⟩
    | exit id => exact ⟨sl', H', θ', q, r⟩
    | ret => exact ⟨sl', H', θ', q, r⟩
    | panic ch => exact ⟨sl', H', θ', q, r⟩
    | outgrown => exact ⟨sl', H', θ', q, r⟩)
theorem awp_scopeD {P : Program} {c : Ctx} {rs : List ResultVar} {d : D} {sl : List AV} {H : Heap} {x : Code} (h : awp P c x (RetD P rs d) sl H) : awp P c (.scope x) (RetD P rs d) sl H :=
  awp_scope (fun l sl H h => by obtain ⟨he, _⟩ := h; cases he) h
end Go.Ab
namespace Go.Ab
open Go Go.RowKit Go.Proofs Go.Shelf
set_option maxRecDepth 10000
set_option maxHeartbeats 8000000
abbrev Tk := Int × Bs
def eTk (p : Tk) : D := .agg [i64 p.1, .str p.2]
theorem runN_find (s : Bs) (nm : Bool) : runN s nm = match s.findIdx? (fun b => runQ nm b.toNat) with
    | some i => i
    | none => s.length := by
  unfold runN runI idx
  cases h : s.findIdx? (fun b => runQ nm b.toNat) with
  | none => rfl
  | some i =>
    have : decide ((i : Int) < 0) = false := decide_eq_false (by omega)
    simp only [this, Bool.false_eq_true, if_false, Int.toNat_natCast]
theorem runN_cons (c : UInt8) (r : Bs) (nm : Bool) : runN (c :: r) nm = if runQ nm c.toNat then 0 else runN r nm + 1 := by
  rw [runN_find, runN_find, List.findIdx?_cons]
  cases runQ nm c.toNat
  · simp only [Bool.false_eq_true, if_false]
    cases r.findIdx? (fun b => runQ nm b.toNat) <;> rfl
  · rfl
theorem next_pos {s : Bs} (hs : s ≠ []) (h : (nextB s).2 = 0) : 1 ≤ (nextB s).1.2.length ∧ (nextB s).1.2.length ≤ s.length := by
  obtain ⟨c, r, rfl⟩ := List.exists_cons_of_ne_nil hs
  have ht : ∀ nm, runN (c :: r) nm ≤ (c :: r).length := fun nm => (runN_eq _ nm).2
  have hp : ∀ nm, runQ nm c.toNat = false → 1 ≤ runN (c :: r) nm := fun nm h => by rw [runN_cons, h]; simp
  have hn := ht true
  have hf := ht false
  have hs6 : symB (c :: r) ≠ [] → 1 ≤ (symB (c :: r)).length ∧ (symB (c :: r)).length ≤ (c :: r).length := fun h6 => by
    refine ⟨List.length_pos_iff.2 h6, ?_⟩
    unfold symB
    split
    · rw [List.length_take]; omega
    · have hT : ∀ x : Bs, (symT x).length ≤ x.length := fun x => by
        cases x with
        | nil => exact Nat.le_refl _
        | cons a b =>
          rw [symT]
          split <;> simp
      exact hT _
  unfold nextB at h ⊢
  rw [show (c :: r).headD 0 = c from rfl] at h ⊢
  have hq1 : lettI (c.toNat : Int) = true → runQ true c.toNat = false := fun h => by unfold runQ; rw [h]; simp
  have hq2 : digI (c.toNat : Int) = true → runQ false c.toNat = false := fun h => by unfold runQ; rw [h]; simp
  generalize lettI (c.toNat : Int) = k1 at *
  generalize digI (c.toNat : Int) = k2 at *
  cases k1
  · simp only [Bool.false_eq_true, if_false] at h ⊢
    cases k2
    · simp only [Bool.false_eq_true, if_false] at h ⊢
      cases h5 : (symB (c :: r) == [])
      · rw [h5] at h
        simp only [Bool.false_eq_true, if_false] at h ⊢
        exact hs6 (by simpa using h5)
      · rw [h5] at h
        exact absurd (show (4 : Int) = 0 from h) (by decide)
    · have h1 := hp false (hq2 rfl)
      simp only [if_true] at h ⊢
      cases h3 : ((numE ((c :: r).take (runN (c :: r) false))).2 == 0)
      · rw [h3] at h
        simp only [Bool.false_eq_true, if_false] at h
        simp [h] at h3
      · rw [h3] at h
        simp only [if_true] at h ⊢
        cases h4 : (decide ((runN (c :: r) false : Int) < ((c :: r).length : Int)) && lettI ((c :: r).getD (runN (c :: r) false) 0).toNat)
        · simp only [Bool.false_eq_true, if_false]
          rw [List.length_take]
          omega
        · rw [h4] at h
          exact absurd (show (4 : Int) = 0 from h) (by decide)
  · have h1 := hp true (hq1 rfl)
    simp only [if_true] at h ⊢
    cases h2 : decide ((runN (c :: r) true : Int) > 32)
    · simp only [Bool.false_eq_true, if_false]
      rw [List.length_take]
      omega
    · rw [h2] at h
      exact absurd (show (2 : Int) = 0 from h) (by decide)
def toksF : Nat → List Tk → Bs → List Tk × Int
  | 0, acc, _ => (acc, 0)
  | _ + 1, acc, [] => (acc, 0)
  | f + 1, acc, c :: r => if c == 32 then toksF f acc r
    else if acc.length == 256 then ([], 10)
    else if (nextB (c :: r)).2 == 0 then toksF f (acc ++ [(nextB (c :: r)).1]) ((c :: r).drop (nextB (c :: r)).1.2.length)
    else ([], (nextB (c :: r)).2)
def toksB (s : Bs) : List Tk × Int := if decide ((s.length : Int) > 65536) then ([], 10) else toksF s.length [] s
theorem toksF_fuel : ∀ (f g : Nat) (acc : List Tk) (s : Bs), s.length ≤ f → s.length ≤ g → toksF f acc s = toksF g acc s
  | 0, 0, _, _, _, _ => rfl
  | 0, _ + 1, _, [], _, _ => rfl
  | _ + 1, 0, _, [], _, _ => rfl
  | _ + 1, _ + 1, _, [], _, _ => rfl
  | 0, _, _, _ :: _, h, _ => by simp at h
  | _, 0, _, _ :: _, _, h => by simp at h
  | f + 1, g + 1, acc, c :: r, h1, h2 => by
    simp only [List.length_cons] at h1 h2
    simp only [toksF]
    split
    · exact toksF_fuel f g acc r (by omega) (by omega)
    · split
      · rfl
      · split
        · rename_i h
          have := (next_pos (s := c :: r) (by simp) (by simpa using h)).1
          exact toksF_fuel f g _ _ (by rw [List.length_drop, List.length_cons]; omega) (by rw [List.length_drop, List.length_cons]; omega)
        · rfl
theorem toks_blank {acc : List Tk} {r : Bs} : toksF (32 :: r : Bs).length acc (32 :: r) = toksF r.length acc r := rfl
theorem toks_next {acc : List Tk} {c : UInt8} (r : Bs) (hc : (c == 32) = false) (ha : (acc.length == 256) = false) (hn : ((nextB (c :: r)).2 == 0) = true) :
    toksF (c :: r).length acc (c :: r) = toksF ((c :: r).drop (nextB (c :: r)).1.2.length).length (acc ++ [(nextB (c :: r)).1]) ((c :: r).drop (nextB (c :: r)).1.2.length) := by
  have := (next_pos (s := c :: r) (by simp) (by simpa using hn)).1
  rw [List.length_cons, toksF, hc, ha, hn]
  simp only [Bool.false_eq_true, if_false, if_true]
  exact toksF_fuel _ _ _ _ (by rw [List.length_drop, List.length_cons]; omega) (Nat.le_refl _)
def eTks (p : List Tk × Int) : D := .tup [.list (p.1.map eTk), i64 p.2]
noncomputable def g_toksP : List D → Option D := encSpec (fun x : Bs => [.str x]) (fun x : Bs => x.length ≤ 1099511627776) (fun x : Bs => eTks (toksB x))
theorem g_toksP_eq {s : Bs} (hd : s.length ≤ 1099511627776) : g_toksP [.str s] = some (eTks (toksB s)) := encSpec_eq (x := s) hd fun y hy => by
    simp only [List.cons.injEq, and_true, true_and, D.str.injEq, D.int.injEq, D.list.injEq, D.bool.injEq, D.agg.injEq, D.clo.injEq, Int.natCast_inj, inj_ie] at hy
    rw [hy]
theorem f_toksP_ok : PureOK Tryd.prog 40 false g_toksP := by
  have hΓ := Γp f_nextP_ok (Γn)
  refine pure_enc (n := 38) (rs := [.tmp 2, .tmp 3]) Tryd.func40 (by kernel_rfl) rfl (by kernel_rfl) (by kernel_rfl) ?_
  rintro s hd
  (try dsimp only at hd ⊢)
  refine ⟨fun h => (by cases h), fun k hz0 => ?_⟩
  unfold toksB
  rw [start_frame (by simp)]; simp only [enumV, go_sem, emptyH]
  repeat (first
    | (apply axJ; (focus ((with_reducible constructor) <;> rfl)))
    | (apply awT mixedOK hΓ (by kernel_rfl); (simp (disch := omega) only [go_sem, ↓reduceIte, dk, ↓lk, Int.reduceBEq, Int.reduceBNe, Bool.true_bne, Bool.false_bne, Bool.not_true, Bool.not_false] <;> with_reducible rfl))
    | ((first | apply awR hΓ | apply awG | apply awH mixedOK hΓ rfl (by kernel_rfl) | apply ovE rfl); (simp (disch := omega) only [go_sem, ↓reduceIte, dk, ↓lk, Int.reduceBEq, Int.reduceBNe, Bool.true_bne, Bool.false_bne, Bool.not_true, Bool.not_false] <;> with_reducible rfl); exact trivial)
    | rfl)
  refine awp_scopeD ?_
  by_cases hl : (s.length : Int) > 65536
  · have h1 : decide ((s.length : Int) > 65536) = true := decide_eq_true hl
    rw [h1]
    simp only [if_true]
    repeat (first
      | (apply axJ; (focus ((with_reducible constructor) <;> rfl)))
      | (apply awT mixedOK hΓ (by kernel_rfl); (simp (disch := omega) only [go_sem, ↓reduceIte, dk, ↓lk, Int.reduceBEq, Int.reduceBNe, Bool.true_bne, Bool.false_bne, Bool.not_true, Bool.not_false, h1] <;> with_reducible rfl))
      | ((first | apply awR hΓ | apply awG | apply awH mixedOK hΓ rfl (by kernel_rfl) | apply ovE rfl); (simp (disch := omega) only [go_sem, ↓reduceIte, dk, ↓lk, Int.reduceBEq, Int.reduceBNe, Bool.true_bne, Bool.false_bne, Bool.not_true, Bool.not_false, h1] <;> with_reducible rfl); exact trivial)
      | rfl)
    try rfl
  have h1 : decide ((s.length : Int) > 65536) = false := decide_eq_false hl
  rw [h1]
  simp only [Bool.false_eq_true, if_false]
  repeat (first
    | (apply axJ; (focus ((with_reducible constructor) <;> rfl)))
    | (apply awT mixedOK hΓ (by kernel_rfl); (simp (disch := omega) only [go_sem, ↓reduceIte, dk, ↓lk, Int.reduceBEq, Int.reduceBNe, Bool.true_bne, Bool.false_bne, Bool.not_true, Bool.not_false, h1] <;> with_reducible rfl))
    | ((first | apply awR hΓ | apply awG | apply awH mixedOK hΓ rfl (by kernel_rfl) | apply ovE rfl); (simp (disch := omega) only [go_sem, ↓reduceIte, dk, ↓lk, Int.reduceBEq, Int.reduceBNe, Bool.true_bne, Bool.false_bne, Bool.not_true, Bool.not_false, h1] <;> with_reducible rfl); exact trivial)
    | rfl)
  refine awp_weak (Weak.nilrowF (i := 4) 46 (sz := 2) (by omega) (by omega) rfl) ?_
  refine awp_loop_at (X := List Tk × Bs) (fun y => (frame 38 [(0, .data (.str y.2)), (4, .row 6 y.1.length)])) (fun y => [(6, .row 46 2 (y.1.map eTk))]) 7
    (fun y => toksF s.length [] s = toksF y.2.length y.1 y.2 ∧ y.2.length ≤ s.length ∧ y.1.length ≤ 256) (fun y => y.2.length) ([], s) ⟨rfl, Nat.le_refl _, Nat.zero_le _⟩ (Weak.v (by (simp [ConvF, lookV, Conv, ints, upd]; done)) (by (simp (disch := omega) only [TabSub, look, if_pos, if_neg, Obj.refsOK, refsOKs, AV.refsOK, decide_eq_true_eq, Bool.and_true, Bool.and_self, upd] ) <;> ((repeat' apply And.intro) <;> first | exact True.intro | omega | (simp; done) | rfl))) ?_
  rintro ⟨acc, r⟩ ⟨h2, h3, h4⟩
  dsimp only at h2 h3 h4 ⊢
  rw [h2]
  clear h2
  rcases hr : r with _ | ⟨c, t⟩
  · rw [show toksF ([] : Bs).length acc [] = (acc, 0) from rfl]
    repeat (first
      | (apply axJ; (focus ((with_reducible constructor) <;> rfl)))
      | (apply awT mixedOK hΓ (by kernel_rfl); (simp (disch := omega) only [go_sem, ↓reduceIte, dk, ↓lk, Int.reduceBEq, Int.reduceBNe, Bool.true_bne, Bool.false_bne, Bool.not_true, Bool.not_false] <;> with_reducible rfl))
      | ((first | apply awR hΓ | apply awG | apply awH mixedOK hΓ rfl (by kernel_rfl) | apply ovE rfl); (simp (disch := omega) only [go_sem, ↓reduceIte, dk, ↓lk, Int.reduceBEq, Int.reduceBNe, Bool.true_bne, Bool.false_bne, Bool.not_true, Bool.not_false] <;> with_reducible rfl); exact trivial)
      | rfl)
    try rfl
  subst hr
  have hne : (c :: t == ([] : Bs)) = false := rfl
  have hix : (c :: t)[Int.toNat 0]? = some c := rfl
  have hct : (c :: t).length = t.length + 1 := rfl
  have hb : (((c.toNat : Nat) : Int) == 32) = (c == 32) := byteEq c 32
  cases hc : (c == 32)
  case true =>
    rw [hc] at hb
    have hc2 : c = 32 := by simpa using hc
    rw [hc2, toks_blank]
    rw [hc2] at hb hne hix hct
    repeat (first
      | (apply axJ; (focus ((with_reducible constructor) <;> rfl)))
      | (apply awT mixedOK hΓ (by kernel_rfl); (simp (disch := omega) only [go_sem, ↓reduceIte, dk, ↓lk, Int.reduceBEq, Int.reduceBNe, Bool.true_bne, Bool.false_bne, Bool.not_true, Bool.not_false, hne, hix, hct, hb] <;> with_reducible rfl))
      | ((first | apply awR hΓ | apply awG | apply awH mixedOK hΓ rfl (by kernel_rfl) | apply ovE rfl); (simp (disch := omega) only [go_sem, ↓reduceIte, dk, ↓lk, Int.reduceBEq, Int.reduceBNe, Bool.true_bne, Bool.false_bne, Bool.not_true, Bool.not_false, hne, hix, hct, hb] <;> with_reducible rfl); exact trivial)
      | rfl)
    have hsl : List.take (t.length + 1 - Int.toNat 1) (List.drop (Int.toNat 1) ((32 :: t) : Bs)) = t := by simp
    exact ⟨(acc, t), ⟨rfl, by dsimp only; simp only [List.length_cons] at h3; omega, h4⟩, by dsimp only; simp, Weak.v (by (simp [ConvF, lookV, Conv, ints, hsl]; done)) (by (simp (disch := omega) only [TabSub, look, if_pos, if_neg, Obj.refsOK, refsOKs, AV.refsOK, decide_eq_true_eq, Bool.and_true, Bool.and_self, hsl] ) <;> ((repeat' apply And.intro) <;> first | exact True.intro | omega | (simp; done) | rfl))⟩
  rw [hc] at hb
  have e1 := g_nextP_eq (s := c :: t) ⟨by omega, by simp⟩
  cases ha : (acc.length == 256)
  case true =>
    have ha2 : (((acc.length : Nat) : Int) == 256) = true := by
      rw [beq_iff_eq] at ha ⊢
      omega
    have hv : toksF (c :: t).length acc (c :: t) = ([], 10) := by
      rw [List.length_cons, toksF, hc, ha]
      rfl
    rw [hv]
    repeat (first
      | (apply axJ; (focus ((with_reducible constructor) <;> rfl)))
      | (apply awT mixedOK hΓ (by kernel_rfl); (simp (disch := omega) only [go_sem, ↓reduceIte, dk, ↓lk, Int.reduceBEq, Int.reduceBNe, Bool.true_bne, Bool.false_bne, Bool.not_true, Bool.not_false, hne, hix, hct, hb, ha2] <;> with_reducible rfl))
      | ((first | apply awR hΓ | apply awG | apply awH mixedOK hΓ rfl (by kernel_rfl) | apply ovE rfl); (simp (disch := omega) only [go_sem, ↓reduceIte, dk, ↓lk, Int.reduceBEq, Int.reduceBNe, Bool.true_bne, Bool.false_bne, Bool.not_true, Bool.not_false, hne, hix, hct, hb, ha2] <;> with_reducible rfl); exact trivial)
      | rfl)
    try rfl
  have ha2 : (((acc.length : Nat) : Int) == 256) = false := by
    rw [beq_eq_false_iff_ne] at ha ⊢
    omega
  cases hn : ((nextB (c :: t)).2 == 0)
  · have hv : toksF (c :: t).length acc (c :: t) = ([], (nextB (c :: t)).2) := by
      rw [List.length_cons, toksF, hc, ha, hn]
      rfl
    rw [hv]
    generalize nextB (c :: t) = p at *
    obtain ⟨⟨p1, p2⟩, p3⟩ := p
    replace e1 : g_nextP [.str (c :: t)] = some (.tup [.agg [.int .i64 p1, .str p2], .int .i64 p3]) := e1
    have hn2 : (p3 != 0) = true := by simpa [bne] using hn
    repeat (first
      | (apply axJ; (focus ((with_reducible constructor) <;> rfl)))
      | (apply awT mixedOK hΓ (by kernel_rfl); (simp (disch := omega) only [go_sem, ↓reduceIte, dk, ↓lk, Int.reduceBEq, Int.reduceBNe, Bool.true_bne, Bool.false_bne, Bool.not_true, Bool.not_false, hne, hix, hct, hb, ha2, e1, hn2] <;> with_reducible rfl))
      | ((first | apply awR hΓ | apply awG | apply awH mixedOK hΓ rfl (by kernel_rfl) | apply ovE rfl); (simp (disch := omega) only [go_sem, ↓reduceIte, dk, ↓lk, Int.reduceBEq, Int.reduceBNe, Bool.true_bne, Bool.false_bne, Bool.not_true, Bool.not_false, hne, hix, hct, hb, ha2, e1, hn2] <;> with_reducible rfl); exact trivial)
      | rfl)
    try rfl
  · have hv := toks_next t hc ha hn
    obtain ⟨hp1, hp2⟩ := next_pos (s := c :: t) (by simp) (by simpa using hn)
    rw [hv]
    clear hv
    generalize nextB (c :: t) = p at *
    obtain ⟨⟨p1, p2⟩, p3⟩ := p
    replace e1 : g_nextP [.str (c :: t)] = some (.tup [.agg [.int .i64 p1, .str p2], .int .i64 p3]) := e1
    have hn2 : (p3 != 0) = false := by simpa [bne] using hn
    dsimp only at hp1 hp2 ⊢
    rw [hct] at hp2
    have htk : List.take (t.length + 1 - p2.length) (List.drop p2.length (c :: t)) = List.drop p2.length (c :: t) := List.take_of_length_le (by rw [List.length_drop, List.length_cons]; omega)
    have hdl : (List.drop p2.length (c :: t)).length = t.length + 1 - p2.length := by rw [List.length_drop, List.length_cons]
    repeat (first
      | (apply axJ; (focus ((with_reducible constructor) <;> rfl)))
      | (apply awT mixedOK hΓ (by kernel_rfl); (simp (disch := omega) only [go_sem, ↓reduceIte, dk, ↓lk, Int.reduceBEq, Int.reduceBNe, Bool.true_bne, Bool.false_bne, Bool.not_true, Bool.not_false, hne, hix, hct, hb, ha2, e1, hn2, htk] <;> with_reducible rfl))
      | ((first | apply awR hΓ | apply awG | apply awH mixedOK hΓ rfl (by kernel_rfl) | apply ovE rfl); (simp (disch := omega) only [go_sem, ↓reduceIte, dk, ↓lk, Int.reduceBEq, Int.reduceBNe, Bool.true_bne, Bool.false_bne, Bool.not_true, Bool.not_false, hne, hix, hct, hb, ha2, e1, hn2, htk] <;> with_reducible rfl); exact trivial)
      | rfl)
    refine ⟨(acc ++ [(p1, p2)], List.drop p2.length (c :: t)), ⟨rfl, by dsimp only; omega, ?_⟩, by dsimp only; rw [hdl]; simp only [List.length_cons]; omega, ?_⟩
    · dsimp only
      rw [beq_eq_false_iff_ne] at ha
      rw [List.length_append]
      simp only [List.length_cons, List.length_nil]
      omega
    · have hm : (acc ++ [((p1, p2) : Tk)]).map eTk = acc.map eTk ++ [.agg [i64 p1, .str p2]] := by rw [List.map_append]; rfl
      exact Weak.v (by (simp [ConvF, lookV, Conv, ints, hm]; done)) (by (simp (disch := omega) only [TabSub, look, if_pos, if_neg, Obj.refsOK, refsOKs, AV.refsOK, decide_eq_true_eq, Bool.and_true, Bool.and_self, hm] ) <;> ((repeat' apply And.intro) <;> first | exact True.intro | omega | (simp; done) | rfl))
end Go.Ab
