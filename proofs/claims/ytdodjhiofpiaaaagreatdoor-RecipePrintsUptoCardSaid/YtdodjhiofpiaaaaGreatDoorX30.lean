/-
  One text of the proof (own work): contracts of functions of the program, by the abstract machine.
-/
import Derived.Test.YtdodjhiofpiaaaaGreatDoorRows
import Derived.Test.YtdodjhiofpiaaaaGreatDoorX16
import Derived.Test.YtdodjhiofpiaaaaGreatDoorX17
import Derived.Test.YtdodjhiofpiaaaaGreatDoorX29
import Derived.Test.YtdodjhiofpiaaaaGreatDoorX19
set_option linter.unusedVariables false
set_option linter.unusedSimpArgs false
namespace Go.Ab
open Go Go.RowKit Go.Proofs
open Go.Proofs.YtdodjhiofpiaaaaGreatDoor
set_option maxRecDepth 4000
mutual
theorem bulk_le {H : Type} : ∀ d : DataW H, bulk d ≤ Rows.uptoBulk d
  | .lit l => by cases l <;> simp [bulk, Rows.uptoBulk]
  | .nil => by simp [bulk, Rows.uptoBulk]
  | .ptr d => by have := bulk_le d; simp only [bulk, Rows.uptoBulk]; omega
  | .slice a b => by have := bulkAll_le a; have := bulkAll_le b; simp only [bulk, Rows.uptoBulk]; omega
  | .agg a => by have := bulkAll_le a; simp only [bulk, Rows.uptoBulk]; omega
  | .iface _ d => by have := bulk_le d; simp only [bulk, Rows.uptoBulk]; omega
  | .map es => by simp [bulk, Rows.uptoBulk]
  | .held _ => by simp [bulk, Rows.uptoBulk]
theorem bulkAll_le {H : Type} : ∀ l : List (DataW H), bulkAll l ≤ Rows.uptoBulkAll l
  | [] => by simp [bulkAll, Rows.uptoBulkAll]
  | d :: r => by have := bulk_le d; have := bulkAll_le r; simp only [bulkAll, Rows.uptoBulkAll]; omega
end
theorem trodAll_len {H : Type} {enc : TypeId × Value → H} {P : Program} {W : World} : ∀ (ts : List TypeId) (vs : List Value) (ds : List (DataW H)) (ps : List MemPlace), DataW.TrodAll enc P W 0 (fun _ => true) true ts vs ds ps → ds.length = ts.length
  | [], vs, ds, ps, h => by
    obtain ⟨rfl, rfl, rfl⟩ := ChangeShapes.trodAll_nil h
    rfl
  | t :: ts, vs, ds, ps, h => by
    obtain ⟨v, vs', d, ds', p, q, rfl, rfl, rfl, h1, h2⟩ := ChangeShapes.trodAll_cons h
    simp [trodAll_len ts vs' ds' q h2]
theorem has_str {n : Nat} {cs : List D} (h : HasTy n .str cs) : ∃ s : List UInt8, s.length ≤ n ∧ Ty.str.pack cs = .str s := by
  obtain ⟨s, hl, rfl⟩ := h
  exact ⟨s, hl, rfl⟩
theorem laid14 : laidOutB Tryz.prog = true := by kernel_rfl
theorem own14 : ownKnob Tryz.prog.godebug = none := by kernel_rfl
def accCells : Array Value := #[.int .u8 128, .int .u8 191, .int .u8 160, .int .u8 191, .int .u8 128, .int .u8 159, .int .u8 144, .int .u8 191, .int .u8 128, .int .u8 143, .int .u8 0, .int .u8 0, .int .u8 0, .int .u8 0, .int .u8 0, .int .u8 0, .int .u8 0, .int .u8 0, .int .u8 0, .int .u8 0, .int .u8 0, .int .u8 0, .int .u8 0, .int .u8 0, .int .u8 0, .int .u8 0, .int .u8 0, .int .u8 0, .int .u8 0, .int .u8 0, .int .u8 0, .int .u8 0]
def firstCells : Array Value := (Go.Pinned.utf8FirstZ.map fun n : Nat => Value.int .u8 (n : Int)).toArray
def layCells (cs : Array Value) : Go.Obj → Go.Obj
  | .cells _ t frozen => .cells cs t frozen
  | o => o
noncomputable def laidWorld (os : Os) : World :=
  { World.holding Tryz.prog os ⟨#[], #[], []⟩ with heap := ((World.holding Tryz.prog os ⟨#[], #[], []⟩).heap.modify 1 (layCells firstCells)).modify 2 (layCells accCells) }
def RT (ty : Ty) (n : Nat) (d : D) : Prop := ∃ cs, HasTy n ty cs ∧ d = ty.pack cs
theorem rt_str {n : Nat} {d : D} (h : RT .str n d) : ∃ s : List UInt8, s.length ≤ n ∧ d = .str s := by
  obtain ⟨cs, h1, rfl⟩ := h
  obtain ⟨s, hl, e⟩ := has_str h1
  exact ⟨s, hl, e⟩
theorem list_chooseP {α β γ : Type} {f : α → γ} {g : β → γ} {p : β → Prop} : ∀ (ls : List α), (∀ c ∈ ls, ∃ x, f c = g x ∧ p x) → ∃ l : List β, ls.map f = l.map g ∧ l.length = ls.length ∧ ∀ x ∈ l, p x
  | [], _ => ⟨[], rfl, rfl, fun x hx => by cases hx⟩
  | c :: ls, h => by
    obtain ⟨x, hx, hp⟩ := h c List.mem_cons_self
    obtain ⟨l, h1, h2, h3⟩ := list_chooseP ls fun c hc => h c (List.mem_cons_of_mem _ hc)
    exact ⟨x :: l, by simp [hx, h1], by simp [h2], fun y hy => by
      rcases List.mem_cons.1 hy with rfl | hy
      · exact hp
      · exact h3 y hy⟩
theorem has_strs {n : Nat} {cs : List D} (h : HasTy n (.slice .str) cs) : ∃ l : List Bs, cs = [.list (l.map .str)] ∧ l.length ≤ n ∧ ∀ w ∈ l, w.length ≤ n := by
  simp only [HasTy] at h
  obtain ⟨ls, hl, hs, rfl⟩ := h
  obtain ⟨m, e, k, hp⟩ := list_chooseP (f := Ty.str.pack) (g := D.str) (p := fun w : Bs => w.length ≤ n) ls fun c hc => by
    obtain ⟨s, hl, rfl⟩ := hs c hc
    exact ⟨s, rfl, hl⟩
  exact ⟨m, by rw [e], by omega, hp⟩
abbrev tyStp : Ty := .struct [.int .i64, .int .i64, .slice .str, .slice .str, .slice .str, .str]
theorem has_stp {n : Nat} (hn : n ≤ 1099511627776) {cs : List D} (h : HasTy n tyStp cs) : ∃ x : Stp, tyStp.pack cs = eSt x ∧ StOK x := by
  simp only [HasTy, HasTyL] at h
  obtain ⟨_, _, ⟨a, wa, rfl⟩, ⟨_, _, ⟨b, wb, rfl⟩, ⟨_, _, h3, ⟨_, _, h4, ⟨_, _, h5, ⟨_, _, ⟨s, hs, rfl⟩, rfl, rfl⟩, rfl⟩, rfl⟩, rfl⟩, rfl⟩, rfl⟩ := h
  obtain ⟨l1, rfl, a1, a2⟩ := has_strs (show HasTy n (.slice .str) _ from h3)
  obtain ⟨l2, rfl, b1, b2⟩ := has_strs (show HasTy n (.slice .str) _ from h4)
  obtain ⟨l3, rfl, c1, c2⟩ := has_strs (show HasTy n (.slice .str) _ from h5)
  exact ⟨⟨a, b, l1, l2, l3, s⟩, rfl, ⟨by dsimp only; omega, fun w hw => Nat.le_trans (a2 w hw) hn⟩, ⟨by dsimp only; omega, fun w hw => Nat.le_trans (b2 w hw) hn⟩, ⟨by dsimp only; omega, fun w hw => Nat.le_trans (c2 w hw) hn⟩, Nat.le_trans hs hn⟩
theorem rt_stp {n : Nat} (hn : n ≤ 1099511627776) {d : D} (h : RT tyStp n d) : ∃ x : Stp, StOK x ∧ d = eSt x := by
  obtain ⟨cs, h1, rfl⟩ := h
  obtain ⟨x, e, hx⟩ := has_stp hn h1
  exact ⟨x, hx, e⟩
theorem rt_stps {n : Nat} (hn : n ≤ 1099511627776) {d : D} (h : RT (.slice tyStp) n d) : ∃ l : List Stp, (l.length ≤ 1099511627776 ∧ ∀ x ∈ l, StOK x) ∧ d = .list (l.map eSt) := by
  obtain ⟨cs, h1, rfl⟩ := h
  rw [HasTy] at h1
  obtain ⟨ls, hl, hs, rfl⟩ := h1
  obtain ⟨m, e, k, hp⟩ := list_chooseP (f := tyStp.pack) (g := eSt) (p := StOK) ls fun c hc => has_stp hn (hs c hc)
  exact ⟨m, ⟨by omega, hp⟩, by show D.list (ls.map tyStp.pack) = _; rw [e]⟩
end Go.Ab
namespace Go.Ab
open Go Go.RowKit Go.Proofs
set_option maxRecDepth 10000
set_option maxHeartbeats 8000000
def joinT : List Bs → Bs
  | [] => []
  | w :: r => [10] ++ w ++ joinT r
theorem joinT_append (a b : List Bs) : joinT (a ++ b) = joinT a ++ joinT b := by
  induction a with
  | nil => rfl
  | cons g a ih => rw [List.cons_append, joinT, ih, joinT]; simp
theorem joinT_step {l : List Bs} {i : Nat} (hi : i < l.length) : joinT (l.take (i + 1)) = joinT (l.take i) ++ [10] ++ l[i] := by
  rw [List.take_add_one, List.getElem?_eq_getElem hi, joinT_append]
  simp [joinT]
theorem joinT_le (l : List Bs) (i : Nat) : (joinT (l.take i)).length ≤ (joinT l).length := by
  conv => rhs; rw [← List.take_append_drop i l, joinT_append]
  rw [List.length_append]
  omega
theorem joinT_len : ∀ l : List Bs, l.length ≤ (joinT l).length
  | [] => Nat.le_refl _
  | w :: r => by
    have := joinT_len r
    rw [joinT]
    simp only [List.length_append, List.length_cons, List.length_nil]
    omega
theorem joinT_mem : ∀ {l : List Bs} {w : Bs}, w ∈ l → w.length ≤ (joinT l).length
  | v :: r, w, h => by
    rw [joinT]
    simp only [List.length_append]
    rcases List.mem_cons.1 h with rfl | h
    · omega
    · have := joinT_mem h; omega
def oneL (w : Bs) : Bool := ((splitB 10 w).length : Int) == 1
def joinR : List Bs → Bs × Int
  | [] => ([], 1)
  | w :: r => if (w :: r).all oneL then (if decide (((r.length + 1 : Nat) : Int) > 1024) || decide (((w ++ joinT r).length : Int) > 65536) then ([], 10) else (w ++ joinT r, 0)) else ([], 1)
def eSE (p : Bs × Int) : D := .tup [.str p.1, i64 p.2]
noncomputable def g_joinR3 : List D → Option D := encSpec (fun x : (List Bs) => [.list (x.map .str)]) (fun x : (List Bs) => (joinT x).length ≤ 1099511627776) (fun x : (List Bs) => eSE (joinR x))
theorem g_joinR3_eq {l : List Bs} (hd : (joinT l).length ≤ 1099511627776) : g_joinR3 [.list (l.map .str)] = some (eSE (joinR l)) := encSpec_eq (x := l) hd fun y hy => by
    simp only [List.cons.injEq, and_true, true_and, D.str.injEq, D.int.injEq, D.list.injEq, D.bool.injEq, D.agg.injEq, D.clo.injEq, Int.natCast_inj, inj_ie, eSt_ie, eSts_ie] at hy
    rw [hy]
theorem f_joinR3_ok : PureOK Tryz.prog 33 false g_joinR3 := by
  have hΓ := Γp f_splitR_ok (Γn)
  refine pure_enc (n := 54) (rs := [.tmp 2, .tmp 3]) Tryz.func33 (by kernel_rfl) rfl (by kernel_rfl) (by kernel_rfl) ?_
  rintro l hd
  (try dsimp only at hd ⊢)
  refine ⟨fun h => (by cases h), fun k hz0 => ?_⟩
  have hl := joinT_len l
  have hmem : ∀ w ∈ l, w.length ≤ 1099511627776 := fun w hw => Nat.le_trans (joinT_mem hw) hd
  rw [start_frame (by simp)]; simp only [enumV, go_sem, emptyH]
  rcases hlc : l with _ | ⟨w0, r⟩
  · repeat (first
    | (apply axJ; (focus ((with_reducible constructor) <;> rfl)))
    | (apply awT mixedOK hΓ (by kernel_rfl); (simp (disch := omega) only [go_sem, ↓reduceIte, dk, ↓lk, Int.reduceToNat, List.getElem?_cons_zero, List.getElem?_cons_succ, Int.reduceBEq, Int.reduceBNe, Bool.true_bne, Bool.false_bne, Bool.not_true, Bool.not_false, show ((0 : Nat) : Int) = 0 from rfl, List.length_nil, List.map_nil] <;> with_reducible rfl))
    | ((first | apply awR hΓ | apply awG | apply awH mixedOK hΓ rfl (by kernel_rfl) | apply ovE rfl); (simp (disch := omega) only [go_sem, ↓reduceIte, dk, ↓lk, Int.reduceToNat, List.getElem?_cons_zero, List.getElem?_cons_succ, Int.reduceBEq, Int.reduceBNe, Bool.true_bne, Bool.false_bne, Bool.not_true, Bool.not_false, show ((0 : Nat) : Int) = 0 from rfl, List.length_nil, List.map_nil] <;> with_reducible rfl); exact trivial)
    | rfl)
    try rfl
  rw [← hlc]
  have hlen : l.length = r.length + 1 := by rw [hlc]; rfl
  have hjt : joinT l = [10] ++ w0 ++ joinT r := by rw [hlc, joinT]
  have hres : joinR l = if l.all oneL then (if decide ((l.length : Int) > 1024) || decide (((w0 ++ joinT r).length : Int) > 65536) then ([], 10) else (w0 ++ joinT r, 0)) else ([], 1) := by
    rw [hlen, hlc]
    rfl
  rw [hres]
  have hz : ((l.length : Int) == 0) = false := by rw [beq_eq_false_iff_ne]; omega
  repeat (first
    | (apply axJ; (focus ((with_reducible constructor) <;> rfl)))
    | (apply awT mixedOK hΓ (by kernel_rfl); (simp (disch := omega) only [go_sem, ↓reduceIte, dk, ↓lk, hz] <;> with_reducible rfl))
    | ((first | apply awR hΓ | apply awG | apply awH mixedOK hΓ rfl (by kernel_rfl) | apply ovE rfl); (simp (disch := omega) only [go_sem, ↓reduceIte, dk, ↓lk, hz] <;> with_reducible rfl); exact trivial)
    | rfl)
  refine awp_loop_at (X := Nat × Nat) (fun y => (frame 54 [(0, .data (.list (l.map .str))), (4, .data (i64 y.2)), (16, .data (.list (l.map .str))), (17, .data (i64 l.length)), (18, .data (i64 y.1))])) (fun _ => []) 30
    (fun y => y.1 ≤ l.length ∧ y.2 + y.1 + 1 = l.length + (joinT (l.take y.1)).length ∧ (l.take y.1).all oneL = true) (fun y => l.length - y.1) (0, l.length - 1)
    ⟨Nat.zero_le _, by simp only [List.take_zero, joinT, List.length_nil]; omega, rfl⟩ (Weak.v (by (simp [ConvF, lookV, Conv, ints, show ((l.length - 1 : Nat) : Int) = (l.length : Int) - 1 by omega]; done)) (by (simp (disch := omega) only [TabSub, look, if_pos, if_neg, Obj.refsOK, refsOKs, AV.refsOK, decide_eq_true_eq, Bool.and_true, Bool.and_self, show ((l.length - 1 : Nat) : Int) = (l.length : Int) - 1 by omega] ) <;> ((repeat' apply And.intro) <;> first | exact True.intro | omega | (simp; done) | rfl))) ?_
  rintro ⟨i, n⟩ ⟨h1, h2, h3⟩
  dsimp only at h1 h2 h3 ⊢
  have hle := joinT_le l i
  by_cases hi : i < l.length
  · have hyes := fun h => all_next (p := oneL) hi h3 h
    have hno := fun h => all_no (p := oneL) hi h
    have e1 := g_splitR_eq (s := l[i]) (c := 10) (hmem _ (List.getElem_mem hi))
    have hst := joinT_step hi
    have hwi := hmem _ (List.getElem_mem hi)
    have hsl := splitB_len 10 l[i]
    unfold oneL at hyes hno
    generalize hy : l[i] = y at *
    replace e1 : g_splitR [.str y, .int .u8 10] = some (.list ((splitB 10 y).map .str)) := e1
    generalize splitB 10 y = sp at *
    generalize hc : ((sp.length : Int) == 1) = c at *
    have hc2 : ((sp.length : Int) != 1) = !c := by rw [← hc]; rfl
    cases c
    · rw [show l.all oneL = false from hno rfl]
      repeat (first
        | (apply axJ; (focus ((with_reducible constructor) <;> rfl)))
        | (apply awT mixedOK hΓ (by kernel_rfl); (simp (disch := omega) only [go_sem, ↓reduceIte, dk, ↓lk, hy, e1, hc, hc2, Int.reduceBEq, Int.reduceBNe, Bool.true_bne, Bool.false_bne, Bool.not_true, Bool.not_false] <;> with_reducible rfl))
        | ((first | apply awR hΓ | apply awG | apply awH mixedOK hΓ rfl (by kernel_rfl) | apply ovE rfl); (simp (disch := omega) only [go_sem, ↓reduceIte, dk, ↓lk, hy, e1, hc, hc2, Int.reduceBEq, Int.reduceBNe, Bool.true_bne, Bool.false_bne, Bool.not_true, Bool.not_false] <;> with_reducible rfl); exact trivial)
        | rfl)
      try rfl
    · repeat (first
      | (apply axJ; (focus ((with_reducible constructor) <;> rfl)))
      | (apply awT mixedOK hΓ (by kernel_rfl); (simp (disch := omega) only [go_sem, ↓reduceIte, dk, ↓lk, hy, e1, hc, hc2, Int.reduceBEq, Int.reduceBNe, Bool.true_bne, Bool.false_bne, Bool.not_true, Bool.not_false] <;> with_reducible rfl))
      | ((first | apply awR hΓ | apply awG | apply awH mixedOK hΓ rfl (by kernel_rfl) | apply ovE rfl); (simp (disch := omega) only [go_sem, ↓reduceIte, dk, ↓lk, hy, e1, hc, hc2, Int.reduceBEq, Int.reduceBNe, Bool.true_bne, Bool.false_bne, Bool.not_true, Bool.not_false] <;> with_reducible rfl); exact trivial)
      | rfl)
      refine ⟨(i + 1, n + y.length), ⟨by dsimp only; omega, ?_, hyes rfl⟩, by dsimp only; omega, ?_⟩
      · dsimp only
        rw [hst]
        simp only [List.length_append, List.length_cons, List.length_nil]
        omega
      · exact Weak.v (by (simp [ConvF, lookV, Conv, ints, Int.natCast_add]; done)) (by (simp (disch := omega) only [TabSub, look, if_pos, if_neg, Obj.refsOK, refsOKs, AV.refsOK, decide_eq_true_eq, Bool.and_true, Bool.and_self, Int.natCast_add] ) <;> ((repeat' apply And.intro) <;> first | exact True.intro | omega | (simp; done) | rfl))
  · have hi3 : i = l.length := by omega
    subst hi3
    rw [List.take_length] at h2 h3
    rw [h3]
    have hn : n = (w0 ++ joinT r).length := by
      rw [hjt] at h2
      simp only [List.length_append, List.length_cons, List.length_nil] at h2 ⊢
      omega
    rw [← hn]
    have hrl := joinT_len r
    have hfull : w0.length + (joinT r).length ≤ 1099511627776 := by
      rw [hjt] at hd
      simp only [List.length_append, List.length_cons, List.length_nil] at hd
      omega
    generalize hc1 : decide ((l.length : Int) > 1024) = c1
    generalize hc2 : decide ((n : Int) > 65536) = c2
    cases c1
    rotate_left
    · repeat (first
      | (apply axJ; (focus ((with_reducible constructor) <;> rfl)))
      | (apply awT mixedOK hΓ (by kernel_rfl); (simp (disch := omega) only [go_sem, ↓reduceIte, dk, ↓lk, hc1, hc2] <;> with_reducible rfl))
      | ((first | apply awR hΓ | apply awG | apply awH mixedOK hΓ rfl (by kernel_rfl) | apply ovE rfl); (simp (disch := omega) only [go_sem, ↓reduceIte, dk, ↓lk, hc1, hc2] <;> with_reducible rfl); exact trivial)
      | rfl)
      try rfl
    cases c2
    rotate_left
    · repeat (first
      | (apply axJ; (focus ((with_reducible constructor) <;> rfl)))
      | (apply awT mixedOK hΓ (by kernel_rfl); (simp (disch := omega) only [go_sem, ↓reduceIte, dk, ↓lk, hc1, hc2] <;> with_reducible rfl))
      | ((first | apply awR hΓ | apply awG | apply awH mixedOK hΓ rfl (by kernel_rfl) | apply ovE rfl); (simp (disch := omega) only [go_sem, ↓reduceIte, dk, ↓lk, hc1, hc2] <;> with_reducible rfl); exact trivial)
      | rfl)
      try rfl
    have h0 : l[0] = w0 := by simp only [hlc, List.getElem_cons_zero]
    have hdr : List.take (l.length - 1) (List.drop 1 (List.map D.str l)) = List.map D.str r := by
      rw [hlen, hlc]
      exact List.take_of_length_le (by simp)
    repeat (first
      | (apply axJ; (focus ((with_reducible constructor) <;> rfl)))
      | (apply awT mixedOK hΓ (by kernel_rfl); (simp (disch := omega) only [go_sem, ↓reduceIte, dk, ↓lk, hc1, hc2, h0, hdr, Int.reduceToNat] <;> with_reducible rfl))
      | ((first | apply awR hΓ | apply awG | apply awH mixedOK hΓ rfl (by kernel_rfl) | apply ovE rfl); (simp (disch := omega) only [go_sem, ↓reduceIte, dk, ↓lk, hc1, hc2, h0, hdr, Int.reduceToNat] <;> with_reducible rfl); exact trivial)
      | rfl)
    refine awp_loop_at (X := Nat) (fun i => (frame 54 [(7, .data (.str (w0 ++ joinT (r.take i)))), (42, .data (.list (r.map .str))), (43, .data (i64 r.length)), (44, .data (i64 i))])) (fun _ => []) 60
      (fun i => i ≤ r.length) (fun i => r.length - i) 0 (Nat.zero_le _) (Weak.v (by (simp [ConvF, lookV, Conv, ints, joinT, List.append_nil, show (l.length : Int) - 1 = (r.length : Int) by omega]; done)) (by (simp (disch := omega) only [TabSub, look, if_pos, if_neg, Obj.refsOK, refsOKs, AV.refsOK, decide_eq_true_eq, Bool.and_true, Bool.and_self, joinT, List.append_nil, show (l.length : Int) - 1 = (r.length : Int) by omega] ) <;> ((repeat' apply And.intro) <;> first | exact True.intro | omega | (simp; done) | rfl))) ?_
    intro i hi
    (try dsimp only at hi ⊢)
    by_cases hi2 : i < r.length
    · have hst := joinT_step hi2
      have hle := joinT_le r (i + 1)
      rw [hst] at hle
      simp only [List.length_append, List.length_cons, List.length_nil] at hle
      generalize hy : r[i] = g at *
      repeat (first
        | (apply axJ; (focus ((with_reducible constructor) <;> rfl)))
        | (apply awT mixedOK hΓ (by kernel_rfl); (simp (disch := (first | omega | (simp only [maxLen, List.length_append, List.length_cons, List.length_nil]; omega))) only [go_sem, ↓reduceIte, decide_eq_true, decide_eq_false, if_pos, if_neg, wrap_in, ↓lk, ↓if_pos, ↓if_neg, hy] <;> with_reducible rfl))
        | ((first | apply awR hΓ | apply awG | apply awH mixedOK hΓ rfl (by kernel_rfl) | apply ovE rfl); (simp (disch := (first | omega | (simp only [maxLen, List.length_append, List.length_cons, List.length_nil]; omega))) only [go_sem, ↓reduceIte, decide_eq_true, decide_eq_false, if_pos, if_neg, wrap_in, ↓lk, ↓if_pos, ↓if_neg, hy] <;> with_reducible rfl); exact trivial)
        | rfl)
      exact ⟨i + 1, by omega, by omega, by rw [hst]; exact Weak.v (by (simp [ConvF, lookV, Conv, ints, List.append_assoc]; done)) (by (simp (disch := omega) only [TabSub, look, if_pos, if_neg, Obj.refsOK, refsOKs, AV.refsOK, decide_eq_true_eq, Bool.and_true, Bool.and_self, List.append_assoc] ) <;> ((repeat' apply And.intro) <;> first | exact True.intro | omega | (simp; done) | rfl))⟩
    · have hi3 : i = r.length := by omega
      subst hi3
      rw [List.take_length]
      repeat (first
        | (apply axJ; (focus ((with_reducible constructor) <;> rfl)))
        | (apply awT mixedOK hΓ (by kernel_rfl); (simp (disch := omega) only [go_sem, ↓reduceIte, dk, ↓lk] <;> with_reducible rfl))
        | ((first | apply awR hΓ | apply awG | apply awH mixedOK hΓ rfl (by kernel_rfl) | apply ovE rfl); (simp (disch := omega) only [go_sem, ↓reduceIte, dk, ↓lk] <;> with_reducible rfl); exact trivial)
        | rfl)
      try rfl
end Go.Ab
namespace Go.Ab
open Go Go.RowKit Go.Proofs
set_option maxRecDepth 10000
set_option maxHeartbeats 8000000
theorem joinT_bd (M : Nat) : ∀ (l : List Bs), (∀ w ∈ l, w.length ≤ M) → (joinT l).length ≤ (M + 1) * l.length
  | [], _ => by simp [joinT]
  | w :: l, h => by
    have h1 := h w (by simp)
    have h2 := joinT_bd M l (fun x hx => h x (by simp [hx]))
    rw [joinT]
    simp only [List.length_append, List.length_cons, List.length_nil, Nat.mul_add]
    omega
def prGo (acc : List Bs) : List Stp → Option (List Bs)
  | [] => some acc
  | x :: r => if checkR x == 0 && !decide (x.line < acc.length) then prGo (acc ++ List.replicate (x.line.toNat - acc.length) [] ++ [textS x]) r else none
theorem prGo_drop {l : List Stp} {i : Nat} {acc : List Bs} (hi : i < l.length) : prGo acc (l.drop i) =
    if checkR l[i] == 0 && !decide (l[i].line < acc.length) then prGo (acc ++ List.replicate (l[i].line.toNat - acc.length) [] ++ [textS l[i]]) (l.drop (i + 1)) else none := by
  rw [List.drop_eq_getElem_cons hi, prGo]
def prEnd : Option (List Bs) → Bs × Int
  | none => ([], 1)
  | some ls => if (joinR ls).2 == 0 then ((joinR ls).1, 0) else ([], 10)
def printR (l : List Stp) : Bs × Int := if decide ((l.length : Int) > 64) then ([], 1) else if (l.length : Int) == 0 then ([], 0) else prEnd (prGo [] l)
theorem check_line {x : Stp} (h : (checkR x == 0) = true) : 0 ≤ x.line ∧ x.line < 1024 := by
  unfold checkR at h
  split at h
  · simp at h
  · rename_i h1
    simp only [Bool.or_eq_true, decide_eq_true_eq] at h1
    omega
noncomputable def g_print14 : List D → Option D := encSpec (fun x : (List Stp) => [.list (x.map eSt)]) (fun x : (List Stp) => x.length ≤ 1099511627776 ∧ ∀ w ∈ x, PX w) (fun x : (List Stp) => eSE (printR x))
theorem g_print14_eq {l : List Stp} (hd : l.length ≤ 1099511627776 ∧ ∀ w ∈ l, PX w) : g_print14 [.list (l.map eSt)] = some (eSE (printR l)) := encSpec_eq (x := l) hd fun y hy => by
    simp only [List.cons.injEq, and_true, true_and, D.str.injEq, D.int.injEq, D.list.injEq, D.bool.injEq, D.agg.injEq, D.clo.injEq, Int.natCast_inj, inj_ie, eSt_ie, eSts_ie] at hy
    rw [hy]
theorem f_print14_ok : PureOK Tryz.prog 15 false g_print14 := by
  have hΓ := Γp f_check14_ok (Γp f_text14_ok (Γp f_joinR3_ok (Γn)))
  refine pure_enc (n := 53) (rs := [.tmp 2, .tmp 3]) Tryz.func15 (by kernel_rfl) rfl (by kernel_rfl) (by kernel_rfl) ?_
  rintro l hd
  (try dsimp only at hd ⊢)
  refine ⟨fun h => (by cases h), fun k hz0 => ?_⟩
  obtain ⟨hl, hpx⟩ := hd
  unfold printR
  rw [start_frame (by simp)]; simp only [enumV, go_sem, emptyH]
  generalize hc1 : decide ((l.length : Int) > 64) = c1
  generalize hc2 : ((l.length : Int) == 0) = c2
  cases c1
  rotate_left
  · repeat (first
    | (apply axJ; (focus ((with_reducible constructor) <;> rfl)))
    | (apply awT mixedOK hΓ (by kernel_rfl); (simp (disch := omega) only [go_sem, ↓reduceIte, dk, ↓lk, hc1, hc2] <;> with_reducible rfl))
    | ((first | apply awR hΓ | apply awG | apply awH mixedOK hΓ rfl (by kernel_rfl) | apply ovE rfl); (simp (disch := omega) only [go_sem, ↓reduceIte, dk, ↓lk, hc1, hc2] <;> with_reducible rfl); exact trivial)
    | rfl)
    try rfl
  cases c2
  rotate_left
  · repeat (first
    | (apply axJ; (focus ((with_reducible constructor) <;> rfl)))
    | (apply awT mixedOK hΓ (by kernel_rfl); (simp (disch := omega) only [go_sem, ↓reduceIte, dk, ↓lk, hc1, hc2] <;> with_reducible rfl))
    | ((first | apply awR hΓ | apply awG | apply awH mixedOK hΓ rfl (by kernel_rfl) | apply ovE rfl); (simp (disch := omega) only [go_sem, ↓reduceIte, dk, ↓lk, hc1, hc2] <;> with_reducible rfl); exact trivial)
    | rfl)
    try rfl
  simp only [Bool.false_eq_true, if_false]
  repeat (first
    | (apply axJ; (focus ((with_reducible constructor) <;> rfl)))
    | (apply awT mixedOK hΓ (by kernel_rfl); (simp (disch := omega) only [go_sem, ↓reduceIte, dk, ↓lk, hc1, hc2] <;> with_reducible rfl))
    | ((first | apply awR hΓ | apply awG | apply awH mixedOK hΓ rfl (by kernel_rfl) | apply ovE rfl); (simp (disch := omega) only [go_sem, ↓reduceIte, dk, ↓lk, hc1, hc2] <;> with_reducible rfl); exact trivial)
    | rfl)
  refine awp_weak (Weak.nilrowF (i := 4) 9 (sz := 1) (by omega) (by omega) rfl) ?_
  refine awp_loop_at (X := Nat × List Bs) (fun y => (frame 53 [(4, .row 12 y.2.length), (15, .data (.list (l.map eSt))), (16, .data (i64 l.length)), (17, .data (i64 y.1))])) (fun y => [(12, .row 9 1 (y.2.map .str))]) 20
    (fun y => y.1 ≤ l.length ∧ prGo [] l = prGo y.2 (l.drop y.1) ∧ y.2.length ≤ 1024 ∧ ∀ w ∈ y.2, w.length ≤ 600000) (fun y => l.length - y.1) (0, [])
    ⟨Nat.zero_le _, rfl, Nat.zero_le _, fun w hw => by simp at hw⟩ (Weak.v (by (simp [ConvF, lookV, Conv, ints, upd]; done)) (by (simp (disch := omega) only [TabSub, look, if_pos, if_neg, Obj.refsOK, refsOKs, AV.refsOK, decide_eq_true_eq, Bool.and_true, Bool.and_self, upd] ) <;> ((repeat' apply And.intro) <;> first | exact True.intro | omega | (simp; done) | rfl))) ?_
  rintro ⟨i, acc⟩ ⟨h1, h2, h3, h4⟩
  dsimp only at h1 h2 h3 h4 ⊢
  by_cases hi : i < l.length
  · have hx := hpx _ (List.getElem_mem hi)
    have e1 := g_check14_eq hx
    have e2 := g_text14_eq hx.tx
    have htb := textS_bd l[i]
    have hcl := check_line (x := l[i])
    rw [prGo_drop hi] at h2
    rw [eSt_eq] at e1
    generalize hy : l[i] = x at *
    have hts : (textS x).length ≤ 600000 := by have := hx.i; have := hx.u; have := hx.w; have := hx.o; omega
    generalize textS x = tx at *
    generalize checkR x = cr at *
    generalize hz : (cr == 0) = z at *
    have hz2 : (cr != 0) = !z := by rw [← hz]; rfl
    generalize hq : decide (x.line < (acc.length : Int)) = q at *
    cases z
    · simp only [Bool.false_and, Bool.false_eq_true, if_false] at h2
      rw [h2]
      repeat (first
        | (apply axJ; (focus ((with_reducible constructor) <;> rfl)))
        | (apply awT mixedOK hΓ (by kernel_rfl); (simp (disch := omega) only [go_sem, ↓reduceIte, dk, ↓lk, hy, e1, hz, hz2, Int.reduceBEq, Int.reduceBNe, Bool.true_bne, Bool.false_bne, Bool.not_true, Bool.not_false] <;> with_reducible rfl))
        | ((first | apply awR hΓ | apply awG | apply awH mixedOK hΓ rfl (by kernel_rfl) | apply ovE rfl); (simp (disch := omega) only [go_sem, ↓reduceIte, dk, ↓lk, hy, e1, hz, hz2, Int.reduceBEq, Int.reduceBNe, Bool.true_bne, Bool.false_bne, Bool.not_true, Bool.not_false] <;> with_reducible rfl); exact trivial)
        | rfl)
      try rfl
    cases q
    rotate_left
    · simp only [Bool.not_true, Bool.and_false, Bool.false_eq_true, if_false] at h2
      rw [h2]
      repeat (first
        | (apply axJ; (focus ((with_reducible constructor) <;> rfl)))
        | (apply awT mixedOK hΓ (by kernel_rfl); (simp (disch := omega) only [go_sem, ↓reduceIte, dk, ↓lk, hy, e1, hz, hz2, hq, Int.reduceBEq, Int.reduceBNe, Bool.true_bne, Bool.false_bne, Bool.not_true, Bool.not_false] <;> with_reducible rfl))
        | ((first | apply awR hΓ | apply awG | apply awH mixedOK hΓ rfl (by kernel_rfl) | apply ovE rfl); (simp (disch := omega) only [go_sem, ↓reduceIte, dk, ↓lk, hy, e1, hz, hz2, hq, Int.reduceBEq, Int.reduceBNe, Bool.true_bne, Bool.false_bne, Bool.not_true, Bool.not_false] <;> with_reducible rfl); exact trivial)
        | rfl)
      try rfl
    obtain ⟨l0, l1⟩ := hcl rfl
    have hql : (acc.length : Int) ≤ x.line := by have := of_decide_eq_false hq; omega
    simp only [Bool.not_false, Bool.and_true, if_true] at h2
    repeat (first
      | (apply axJ; (focus ((with_reducible constructor) <;> rfl)))
      | (apply awT mixedOK hΓ (by kernel_rfl); (simp (disch := omega) only [go_sem, ↓reduceIte, dk, ↓lk, hy, e1, hz, hz2, hq, Int.reduceBEq, Int.reduceBNe, Bool.true_bne, Bool.false_bne, Bool.not_true, Bool.not_false] <;> with_reducible rfl))
      | ((first | apply awR hΓ | apply awG | apply awH mixedOK hΓ rfl (by kernel_rfl) | apply ovE rfl); (simp (disch := omega) only [go_sem, ↓reduceIte, dk, ↓lk, hy, e1, hz, hz2, hq, Int.reduceBEq, Int.reduceBNe, Bool.true_bne, Bool.false_bne, Bool.not_true, Bool.not_false] <;> with_reducible rfl); exact trivial)
      | rfl)
    refine awp_loop_at (X := List Bs) (fun a => (frame 53 [(4, .row 12 a.length), (6, .ptr 23 0), (15, .data (.list (l.map eSt))), (16, .data (i64 l.length)), (17, .data (i64 i))])) (fun a => [(12, .row 9 1 (a.map .str)), (23, .box [.data (.int .i64 x.line), .data (.int .i64 x.kind), .data (.list (x.inn.map .str)), .data (.list (x.usg.map .str)), .data (.list (x.wds.map .str)), .data (.str x.out)])]) 40
      (fun a => a = acc ++ List.replicate (a.length - acc.length) [] ∧ acc.length ≤ a.length ∧ (a.length : Int) ≤ x.line) (fun a => x.line.toNat - a.length) acc ⟨by simp, Nat.le_refl _, hql⟩ (Weak.w) ?_
    rintro a ⟨k1, k2, k3⟩
    (try dsimp only at k1 k2 k3 ⊢)
    by_cases hlt : (a.length : Int) < x.line
    · repeat (first
      | (apply axJ; (focus ((with_reducible constructor) <;> rfl)))
      | (apply awT mixedOK hΓ (by kernel_rfl); (simp (disch := omega) only [go_sem, ↓reduceIte, dk, ↓lk] <;> with_reducible rfl))
      | ((first | apply awR hΓ | apply awG | apply awH mixedOK hΓ rfl (by kernel_rfl) | apply ovE rfl); (simp (disch := omega) only [go_sem, ↓reduceIte, dk, ↓lk] <;> with_reducible rfl); exact trivial)
      | rfl)
      refine ⟨a ++ [[]], ⟨?_, ?_, ?_⟩, ?_, ?_⟩
      · rw [List.length_append, List.length_singleton, show a.length + 1 - acc.length = (a.length - acc.length) + 1 by omega, List.replicate_succ', ← List.append_assoc, ← k1]
      · rw [List.length_append, List.length_singleton]; omega
      · rw [List.length_append, List.length_singleton]; omega
      · rw [List.length_append, List.length_singleton]; omega
      · have hm : (a ++ [[]]).map D.str = a.map D.str ++ [.str []] := by rw [List.map_append]; rfl
        rw [List.length_append, List.length_singleton]
        exact Weak.v (by (simp [ConvF, lookV, Conv, ints, hm]; done)) (by (simp (disch := omega) only [TabSub, look, if_pos, if_neg, Obj.refsOK, refsOKs, AV.refsOK, decide_eq_true_eq, Bool.and_true, Bool.and_self, hm] ) <;> ((repeat' apply And.intro) <;> first | exact True.intro | omega | (simp; done) | rfl))
    · have hal : (a.length : Int) = x.line := by omega
      have hal2 : x.line.toNat = a.length := by omega
      rw [hal2, ← k1] at h2
      repeat (first
        | (apply axJ; (focus ((with_reducible constructor) <;> rfl)))
        | (apply awT mixedOK hΓ (by kernel_rfl); (simp (disch := omega) only [go_sem, ↓reduceIte, dk, ↓lk, e2] <;> with_reducible rfl))
        | ((first | apply awR hΓ | apply awG | apply awH mixedOK hΓ rfl (by kernel_rfl) | apply ovE rfl); (simp (disch := omega) only [go_sem, ↓reduceIte, dk, ↓lk, e2] <;> with_reducible rfl); exact trivial)
        | rfl)
      refine ⟨(i + 1, a ++ [tx]), ⟨by dsimp only; omega, h2, ?_, ?_⟩, by dsimp only; omega, ?_⟩
      · dsimp only; rw [List.length_append, List.length_singleton]; omega
      · dsimp only
        intro w hw
        rcases List.mem_append.1 hw with hw | hw
        · rw [k1] at hw
          rcases List.mem_append.1 hw with hw | hw
          · exact h4 w hw
          · rw [(List.mem_replicate.1 hw).2]; simp
        · rw [List.mem_singleton.1 hw]; exact hts
      · have hm : (a ++ [tx]).map D.str = a.map D.str ++ [.str tx] := by rw [List.map_append]; rfl
        dsimp only
        rw [List.length_append, List.length_singleton]
        exact Weak.v (by (simp [ConvF, lookV, Conv, ints, hm]; done)) (by (simp (disch := omega) only [TabSub, look, if_pos, if_neg, Obj.refsOK, refsOKs, AV.refsOK, decide_eq_true_eq, Bool.and_true, Bool.and_self, hm] ) <;> ((repeat' apply And.intro) <;> first | exact True.intro | omega | (simp; done) | rfl))
  · have hi3 : i = l.length := by omega
    subst hi3
    rw [List.drop_length] at h2
    have h2 : prGo [] l = some acc := h2
    rw [h2]
    have hjb := joinT_bd 600000 acc h4
    have e4 := g_joinR3_eq (l := acc) (by omega)
    have hpe : prEnd (some acc) = if (joinR acc).2 == 0 then ((joinR acc).1, 0) else ([], 10) := rfl
    rw [hpe]
    rcases hj : joinR acc with ⟨js, je⟩
    rw [hj] at e4
    replace e4 : g_joinR3 [.list (acc.map .str)] = some (.tup [.str js, .int .i64 je]) := e4
    dsimp only
    generalize hz : (je == 0) = z at *
    have hz2 : (je != 0) = !z := by rw [← hz]; rfl
    refine awp_weak ((Weak.freeze (o := 12) rfl).trans (show Weak _ _ _ ((frame 53 [(4, .data (.list (acc.map .str))), (16, .data (i64 l.length)), (17, .data (i64 l.length))])) ⟨[], 20⟩ from Weak.v (by (simp [ConvF, lookV, Conv, ints, upd, Heap.set, Heap.get, look]; done)) (by (simp (disch := omega) only [TabSub, look, if_pos, if_neg, Obj.refsOK, refsOKs, AV.refsOK, decide_eq_true_eq, Bool.and_true, Bool.and_self, upd, Heap.set, Heap.get, look] ) <;> ((repeat' apply And.intro) <;> first | exact True.intro | omega | (simp; done) | rfl)))) ?_
    cases z
    · repeat (first
      | (apply axJ; (focus ((with_reducible constructor) <;> rfl)))
      | (apply awT mixedOK hΓ (by kernel_rfl); (simp (disch := omega) only [go_sem, ↓reduceIte, dk, ↓lk, e4, hz, hz2, Int.reduceBEq, Int.reduceBNe, Bool.true_bne, Bool.false_bne, Bool.not_true, Bool.not_false] <;> with_reducible rfl))
      | ((first | apply awR hΓ | apply awG | apply awH mixedOK hΓ rfl (by kernel_rfl) | apply ovE rfl); (simp (disch := omega) only [go_sem, ↓reduceIte, dk, ↓lk, e4, hz, hz2, Int.reduceBEq, Int.reduceBNe, Bool.true_bne, Bool.false_bne, Bool.not_true, Bool.not_false] <;> with_reducible rfl); exact trivial)
      | rfl)
      try rfl
    · repeat (first
      | (apply axJ; (focus ((with_reducible constructor) <;> rfl)))
      | (apply awT mixedOK hΓ (by kernel_rfl); (simp (disch := omega) only [go_sem, ↓reduceIte, dk, ↓lk, e4, hz, hz2, Int.reduceBEq, Int.reduceBNe, Bool.true_bne, Bool.false_bne, Bool.not_true, Bool.not_false] <;> with_reducible rfl))
      | ((first | apply awR hΓ | apply awG | apply awH mixedOK hΓ rfl (by kernel_rfl) | apply ovE rfl); (simp (disch := omega) only [go_sem, ↓reduceIte, dk, ↓lk, e4, hz, hz2, Int.reduceBEq, Int.reduceBNe, Bool.true_bne, Bool.false_bne, Bool.not_true, Bool.not_false] <;> with_reducible rfl); exact trivial)
      | rfl)
      try rfl
end Go.Ab
