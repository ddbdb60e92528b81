/-
  One text of the proof (own work): contracts of functions of the program, by the abstract machine.
-/
import Derived.Shelf.Slices.Delete
import Derived.Test.YtlfmbcjjojedgaaGreatDoorX19
import Derived.Test.YtlfmbcjjojedgaaGreatDoorX38
import Derived.Test.YtlfmbcjjojedgaaGreatDoorX17
set_option linter.unusedVariables false
set_option linter.unusedSimpArgs false
namespace Go.Ab
open Go Go.RowKit
section
variable {P : Program} {c : Ctx} {Γ : FuncId → Option CSpec} {H H' : Heap} {θ θ' : Nat → Value} {w w' : World} {sl : List AV} {a : Act} {o : Oper} {r : AV}
def fullcut (P : Program) (sl : List AV) (H : Heap) (op : Op) : Option AV := match op with
  | .slice t x none (some hi) none => match aev sl x, aev sl hi with
    | .row ob n, .data (.int _ m) => match H.get ob, P.underlying t with
      | some (.row _ _ l), some (.slice e) => match tsize P e with
        | some _ => if l.length = n ∧ m = (n : Int) then some (.row ob n) else none
        | _ => none
      | _, _ => none
    | _, _ => none
  | _ => none
theorem y_full (hs : St c H θ w sl a) (h : fullcut P sl H o.op = some r) : Yields P c o a w sl H θ r H := by
  unfold fullcut at h
  split at h
  · rename_i t x hi ho
    split at h
    · rename_i ob n k m hx hh
      split at h
      · rename_i e0 s0 l e hg hu
        split at h
        · rename_i sz hsz
          split at h
          · rename_i hc
            obtain ⟨hn, rfl⟩ := hc
            cases h
            have h1 := aev_sound hs x
            rw [hx] at h1
            have h2 := aev_sound hs hi
            rw [hh] at h2
            have h3 := h2.data_inv.int_eq
            obtain ⟨hv, ao, cap, hvs⟩ := row_val hs.sim h1 hg hn
            obtain ⟨_, _, _, vs, hown, _, _⟩ := row_cells hs.sim hg
            rw [← hv, hvs] at hown
            have hcap : n ≤ cap := by
              rcases hown.2 with ⟨h4, h5⟩ | ⟨g, cap', cur, h4, _, _, h5, _⟩
              · omega
              · cases h4; omega
            refine .read hs (v := a.eval x) ?_ h1
            have hb : (Instr.sliceBounds true n cap none (some (.int k (n : Int))) none).run P w = .ok (0, n, cap) w := bounds_run (.inr ⟨_, rfl, by
              have : 0 ≤ (n : Int) ∧ (n : Int) ≤ (cap : Int) := by omega
              simp [Instr.sliceBound, asIntOf, this]⟩) (.inl ⟨rfl, rfl⟩)
            have hao : (if cap = 0 then ao else ao.map (·.add (0 * sz))) = ao := by
              split
              · rfl
              · cases ao <;> simp [Addr.add]
            simp only [execOp, ho, Instr.sliceAt, Sem.run_bind, run_underlying hu, Result.andThen_ok, hvs, h3, Instr.slice, Option.map_none, Option.map_some, hb, run_sizeOf' hsz, Sem.run_pure, hao, Nat.sub_zero]
          · cases h
        · cases h
      · cases h
    · cases h
  · cases h
def runOpF (P : Program) (Γ : FuncId → Option CSpec) (k : Nat) (ops : Array Oper) (o : Oper) (sl : List AV) (H : Heap) : Option (List AV × Heap) := match wantedA ops sl o with
  | some true => match fullcut P sl H o.op with
    | some r => some (putA sl o.dst r, H)
    | none => match astep P Γ false k sl H o.op with
      | some (r, H') => some (putA sl o.dst r, H')
      | none => none
  | some false => some (putA sl o.dst (.tup []), H)
  | none => none
def runOpsF (P : Program) (Γ : FuncId → Option CSpec) (ops : Array Oper) : Nat → List Oper → List AV → Heap → Option (List AV × Heap)
  | k, [], sl, H => some (sl, H.bump k)
  | k, o :: l, sl, H => match runOpF P Γ k ops o sl H with
    | some (sl', H') => runOpsF P Γ ops (nextK k H') l sl' H'
    | none => none
theorem runOpsF_sound {ops : Array Oper} (hΓ : ∀ f s, Γ f = some s → SpecOK P f s) {Q : Exit → Act → World → Prop} : ∀ (l : List Oper) (k : Nat) (sl : List AV) (H : Heap) (θ : Nat → Value) (w : World) (a : Act) (sl' : List AV) (H' : Heap),
    runOpsF P Γ ops k l sl H = some (sl', H') → St c H θ w sl a → H.bnd k → H.next ≤ k → (∀ a' w' θ', St c H' θ' w' sl' a' → H'.bnd H'.next → k ≤ H'.next → Kept c w w' → HLe H θ H' θ' → Q .normal a' w') → wpList P ops Q l a w
  | [], k, sl, H, θ, w, a, sl', H', h, hs, hb, hn, hQ => by
    simp only [runOpsF, Option.some.injEq, Prod.mk.injEq] at h
    obtain ⟨rfl, rfl⟩ := h
    exact hQ a w θ (hs.bump hn) (fun o ho => hb o ho) (Nat.le_refl _) (Kept.refl c w) (HLe.bump hn)
  | o :: l, k, sl, H, θ, w, a, sl', H', h, hs, hb, hn, hQ => by
    simp only [runOpsF] at h
    split at h
    · rename_i sl1 H1 h1
      unfold runOpF at h1
      split at h1
      · rename_i hw
        have hwant := wanted_sound hs hw
        have key : ∀ r H2, Yields P c o a w sl H θ r H2 → KeyOK H H2 k → sl1 = putA sl o.dst r → H1 = H2 → wpList P ops Q (o :: l) a w := by
          rintro r H2 hy hkey rfl rfl
          refine wpList_step fun K hK => ?_
          rw [if_pos hwant]
          refine hy K Q fun v w' θ' hv hs' hk' hl' => hK _ _ ?_
          refine runOpsF_sound hΓ l (nextK k H1) _ _ θ' w' _ sl' H' h (hs'.putA hv _) hkey.2 (nextK_ge _ _) fun a' w2 θ2 hs2 hb2 hn2 hk2 hl2 => hQ a' w2 θ2 hs2 hb2 (by have := nextK_gt k H1; omega) (hk'.trans hk2) (hl'.trans hl2)
        split at h1
        · rename_i r hf
          simp only [Option.some.injEq, Prod.mk.injEq] at h1
          exact key r H (y_full hs hf) ((KeyLe.refl H k).ok hb) h1.1.symm h1.2.symm
        · split at h1
          · rename_i r H2 hstep
            simp only [Option.some.injEq, Prod.mk.injEq] at h1
            obtain ⟨hy, hkey⟩ := astep_sound hΓ hs hb hn hstep
            exact key r H2 hy hkey h1.1.symm h1.2.symm
          · cases h1
      · rename_i hw
        have hwant := wanted_sound hs hw
        simp only [Option.some.injEq, Prod.mk.injEq] at h1
        obtain ⟨rfl, rfl⟩ := h1
        refine wpList_step fun K hK => ?_
        rw [if_neg (by rw [hwant]; simp)]
        refine hK _ _ ?_
        exact runOpsF_sound hΓ l (nextK k H) _ _ θ w _ sl' H' h (hs.putA vr_undef _) (fun p hp => by have := hb p hp; have := nextK_gt k H; omega) (nextK_ge _ _) fun a' w2 θ2 hs2 hb2 hn2 hk2 hl2 => hQ a' w2 θ2 hs2 hb2 (by have := nextK_gt k H; omega) hk2 hl2
      · cases h1
    · cases h
theorem awp_regF {id n m : Nat} {ops : Array Oper} {tab tab' : List (Nat × Obj)} {Q : Exit → List AV → Heap → Prop} {sl' : List AV} (hΓ : ∀ f s, Γ f = some s → SpecOK P f s)
    (h : runOpsF P Γ ops n ops.toList sl ⟨tab, n⟩ = some (sl', ⟨tab', m⟩)) (hQ : Q .normal sl' ⟨tab', m⟩) : awp P c (.region id ops false) Q sl ⟨tab, n⟩ := by
  intro θ w a hs
  refine wp_region_list ?_
  refine runOpsF_sound hΓ ops.toList n sl ⟨tab, n⟩ θ w a sl' ⟨tab', m⟩ h hs.st hs.wf (Nat.le_refl _) fun a' w' θ' hs' hb hn hk hl => ?_
  exact ⟨sl', _, θ', hQ, ⟨hs', hb, Nat.le_trans hs.base hn⟩, hk, hl.evo hs.base⟩
theorem awRF {id n m : Nat} {ops : Array Oper} {tab tab' : List (Nat × Obj)} {Q : Exit → List AV → Heap → Prop} {sl' : List AV} (hΓ : ∀ f s, Γ f = some s → SpecOK P f s) (h : runOpsF P Γ ops n ops.toList sl ⟨tab, n⟩ = some (sl', ⟨tab', m⟩)) (_ : True) (hQ : Q .normal sl' ⟨tab', m⟩) : awp P c (.region id ops false) Q sl ⟨tab, n⟩ := awp_regF hΓ h hQ
end
attribute [go_sem] runOpsF runOpF fullcut
end Go.Ab
namespace Go.Ab
open Go Go.RowKit Go.Proofs Go.Shelf Go.Sort
set_option maxRecDepth 10000
set_option maxHeartbeats 8000000
def shRenD : Ren := ⟨fun | 24 => 43 | n => n, fun | 24 => 42 | n => n, fun n => n⟩
theorem layD24 : Lays2.n24 Tryz.prog shRenD := {
  mixed := by kernel_rfl
  f24 := by kernel_rfl
  t0 := by kernel_rfl
  a0 := by intro w; kernel_rfl
  z0 := by intro w; kernel_rfl
  v0 := by intro w; kernel_rfl
  t3 := by kernel_rfl
  a3 := by intro w; kernel_rfl
  z3 := by intro w; kernel_rfl
  v3 := by intro w; kernel_rfl
  t4 := by kernel_rfl
  a4 := by intro w; kernel_rfl
  z4 := by intro w; kernel_rfl
  v4 := by intro w; kernel_rfl
  t9 := by kernel_rfl
  a9 := by intro w; kernel_rfl
  z9 := by intro w; kernel_rfl
  v9 := by intro w; kernel_rfl
  t24 := by kernel_rfl
  a24 := by intro w; kernel_rfl
  z24 := by intro w; kernel_rfl
  v24 := by intro w; kernel_rfl
  i9 := by kernel_rfl }
def delOut (y : List D × Nat × Nat) : List D := ((y.1.map unS).take y.2.1 ++ (y.1.map unS).drop y.2.2).map .str
noncomputable def g_delS := locSpec (fun y : List D × Nat × Nat => [.row 0 y.1.length, .data (.int .i64 (y.2.1 : Int)), .data (.int .i64 (y.2.2 : Int))]) (fun y => [.row 9 1 y.1]) (fun y => strsD y.1 ∧ y.2.1 < y.2.2 ∧ y.2.2 ≤ y.1.length) (fun y => (.row 1 (delOut y).length, [.dead, .row 9 1 (delOut y)]))
theorem f_delS_ok : LocOK Tryz.prog 43 g_delS := loc_row1d Tryz.func43 (by kernel_rfl) (by kernel_rfl)
  (fun y hy => by
    obtain ⟨⟨ss, h1, _⟩, _⟩ := hy
    rw [h1]
    exact ⟨strs_scalar _, strs_scalar _⟩)
  fun y hy w v hv => by
    obtain ⟨l, i, j⟩ := y
    obtain ⟨⟨ss, h1, hs⟩, hij, hj⟩ := hy
    dsimp only at h1 hij hj hv ⊢
    subst h1
    unfold delOut
    dsimp only
    rw [unS_map, strs_val] at *
    rw [List.length_map] at hv hj
    rcases hv.2 with ⟨rfl, h0⟩ | ⟨g, cap, cur, rfl, _, ⟨fr, hb, hso⟩, hnc, hcm, hcz, ht⟩
    · exfalso
      omega
    · rw [Nat.mul_one] at ht
      have hm : cap ≤ 9223372036854775807 := Nat.le_trans hcm (by decide)
      refine (Any.slices_Delete_string layD24 g 0 cap i j ss w (holds_soft hb hso (by omega) ht) hnc hm (by omega) hj).mono ?_
      rintro e w' ⟨rfl, n, rfl⟩
      have h := turn_put (w := w) (n := ss.length) (ds := ss.take i ++ ss.drop j ++ List.replicate (j - i) []) (ts := ss.take i ++ ss.drop j) (q := n) (os := #[]) hb hso (by simp; omega) hcm hcz (List.prefix_append _ _)
      rw [grow_empty] at h
      have hl : (ss.take i ++ ss.drop j).length = ss.length - (j - i) := by simp; omega
      rw [hl] at h
      exact ⟨_, rfl, h⟩
theorem g_delS_eq {ss : List Bs} {i : Nat} (h : ss.length ≤ 1000000000) (hi : i < ss.length) : g_delS [.row 0 ss.length, .data (.int .i64 (i : Int)), .data (.int .i64 ((i : Int) + 1))] [.row 9 1 (ss.map .str)] = some (.row 1 (ss.eraseIdx i).length, [.dead, .row 9 1 ((ss.eraseIdx i).map .str)]) := by
  have := locSpec_eq (enc := fun y : List D × Nat × Nat => [AV.row 0 y.1.length, .data (.int .i64 (y.2.1 : Int)), .data (.int .i64 (y.2.2 : Int))]) (eno := fun y => [Obj.row 9 1 y.1]) (dom := fun y => strsD y.1 ∧ y.2.1 < y.2.2 ∧ y.2.2 ≤ y.1.length) (out := fun y => (AV.row 1 (delOut y).length, [Obj.dead, Obj.row 9 1 (delOut y)])) (x := (ss.map D.str, i, i + 1)) ⟨⟨ss, rfl, h⟩, Nat.lt_succ_self _, by simp; omega⟩ (fun y hy1 hy2 => by
    obtain ⟨y1, y2, y3⟩ := y
    simp only [List.cons.injEq, Obj.row.injEq, AV.data.injEq, D.int.injEq, and_true, true_and, Int.natCast_inj] at hy1 hy2
    obtain ⟨_, rfl, rfl⟩ := hy1
    rw [hy2])
  unfold delOut at this
  dsimp only at this
  rw [unS_map, List.length_map, List.length_map, ← List.eraseIdx_eq_take_drop_succ] at this
  exact this
noncomputable def g_genSplitO : List D → Option (TypeId × Nat × List D) := encSpec (fun x : Bs × UInt8 => [.str x.1, .str [x.2], i64 0, i64 (-1)]) (fun x : Bs × UInt8 => x.1.length ≤ 1099511627776) (fun x : Bs × UInt8 => (9, 1, (splitB x.2 x.1).map .str))
theorem g_genSplitO_eq {s : Bs} {c : UInt8} (hd : s.length ≤ 1099511627776) : g_genSplitO [.str s, .str [c], .int .i64 0, .int .i64 (-1)] = some (9, 1, (splitB c s).map .str) := encSpec_eq (x := (s, c)) hd fun y hy => by
  obtain ⟨y0, y1⟩ := y
  simp only [List.cons.injEq, and_true, D.str.injEq] at hy
  obtain ⟨rfl, rfl⟩ := hy
  rfl
theorem strs_elems (l : List Bs) : elemsOK 1 (l.map D.str) = true := elemsOK_map (f := D.str) (sz := 1) (fun _ => ⟨rfl, rfl⟩) l
theorem f_genSplitO_ok : OwnOK Tryz.prog 77 g_genSplitO := by
  have hΓ := Γp f_idx1_ok (Γp f_cnt1_ok (Γn))
  refine own_enc (n := 66) (rs := [.tmp 8]) Tryz.func77 (by kernel_rfl) rfl (by kernel_rfl) (by kernel_rfl) ?_
  rintro ⟨s, c⟩ hd
  dsimp only at hd ⊢
  refine ⟨⟨by decide, strs_elems _⟩, fun k hz0 => ?_⟩
  have e1 := g_cnt1_eq (s := s) (b := c) hd
  have hcn := split_count c s
  have hcl : s.count c ≤ s.length := List.count_le_length
  rw [show Lib.countByte s c = s.count c from rfl] at e1
  generalize s.count c = n at *
  have hmin : min ((n : Int) + 1) ((s.length : Int) + 1) = (n : Int) + 1 := by omega
  have hne : ([c] == ([] : Bs)) = false := rfl
  have hn1 : ((n : Int) + 1).toNat = n + 1 := by omega
  have hn2 : (n : Int) + 1 - 1 = n := by omega
  rw [start_frame (by simp)]; simp only [enumV, go_sem, emptyH]
  repeat (first
    | (apply axJ; (focus ((with_reducible constructor) <;> rfl)))
    | (apply awT mixedOK hΓ (by kernel_rfl); (simp (disch := omega) only [go_sem, ↓reduceIte, dk, ↓lk, Int.reduceBEq, Int.reduceBNe, Bool.true_bne, Bool.false_bne, Bool.not_true, Bool.not_false, e1, hmin, hne, hn1, hn2] <;> with_reducible rfl))
    | ((first | apply awR hΓ | apply awG | apply awH mixedOK hΓ rfl (by kernel_rfl) | apply ovE rfl); (simp (disch := omega) only [go_sem, ↓reduceIte, dk, ↓lk, Int.reduceBEq, Int.reduceBNe, Bool.true_bne, Bool.false_bne, Bool.not_true, Bool.not_false, e1, hmin, hne, hn1, hn2] <;> with_reducible rfl); exact trivial)
    | rfl)
  refine awp_loop_at (X := Nat × Bs) (fun y => (frame 66 [(0, .data (.str y.2)), (1, .data (.str [c])), (2, .data (i64 0)), (3, .data (i64 n)), (9, .row 19 (n + 1)), (10, .data (i64 y.1))])) (fun y => [(19, .row 9 1 (((splitB c s).take y.1 ++ List.replicate (n + 1 - y.1) []).map .str))]) 25
    (fun y => y.1 ≤ n ∧ splitB c s = (splitB c s).take y.1 ++ splitB c y.2 ∧ y.2.length ≤ s.length) (fun y => n + 1 - y.1) (0, s)
    ⟨Nat.zero_le _, rfl, Nat.le_refl _⟩ (Weak.v (by (simp [ConvF, lookV, Conv, ints, List.map_replicate, List.take_zero, List.nil_append, Nat.sub_zero]; done)) (by (simp (disch := omega) only [TabSub, look, if_pos, if_neg, Obj.refsOK, refsOKs, AV.refsOK, decide_eq_true_eq, Bool.and_true, Bool.and_self, List.map_replicate, List.take_zero, List.nil_append, Nat.sub_zero] ) <;> ((repeat' apply And.intro) <;> first | exact True.intro | omega | (simp; done) | rfl))) ?_
  rintro ⟨i, r⟩ ⟨h1, h2, h3⟩
  dsimp only at h1 h2 h3 ⊢
  have e2 := g_idx1_eq (s := r) (b := c) (Nat.le_trans h3 hd)
  have hlt : ((splitB c s).take i).length = i := by rw [List.length_take]; omega
  have hsl := congrArg List.length h2
  rw [List.length_append, hlt, hcn, split_count] at hsl
  have hnext : ∀ w : Bs, i ≤ n → ((splitB c s).take i ++ List.replicate (n + 1 - i) ([] : Bs)).set i w = (splitB c s).take i ++ w :: List.replicate (n - i) [] := fun w hi => by
    rw [List.set_append_right _ _ (by omega), hlt, Nat.sub_self, show n + 1 - i = (n - i) + 1 by omega, List.replicate_succ, List.set_cons_zero]
  have hset : ∀ w : Bs, (((splitB c s).take i ++ List.replicate (n + 1 - i) ([] : Bs)).map D.str).set i (D.str w) = ((splitB c s).take i ++ w :: List.replicate (n - i) []).map D.str := fun w => by
    rw [← hnext w h1, List.map_set]
  have hll : ((splitB c s).take i ++ List.replicate (n + 1 - i) ([] : Bs)).length = n + 1 := by rw [List.length_append, hlt, List.length_replicate]; omega
  have hnl : ∀ w : Bs, ((splitB c s).take i ++ w :: List.replicate (n - i) ([] : Bs)).length = n + 1 := fun w => by rw [List.length_append, hlt, List.length_cons, List.length_replicate]; omega
  generalize hM : (splitB c s).take i ++ List.replicate (n + 1 - i) ([] : Bs) = M at *
  have hend : splitB c r = [r] → splitB c s = (splitB c s).take i ++ [r] := fun h => by rw [h] at h2; exact h2
  by_cases hi : i < n
  · rcases idx_split c r with ⟨k1, k2⟩ | ⟨m, k1, k2, k3⟩
    · exfalso
      have := congrArg List.length k2
      rw [split_count] at this
      simp only [List.length_singleton] at this
      omega
    · rw [k1] at e2
      rw [k3] at h2
      have hm0 : decide ((m : Int) < 0) = false := decide_eq_false (by omega)
      have hm1 : ((m : Int) + 1).toNat = m + 1 := by omega
      have hdr : List.take (r.length - (m + 1)) (List.drop (m + 1) r) = List.drop (m + 1) r := List.take_of_length_le (by rw [List.length_drop]; omega)
      have htk : (splitB c s).take (i + 1) = (splitB c s).take i ++ [r.take m] := by
        generalize splitB c s = L at *
        generalize hA : L.take i = A at *
        rw [h2, List.take_append, hlt, show i + 1 - i = 1 by omega, List.take_of_length_le (by omega)]
        rfl
      have hrow : (splitB c s).take (i + 1) ++ List.replicate (n + 1 - (i + 1)) ([] : Bs) = (splitB c s).take i ++ r.take m :: List.replicate (n - i) [] := by
        rw [htk, show n + 1 - (i + 1) = n - i by omega, List.append_assoc]
        rfl
      repeat (first
        | (apply axJ; (focus ((with_reducible constructor) <;> rfl)))
        | (apply awT mixedOK hΓ (by kernel_rfl); (simp (disch := omega) only [go_sem, ↓reduceIte, dk, ↓lk, Int.reduceBEq, Int.reduceBNe, Bool.true_bne, Bool.false_bne, Bool.not_true, Bool.not_false, e2, hm0, hset, hll, hnl, Int.add_zero, Nat.sub_zero, Int.natCast_one, hm1, hdr] <;> with_reducible rfl))
        | ((first | apply awR hΓ | apply awG | apply awH mixedOK hΓ rfl (by kernel_rfl) | apply ovE rfl); (simp (disch := omega) only [go_sem, ↓reduceIte, dk, ↓lk, Int.reduceBEq, Int.reduceBNe, Bool.true_bne, Bool.false_bne, Bool.not_true, Bool.not_false, e2, hm0, hset, hll, hnl, Int.add_zero, Nat.sub_zero, Int.natCast_one, hm1, hdr] <;> with_reducible rfl); exact trivial)
        | rfl)
      refine ⟨(i + 1, r.drop (m + 1)), ⟨by dsimp only; omega, ?_, by dsimp only; rw [List.length_drop]; omega⟩, by dsimp only; omega, Weak.v (by (simp [ConvF, lookV, Conv, ints, hrow]; done)) (by (simp (disch := omega) only [TabSub, look, if_pos, if_neg, Obj.refsOK, refsOKs, AV.refsOK, decide_eq_true_eq, Bool.and_true, Bool.and_self, hrow] ) <;> ((repeat' apply And.intro) <;> first | exact True.intro | omega | (simp; done) | rfl))⟩
      dsimp only
      rw [htk, List.append_assoc]
      exact h2
  · have hin : i = n := by omega
    have hr : splitB c r = [r] := by
      rcases idx_split c r with ⟨k1, k2⟩ | ⟨m, k1, k2, k3⟩
      · exact k2
      · exfalso
        have := congrArg List.length k3
        rw [split_count] at this
        have := split_count c (r.drop (m + 1))
        simp only [List.length_cons] at *
        omega
    have h4 := hend hr
    subst hin
    have hfin : splitB c s = ((splitB c s).take i ++ r :: List.replicate (i - i) []) := by
      rw [Nat.sub_self]
      exact h4
    repeat (first
      | (apply axJ; (focus ((with_reducible constructor) <;> rfl)))
      | (apply awT mixedOK hΓ (by kernel_rfl); (simp (disch := omega) only [go_sem, ↓reduceIte, dk, ↓lk, Int.reduceBEq, Int.reduceBNe, Bool.true_bne, Bool.false_bne, Bool.not_true, Bool.not_false, hset, hll, hnl, Int.add_zero] <;> with_reducible rfl))
      | ((first | apply awRF hΓ | apply awG | apply awH mixedOK hΓ rfl (by kernel_rfl) | apply ovE rfl); (simp (disch := omega) only [go_sem, ↓reduceIte, dk, ↓lk, Int.reduceBEq, Int.reduceBNe, Bool.true_bne, Bool.false_bne, Bool.not_true, Bool.not_false, hset, hll, hnl, Int.add_zero] <;> with_reducible rfl); exact trivial)
      | rfl)
    rw [← hfin]
    have hml : ((splitB c s).map D.str).length = i + 1 := by rw [List.length_map]; exact hcn
    exact ⟨rfl, 19, by rw [hml]; rfl, rfl⟩
noncomputable def g_splitO : List D → Option (TypeId × Nat × List D) := encSpec (fun x : Bs × UInt8 => [.str x.1, .str [x.2]]) (fun x : Bs × UInt8 => x.1.length ≤ 1099511627776) (fun x : Bs × UInt8 => (9, 1, (splitB x.2 x.1).map .str))
theorem g_splitO_eq {s : Bs} {c : UInt8} (hd : s.length ≤ 1099511627776) : g_splitO [.str s, .str [c]] = some (9, 1, (splitB c s).map .str) := encSpec_eq (x := (s, c)) hd fun y hy => by
  obtain ⟨y0, y1⟩ := y
  simp only [List.cons.injEq, and_true, D.str.injEq] at hy
  obtain ⟨rfl, rfl⟩ := hy
  rfl
theorem f_splitO_ok : OwnOK Tryz.prog 42 g_splitO := by
  have hΓ := Γo f_genSplitO_ok (Γn)
  refine own_enc (n := 8) (rs := [.tmp 4]) Tryz.func42 (by kernel_rfl) rfl (by kernel_rfl) (by kernel_rfl) ?_
  rintro ⟨s, c⟩ hd
  dsimp only at hd ⊢
  refine ⟨⟨by decide, strs_elems _⟩, fun k hz0 => ?_⟩
  have e1 := g_genSplitO_eq (c := c) hd
  rw [start_frame (by simp)]; simp only [enumV, go_sem, emptyH]
  repeat (first
    | (apply axJ; (focus ((with_reducible constructor) <;> rfl)))
    | (apply awT mixedOK hΓ (by kernel_rfl); (simp (disch := omega) only [go_sem, ↓reduceIte, dk, ↓lk, e1] <;> with_reducible rfl))
    | ((first | apply awR hΓ | apply awG | apply awH mixedOK hΓ rfl (by kernel_rfl) | apply ovE rfl); (simp (disch := omega) only [go_sem, ↓reduceIte, dk, ↓lk, e1] <;> with_reducible rfl); exact trivial)
    | rfl)
  exact ⟨rfl, 3, by rw [List.length_map]; rfl, rfl⟩
end Go.Ab
namespace Go.Ab
open Go Go.RowKit
def okRow (oh : Nat) : AV → Bool
  | .data _ => true
  | .row o _ => o == oh
  | .junk => true
  | _ => false
theorem okRow_look {oh : Nat} : ∀ {t : List (Nat × AV)}, (t.all fun p => okRow oh p.2) = true → ∀ i, okRow oh (lookV t i) = true
  | [], _, i => rfl
  | (k, x) :: r, h, i => by
    rw [List.all_cons, Bool.and_eq_true] at h
    simp only [lookV]
    split
    · exact h.1
    · exact okRow_look h.2 i
theorem Weak.mvF {b m i o0 o1 oh n n' : Nat} {t : List (Nat × AV)} {e e2 : TypeId} {sz sz2 : Nat} {l l2 : List D} (hb : b ≤ o0) (h0 : o0 < n') (hh : oh < n') (hne0 : oh ≠ o0) (hne1 : oh ≠ o1) (hok : (t.all fun p => okRow oh p.2) = true) :
    Weak b (frame m ((i, .row o1 l.length) :: t)) ⟨[(o1, .row e sz l), (oh, .row e2 sz2 l2)], n⟩ (frame m ((i, .row o0 l.length) :: t)) ⟨[(o0, .row e sz l), (oh, .row e2 sz2 l2)], n'⟩ := fun c θ w a hc hs => by
  have g1 : (⟨[(o1, .row e sz l), (oh, .row e2 sz2 l2)], n⟩ : Heap).get o1 = some (.row e sz l) := by simp [Heap.get, look]
  have g2 : (⟨[(o1, .row e sz l), (oh, .row e2 sz2 l2)], n⟩ : Heap).get oh = some (.row e2 sz2 l2) := by simp [Heap.get, look, hne1]
  have hg : ∀ o x, (⟨[(o0, .row e sz l), (oh, .row e2 sz2 l2)], n'⟩ : Heap).get o = some x → (o = o0 ∧ x = .row e sz l) ∨ (o = oh ∧ x = .row e2 sz2 l2) := fun o x hx => by
    simp only [Heap.get, look] at hx
    split at hx
    · exact .inl ⟨by assumption, by simpa using hx.symm⟩
    · split at hx
      · exact .inr ⟨by assumption, by simpa using hx.symm⟩
      · cases hx
  generalize hH : (⟨[(o1, .row e sz l), (oh, .row e2 sz2 l2)], n⟩ : Heap) = H at *
  generalize hH' : (⟨[(o0, .row e sz l), (oh, .row e2 sz2 l2)], n'⟩ : Heap) = H' at *
  have hn' : H'.next = n' := by rw [← hH']
  generalize hθ : (fun o => if o = o0 then θ o1 else θ o) = θ'
  have t0 : θ' o0 = θ o1 := by rw [← hθ]; simp
  have t1 : ∀ o, o ≠ o0 → θ' o = θ o := fun o ho => by rw [← hθ]; simp [ho]
  have hown : ∀ q, own H' θ' q → own H θ q := by
    rintro q ⟨o, x, k1, k2, k3⟩
    rcases hg o x k1 with ⟨rfl, rfl⟩ | ⟨rfl, rfl⟩
    · exact ⟨o1, _, g1, rfl, by rw [← t0]; exact k3⟩
    · exact ⟨o, _, g2, rfl, by rw [← t1 o hne0]; exact k3⟩
  have hvis : ∀ q, vis c H θ w q → vis c H' θ' w q := fun q h => ⟨h.1, fun h2 => h.2.1 (hown q h2), h.2.2⟩
  have hrow : ∀ {e sz l v}, ObjR c H θ w (.row e sz l) v → ObjR c H' θ' w (.row e sz l) v := by
    rintro e sz l v ⟨k1, k2, k3, vs, k4, k5, k6⟩
    exact ⟨k1, k2, k3, vs, k4, k5, fun i hi u hu => (k6 i hi u hu).mono fun b hb => ⟨hvis b hb, rfl⟩⟩
  refine ⟨θ', ⟨⟨⟨hs.st.sim.size, fun o x hx => ?_, fun o o' x x' hx hx' l1 l2 hne q hq => ?_⟩, hs.st.defers, by rw [frame_len, hs.st.size, frame_len], fun j x v hx hv => ?_⟩, fun o ho => ?_, by rw [hn', hc]; omega⟩, fun o x' ho hx => ?_⟩
  · rcases hg o x hx with ⟨rfl, rfl⟩ | ⟨rfl, rfl⟩
    · rw [t0]; exact hrow (hs.st.sim.objs o1 _ g1)
    · rw [t1 o hne0]; exact hrow (hs.st.sim.objs o _ g2)
  · rcases hg o x hx with ⟨rfl, rfl⟩ | ⟨rfl, rfl⟩ <;> rcases hg o' x' hx' with ⟨rfl, rfl⟩ | ⟨rfl, rfl⟩
    · exact absurd rfl hne
    · rw [t0] at hq
      rw [t1 o' hne0]
      exact hs.st.sim.inj o1 o' _ _ g1 g2 rfl rfl (fun e => hne1 e.symm) q hq
    · rw [t1 o hne0] at hq
      rw [t0]
      exact hs.st.sim.inj o o1 _ _ g2 g1 rfl rfl hne1 q hq
    · exact absurd rfl hne
  · rw [frame_at] at hx
    split at hx
    · rename_i hj
      simp only [Option.some.injEq] at hx
      have hold := hs.st.vals j (lookV ((i, .row o1 l.length) :: t) j) v (by rw [frame_at, if_pos hj]) hv
      simp only [lookV] at hx hold
      split at hx
      · rename_i hji
        rw [if_pos hji] at hold
        subst hx
        cases hold with
        | row _ _ _ hv' hr h =>
          refine .row o0 _ v hv' (.inl (by rw [hn']; exact h0)) fun x m hx hm => ?_
          rcases hg o0 x hx with ⟨_, rfl⟩ | ⟨e0, rfl⟩
          · rw [t0]
            exact h _ m g1 hm
          · exact absurd e0.symm hne0
      · rename_i hji
        rw [if_neg hji, hx] at hold
        have hokj := okRow_look hok j
        rw [hx] at hokj
        cases hold with
        | data d v h => exact .data d v (h.mono fun b hb => ⟨hvis b hb, rfl⟩)
        | junk v => exact .junk v
        | row o k v hv' hr h =>
          have ho : o = oh := by simpa [okRow] using hokj
          subst ho
          refine .row o _ v hv' (.inl (by rw [hn']; exact hh)) fun x m hx hm => ?_
          rcases hg o x hx with ⟨e0, rfl⟩ | ⟨_, rfl⟩
          · exact absurd e0 hne0
          · rw [t1 o hne0]
            exact h _ m g2 hm
        | _ => cases hokj
    · cases hx
  · rw [hn']
    obtain ⟨x, hx⟩ := Option.isSome_iff_exists.1 ho
    rcases hg o x hx with ⟨rfl, rfl⟩ | ⟨rfl, rfl⟩ <;> assumption
  · have hne : o ≠ o0 := by omega
    rcases hg o x' hx with ⟨e0, _⟩ | ⟨rfl, rfl⟩
    · exact absurd e0 hne
    · exact ⟨_, g2, Obj.evo_refl _, fun _ => t1 o hne⟩
theorem Weak.mvK {b m i o0 o1 oh n n' q : Nat} {t : List (Nat × AV)} {e e2 : TypeId} {sz sz2 : Nat} {l l2 : List D} (hq : l.length = q) (hb : b ≤ o0) (h0 : o0 < n') (hh : oh < n') (hne0 : oh ≠ o0) (hne1 : oh ≠ o1) (hok : (t.all fun p => okRow oh p.2) = true) :
    Weak b (frame m ((i, .row o1 q) :: t)) ⟨[(o1, .row e sz l), (oh, .row e2 sz2 l2)], n⟩ (frame m ((i, .row o0 q) :: t)) ⟨[(o0, .row e sz l), (oh, .row e2 sz2 l2)], n'⟩ := by
  subst hq
  exact Weak.mvF hb h0 hh hne0 hne1 hok
end Go.Ab
namespace Go.Ab
open Go Go.RowKit Go.Proofs
set_option maxRecDepth 10000
set_option maxHeartbeats 16000000
theorem call_delS {ss : List Bs} {q : Nat} (h : ss.length ≤ 1000000000) (hi : q < ss.length) (A : Obj) (k n : Nat) (hk : ¬ k = 20) (hk2 : ¬ k = 23) : callLoc k ⟨[(20, .row 9 1 (ss.map .str)), (23, A)], n⟩ g_delS [.row 20 ss.length, .data (.int .i64 (q : Int)), .data (.int .i64 ((q : Int) + 1))] = some (.row k (ss.eraseIdx q).length, ⟨[(20, .dead), (23, A), (k, .row 9 1 ((ss.eraseIdx q).map .str))], k + 1⟩) :=
  (callLoc_of (fp := [20]) rfl rfl rfl (g_delS_eq h hi) (by simp)).trans (by simp [ren, rens, backTo, putAll, upd, renO, Heap.get, look, hk, hk2])
theorem delAll_le (hs : List Hd) (l : List Bs) : (delAll hs l).length ≤ l.length := by
  induction hs with
  | nil => exact Nat.le_refl _
  | cons h hs ih =>
    refine Nat.le_trans ?_ ih
    show ((delAll hs l).eraseIdx h.line.toNat).length ≤ _
    exact List.length_eraseIdx_le _ _
noncomputable def g_law36h : List D → Option D := encSpec (fun x : Bs => [.str x]) (fun x : Bs => x.length ≤ 1099511627776) (fun x : Bs => .bool true)
theorem f_law36h_ok : PureOK Tryz.prog 10 true g_law36h := by
  have hΓ := Γp f_wk36_ok (Γp f_stripP_ok (Γo f_scan_ok (Γo f_splitO_ok (Γq f_delS_ok (Γp f_join_ok (Γn))))))
  refine pure_enc (n := 68) (rs := [.tmp 2]) Tryz.func10 (by kernel_rfl) rfl (by kernel_rfl) (by kernel_rfl) ?_
  rintro s hd
  (try dsimp only at hd ⊢)
  refine ⟨fun _ => by (repeat (first | exact .int _ _ | exact .bool _ | exact .str _ | (refine .tup _ (fun d hd => ?_); simp only [List.mem_cons, List.not_mem_nil, or_false] at hd; rcases hd with rfl | hd))), fun k hz0 => ?_⟩
  have e0 := g_wk36_eq
  rw [start_frame (by simp)]; simp only [enumV, go_sem, emptyH]
  by_cases hl : (s.length : Int) > 4000
  · have h1 : decide ((s.length : Int) > 4000) = true := decide_eq_true hl
    repeat (first
      | (apply axJ; (focus ((with_reducible constructor) <;> rfl)))
      | (apply awT mixedOK hΓ (by kernel_rfl); (simp (disch := omega) only [go_sem, ↓reduceIte, dk, ↓lk, Int.reduceBEq, Int.reduceBNe, Bool.true_bne, Bool.false_bne, Bool.not_true, Bool.not_false, e0, h1] <;> with_reducible rfl))
      | ((first | apply awR hΓ | apply awG | apply awH mixedOK hΓ rfl (by kernel_rfl) | apply ovE rfl); (simp (disch := omega) only [go_sem, ↓reduceIte, dk, ↓lk, Int.reduceBEq, Int.reduceBNe, Bool.true_bne, Bool.false_bne, Bool.not_true, Bool.not_false, e0, h1] <;> with_reducible rfl); exact trivial)
      | rfl)
    try rfl
  have h1 : decide ((s.length : Int) > 4000) = false := decide_eq_false hl
  have hs : s.length ≤ 1000000000 := by omega
  have hst := strip_len s
  have e1 := g_stripP_eq hs
  have e2 := g_scan_eq (s := stripB s) (by omega)
  rw [strip_scan, List.map_nil] at e2
  have e3 := g_stripP_eq (s := stripB s) (by omega)
  rw [strip_strip] at e3
  have e4 := g_splitO_eq (s := s) (c := 10) hd
  have e5 := g_scan_eq hs
  have hsl := scanB_len s
  have hspl := splitB_len 10 s
  have hroom := del_room s
  have hstep := del_step s
  have hall := del_all s
  have hjl := congrArg List.length hall
  generalize scanB s = l at *
  generalize splitB 10 s = L at *
  generalize stripB s = t at *
  have hlen := fun hs => delAll_le hs L
  have hg0 : decide ((0 : Int) > 0) = false := rfl
  repeat (first
    | (apply axJ; (focus ((with_reducible constructor) <;> rfl)))
    | (apply awT mixedOK hΓ (by kernel_rfl); (simp (disch := omega) only [go_sem, ↓reduceIte, dk, ↓lk, Int.reduceBEq, Int.reduceBNe, Bool.true_bne, Bool.false_bne, Bool.not_true, Bool.not_false, BEq.rfl, e0, h1, e1, e2, e3, e4, e5] <;> with_reducible rfl))
    | ((first | apply awR hΓ | apply awG | apply awH mixedOK hΓ rfl (by kernel_rfl) | apply ovE rfl); (simp (disch := omega) only [go_sem, ↓reduceIte, dk, ↓lk, Int.reduceBEq, Int.reduceBNe, Bool.true_bne, Bool.false_bne, Bool.not_true, Bool.not_false, BEq.rfl, e0, h1, e1, e2, e3, e4, e5] <;> with_reducible rfl); exact trivial)
    | rfl)
  refine awp_loop_at (X := Nat) (fun i => (frame 68 [(4, .row 20 (delAll (l.drop i) L).length), (3, .data (.str t)), (5, .row 23 l.length), (6, .data (i64 ((i : Int) - 1)))]))
    (fun i => [(20, .row 9 1 ((delAll (l.drop i) L).map .str)), (23, .row 26 3 (l.map eHd))]) 40
    (fun i => i ≤ l.length) (fun i => i) l.length (Nat.le_refl _) (Weak.v (by (simp [ConvF, lookV, Conv, ints, List.drop_length, delAll, List.foldr_nil]; done)) (by (simp (disch := omega) only [TabSub, look, if_pos, if_neg, Obj.refsOK, refsOKs, AV.refsOK, decide_eq_true_eq, Bool.and_true, Bool.and_self, List.drop_length, delAll, List.foldr_nil] ) <;> ((repeat' apply And.intro) <;> first | exact True.intro | omega | (simp; done) | rfl))) ?_
  intro i hi
  (try dsimp only at hi ⊢)
  cases i with
  | zero =>
    rw [List.drop_zero]
    have hg1 : decide (((0 : Nat) : Int) - 1 ≥ 0) = false := rfl
    have e6 := g_join_eq (l := delAll l L) (s := [10]) ⟨Nat.le_trans (hlen l) (by omega), by rw [show Lib.join (delAll l L) [10] = t from hall]; omega⟩
    rw [show Lib.join (delAll l L) [10] = t from hall] at e6
    generalize delAll l L = M at *
    repeat (first
      | (apply axJ; (focus ((with_reducible constructor) <;> rfl)))
      | (apply awT mixedOK hΓ (by kernel_rfl); (simp (disch := omega) only [go_sem, ↓reduceIte, dk, ↓lk, Int.reduceBEq, Int.reduceBNe, Bool.true_bne, Bool.false_bne, Bool.not_true, Bool.not_false, BEq.rfl, hg1, e6] <;> with_reducible rfl))
      | ((first | apply awR hΓ | apply awG | apply awH mixedOK hΓ rfl (by kernel_rfl) | apply ovE rfl); (simp (disch := omega) only [go_sem, ↓reduceIte, dk, ↓lk, Int.reduceBEq, Int.reduceBNe, Bool.true_bne, Bool.false_bne, Bool.not_true, Bool.not_false, BEq.rfl, hg1, e6] <;> with_reducible rfl); exact trivial)
      | rfl)
    try rfl
  | succ j =>
    obtain ⟨hr1, hr2⟩ := hroom j hi
    have hM := hstep j hi
    have hM1 := hlen (l.drop (j + 1))
    generalize delAll (l.drop (j + 1)) L = M at *
    generalize hM2 : delAll (l.drop j) L = M2 at *
    generalize hy : l[j] = y at *
    obtain ⟨yk, yl, yt⟩ := y
    dsimp only at hr1 hr2 hM
    obtain ⟨q, rfl⟩ : ∃ q : Nat, yl = (q : Int) := ⟨yl.toNat, by omega⟩
    rw [Int.toNat_natCast] at hM
    have hq : q < M.length := by omega
    have hjj : ((j + 1 : Nat) : Int) - 1 = (j : Int) := by omega
    have hg1 : decide ((j : Int) ≥ 0) = true := decide_eq_true (by omega)
    have hg2 : decide ((q : Int) < 0) = false := decide_eq_false (by omega)
    have hg3 : decide ((q : Int) ≥ (M.length : Int)) = false := decide_eq_false (by omega)
    have e7 := call_delS (ss := M) (q := q) (by omega) hq
    rw [← hM] at e7
    (repeat (first | (apply axJ; (focus ((with_reducible constructor) <;> rfl))) | ((first | apply awR hΓ | apply awG | apply ovE rfl); (simp (disch := omega) only [go_sem, ↓reduceIte, dk, ↓lk, Int.reduceBEq, Int.reduceBNe, Bool.true_bne, Bool.false_bne, Bool.not_true, Bool.not_false, hjj, hg1, hg2, hg3, hy, eHd_eq] <;> with_reducible rfl); exact trivial) | rfl))
    (apply awp_lane3 (nst := false) (nst' := false) [false, false, false, false, false, false, false, false, false, false, false, false, true] mixedOK hΓ (n1 := 13) (by kernel_rfl) (by kernel_rfl); (focus (dsimp only [List.take_succ_cons, List.take_zero, Array.toList]; (repeat (first | (apply lane3_loud; (focus rfl); (focus rfl); (simp (disch := omega) only [go_sem, ↓reduceIte, dk, ↓lk, Int.reduceBEq, Int.reduceBNe, Bool.true_bne, Bool.false_bne, Bool.not_true, Bool.not_false, hy, eHd_eq, ↓e7, look_upd] <;> with_reducible rfl); (focus (first | (simp (disch := omega) only [go_sem, ↓reduceIte, dk, ↓lk, Int.reduceBEq, Int.reduceBNe, Bool.true_bne, Bool.false_bne, Bool.not_true, Bool.not_false, hy, eHd_eq, ↓e7, look_upd]; done) | (simp (disch := omega) only [go_sem, ↓reduceIte, dk, ↓lk, Int.reduceBEq, Int.reduceBNe, Bool.true_bne, Bool.false_bne, Bool.not_true, Bool.not_false, hy, eHd_eq, ↓e7, look_upd]; omega)))) | (apply lane3_quiet; (simp (disch := omega) only [go_sem, ↓reduceIte, dk, ↓lk, Int.reduceBEq, Int.reduceBNe, Bool.true_bne, Bool.false_bne, Bool.not_true, Bool.not_false, hy, eHd_eq, ↓e7, look_upd] <;> with_reducible rfl)))); exact lane3_nil)); (focus ((repeat' (first | exact True.intro | refine And.intro ?_ ?_)); all_goals (first | (left; decide) | (left; rfl) | (right; simp (disch := omega) only [go_sem, ↓reduceIte, dk, ↓lk, Int.reduceBEq, Int.reduceBNe, Bool.true_bne, Bool.false_bne, Bool.not_true, Bool.not_false, hy, eHd_eq, ↓e7, look_upd]; try with_reducible rfl)))); (simp (disch := omega) only [go_sem, ↓reduceIte, dk, ↓lk, Int.reduceBEq, Int.reduceBNe, Bool.true_bne, Bool.false_bne, Bool.not_true, Bool.not_false, hy, eHd_eq, ↓e7, look_upd] <;> with_reducible rfl))
    repeat (first
      | (apply axJ; (focus ((with_reducible constructor) <;> rfl)))
      | (apply awT mixedOK hΓ (by kernel_rfl); (simp (disch := omega) only [go_sem, ↓reduceIte, dk, ↓lk, Int.reduceBEq, Int.reduceBNe, Bool.true_bne, Bool.false_bne, Bool.not_true, Bool.not_false] <;> with_reducible rfl))
      | ((first | apply awR hΓ | apply awG | apply awH mixedOK hΓ rfl (by kernel_rfl) | apply ovE rfl); (simp (disch := omega) only [go_sem, ↓reduceIte, dk, ↓lk, Int.reduceBEq, Int.reduceBNe, Bool.true_bne, Bool.false_bne, Bool.not_true, Bool.not_false] <;> with_reducible rfl); exact trivial)
      | rfl)
    refine ⟨j, by omega, Nat.lt_succ_self j, ?_⟩
    rw [hM2]
    exact Weak.trans (s2 := (frame 68 [(4, .row 70 M2.length), (3, .data (.str t)), (5, .row 23 l.length), (6, .data (i64 ((j : Int) - 1)))])) (H2 := ⟨[(70, .row 9 1 (M2.map .str)), (23, .row 26 3 (l.map eHd))], 75⟩) Weak.w (Weak.mvK (by simp) (by omega) (by omega) (by omega) (by omega) (by omega) rfl)
end Go.Ab
