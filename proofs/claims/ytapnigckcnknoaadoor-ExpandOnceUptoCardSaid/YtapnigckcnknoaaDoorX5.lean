/-
  One text of the proof (own work): contracts of functions of the program, by the abstract machine.
-/
import Derived.Test.YtapnigckcnknoaaDoorX4
set_option linter.unusedVariables false
set_option linter.unusedSimpArgs false
namespace Go.Ab
open Go Go.RowKit
theorem flat_drop {l : List D} {sz : Nat} (h : ∀ d ∈ l, d.cells.length = sz) (n : Nat) : flat (l.drop n) = (flat l).drop (n * sz) := by
  induction n generalizing l with
  | zero => simp
  | succ n ih =>
    cases l with
    | nil => simp [flat]
    | cons x l =>
      have hx := h x (by simp)
      rw [List.drop_succ_cons, ih (fun y hy => h y (by simp [hy])), flat_cons, List.drop_append, hx, Nat.succ_mul]
      rw [List.drop_eq_nil_of_le (show x.cells.length ≤ n * sz + sz by omega), List.nil_append, Nat.add_sub_cancel]
theorem flat_take {l : List D} {sz : Nat} (h : ∀ d ∈ l, d.cells.length = sz) (n : Nat) : flat (l.take n) = (flat l).take (n * sz) := by
  induction n generalizing l with
  | zero => simp [flat]
  | succ n ih =>
    cases l with
    | nil => simp [flat]
    | cons x l =>
      have hx := h x (by simp)
      rw [List.take_succ_cons, flat_cons, flat_cons, ih (fun y hy => h y (by simp [hy])), List.take_append, hx, Nat.succ_mul]
      rw [List.take_of_length_le (show x.cells.length ≤ n * sz + sz by omega), Nat.add_sub_cancel]
theorem mem_flat_sub {l r : List D} (h : ∀ d ∈ r, d ∈ l) {x : D} (hx : x ∈ flat r) : x ∈ flat l := by
  unfold flat at *
  obtain ⟨d, hd, hxd⟩ := List.mem_flatMap.1 hx
  exact List.mem_flatMap.2 ⟨d, h d hd, hxd⟩
section
variable {P : Program} {c : Ctx} {H H' : Heap} {θ θ' : Nat → Value} {w w' : World} {sl : List AV} {a : Act} {o : Oper} {r : AV}
theorem freeze_row (hs : HSim c H θ w) {ob : Nat} {e : TypeId} {sz : Nat} {l : List D} (hg : H.get ob = some (.row e sz l)) :
    HSim c (H.set ob (.frz l)) θ w ∧ (∀ y u, VR H θ w (vis c H θ w) y u → VR (H.set ob (.frz l)) θ w (vis c (H.set ob (.frz l)) θ w) y u) ∧ (∀ b, vis c H θ w b → vis c (H.set ob (.frz l)) θ w b) ∧ HLe H θ (H.set ob (.frz l)) θ := by
  have hown : ∀ b, own (H.set ob (.frz l)) θ b → own H θ b := by
    rintro b ⟨o, y, hgo, hy, hb⟩
    rw [Heap.get_set] at hgo
    by_cases ho : o = ob
    · rw [if_pos ho] at hgo
      cases hgo
      cases hy
    · rw [if_neg ho] at hgo
      exact ⟨o, y, hgo, hy, hb⟩
  have hv : ∀ b, vis c H θ w b → vis c (H.set ob (.frz l)) θ w b := fun b ⟨h1, h2, h3⟩ => ⟨h1, fun h => h2 (hown b h), h3⟩
  have hle : HLe H θ (H.set ob (.frz l)) θ := by
    refine ⟨fun o ho => Heap.ref_set ho, fun o x' ho h => ?_⟩
    rw [Heap.get_set] at h
    by_cases hoo : o = ob
    · rw [if_pos hoo] at h
      cases h
      subst hoo
      exact ⟨_, hg, Nat.le_refl _, fun _ => rfl⟩
    · rw [if_neg hoo] at h
      exact ⟨x', h, x'.evo_refl, fun _ => rfl⟩
  have hvr : ∀ y u, VR H θ w (vis c H θ w) y u → VR (H.set ob (.frz l)) θ w (vis c (H.set ob (.frz l)) θ w) y u := fun y u h => h.mono (fun b hb => ⟨hv b hb, rfl⟩) hle
  refine ⟨⟨hs.size, fun o y hgo => ?_, fun o o' y y' hgo hgo' hy hy' hne b hb hb' => ?_⟩, hvr, hv, hle⟩
  · rw [Heap.get_set] at hgo
    by_cases ho : o = ob
    · rw [if_pos ho] at hgo
      cases hgo
      subst ho
      obtain ⟨_, _, _, vs, hrow, hbl, _⟩ := row_cells hs hg
      refine row_reads hs hg hv (fun b hb => ⟨(hs.objs _ _ hg).lt rfl hb, fun h => ?_, fun hlt => .inr ?_⟩)
      · obtain ⟨o2, y2, hg2, hy2, hb2⟩ := h
        rw [Heap.get_set] at hg2
        by_cases ho2 : o2 = o
        · rw [if_pos ho2] at hg2
          cases hg2
          cases hy2
        · rw [if_neg ho2] at hg2
          exact hs.inj o o2 _ y2 hg hg2 rfl hy2 (Ne.symm ho2) b hb hb2
      · rcases hbl b hb with h | h
        · omega
        · exact h
    · rw [if_neg ho] at hgo
      exact (hs.objs o y hgo).mono (fun b hb => ⟨hv b hb, rfl⟩) hle (fun _ _ _ => rfl)
  · rw [Heap.get_set] at hgo hgo'
    by_cases ho : o = ob
    · rw [if_pos ho] at hgo
      cases hgo
      cases hy
    · by_cases ho' : o' = ob
      · rw [if_pos ho'] at hgo'
        cases hgo'
        cases hy'
      · rw [if_neg ho] at hgo
        rw [if_neg ho'] at hgo'
        exact hs.inj o o' y y' hgo hgo' hy hy' hne b hb hb'
theorem St.freeze (hs : St c H θ w sl a) {ob : Nat} {e : TypeId} {sz : Nat} {l : List D} (hg : H.get ob = some (.row e sz l)) : St c (H.set ob (.frz l)) θ w sl a :=
  have h := freeze_row hs.sim hg
  ⟨h.1, hs.defers, hs.size, fun i x v h1 h2 => h.2.1 x v (hs.vals i x v h1 h2)⟩
theorem asList_sound (hs : St c H θ w sl a) {x : AV} {v : Value} {l : List D} (hx : VR H θ w (vis c H θ w) x v) (h : asList H x = some (l, H')) : St c H' θ w sl a ∧ DR w (vis c H' θ w) (.list l) v ∧ HLe H θ H' θ := by
  unfold asList at h
  split at h
  · simp only [Option.some.injEq, Prod.mk.injEq] at h
    obtain ⟨rfl, rfl⟩ := h
    exact ⟨hs, hx.data_inv, HLe.refl _ _⟩
  · simp only [Option.some.injEq, Prod.mk.injEq] at h
    obtain ⟨rfl, rfl⟩ := h
    cases hx
    exact ⟨hs, .empty none 0, HLe.refl _ _⟩
  · split at h
    · rename_i hg
      split at h
      · rename_i hn
        simp only [Option.some.injEq, Prod.mk.injEq] at h
        obtain ⟨rfl, rfl⟩ := h
        obtain ⟨he, _⟩ := row_val hs.sim hx hg hn
        have h1 := hs.freeze hg
        refine ⟨h1, ?_, (freeze_row hs.sim hg).2.2.2⟩
        rw [he]
        exact h1.sim.objs _ _ (by rw [Heap.get_set, if_pos rfl])
      · cases h
    · rename_i hg
      split at h
      · rename_i hn
        simp only [Option.some.injEq, Prod.mk.injEq] at h
        obtain ⟨rfl, rfl⟩ := h
        exact ⟨hs, frz_val hs.sim hx hg hn, HLe.refl _ _⟩
      · cases h
    · cases h
  · cases h
theorem bound_sound {x : Option AV} {ov : Option Value} {d t n : Nat} {B : Nat → Prop} (hx : ∀ y, x = some y → ∃ v, ov = some v ∧ VR H θ w B y v) (hn : x = none → ov = none) (h : bound x d t = some n) (hd : d ≤ t) (code : BoundsCode) {m : Nat} (hm : t ≤ m) :
    n ≤ t ∧ ((ov = none ∧ n = d) ∨ ∃ v, ov = some v ∧ (Instr.sliceBound v m code).run P w = .ok n w) := by
  cases x with
  | none =>
    simp only [bound, Option.some.injEq] at h
    subst h
    exact ⟨hd, .inl ⟨hn rfl, rfl⟩⟩
  | some y =>
    obtain ⟨v, rfl, hv⟩ := hx y rfl
    unfold bound at h
    split at h
    · rename_i he; cases he
    · rename_i k i he
      cases he
      have hvi := hv.data_inv.int_eq
      subst hvi
      split at h
      · rename_i hc
        simp only [Option.some.injEq] at h
        subst h
        refine ⟨by omega, .inr ⟨_, rfl, ?_⟩⟩
        have : 0 ≤ i ∧ i ≤ (m : Int) := by omega
        simp [Instr.sliceBound, asIntOf, this]
      · cases h
    · cases h
theorem bounds_run {isSlice : Bool} {len cap p q : Nat} {lo hi : Option Value} (hq : (hi = none ∧ q = len) ∨ ∃ v, hi = some v ∧ (Instr.sliceBound v cap (if isSlice then .sliceAcap else .sliceAlen)).run P w = .ok q w)
    (hp : (lo = none ∧ p = 0) ∨ ∃ v, lo = some v ∧ (Instr.sliceBound v q .sliceB).run P w = .ok p w) : (Instr.sliceBounds isSlice len cap lo hi none).run P w = .ok (p, q, cap) w := by
  rcases hq with ⟨rfl, rfl⟩ | ⟨v, rfl, h1⟩ <;> rcases hp with ⟨rfl, rfl⟩ | ⟨u, rfl, h2⟩
  · simp [Instr.sliceBounds]
  · simp [Instr.sliceBounds, h2]
  · simp [Instr.sliceBounds, h1]
  · simp [Instr.sliceBounds, h1, h2]
theorem cut_some {l r : List D} {lo hi : Option AV} (h : cut l lo hi = some r) : ∃ p q, bound hi l.length l.length = some q ∧ bound lo 0 q = some p ∧ r = (l.drop p).take (q - p) := by
  unfold cut at h
  split at h
  · rename_i q hq
    split at h
    · rename_i p hp
      simp only [Option.some.injEq] at h
      exact ⟨p, q, hq, hp, h.symm⟩
    · cases h
  · cases h
theorem cutS_some {l r : List UInt8} {lo hi : Option AV} (h : cutS l lo hi = some r) : ∃ p q, bound hi l.length l.length = some q ∧ bound lo 0 q = some p ∧ r = (l.drop p).take (q - p) := by
  unfold cutS at h
  split at h
  · rename_i q hq
    split at h
    · rename_i p hp
      simp only [Option.some.injEq] at h
      exact ⟨p, q, hq, hp, h.symm⟩
    · cases h
  · cases h
theorem sub_readsM {B : Nat → Prop} {l : List D} {ao : Option Addr} {len cap : Nat} (h : DR w B (.list l) (.slice ao len cap)) {sz : Nat} {p q m : Nat} (hpq : p ≤ q) (hq : q ≤ len) (hqm : q ≤ m) (hcell : l ≠ [] → ∀ d ∈ l, d.cells.length = sz) :
    DR w B (.list ((l.drop p).take (q - p))) (.slice (if m = p then ao else ao.map (·.add (p * sz))) (q - p) (m - p)) := by
  obtain ⟨ao', cap', he, h1⟩ := h.list_inv
  simp only [Value.slice.injEq] at he
  obtain ⟨rfl, rfl, rfl⟩ := he
  by_cases h0 : q - p = 0
  · rw [h0, List.take_zero]
    exact .empty _ _
  · rcases h1 with rfl | ⟨ad, sz', u, rfl, hb, hlc, hsz, ho, hm, hd⟩
    · simp at hq
      omega
    · have hne : l ≠ [] := by rintro rfl; simp at hq; omega
      have hszz : sz' = sz := by
        cases l with
        | nil => exact absurd rfl hne
        | cons x l => exact (hsz x (by simp)).symm.trans (hcell hne x (by simp))
      subst hszz
      rw [if_neg (by omega)]
      have hsub : ∀ d ∈ (l.drop p).take (q - p), d ∈ l := fun d hd => List.mem_of_mem_drop (List.mem_of_mem_take hd)
      have hlen : ((l.drop p).take (q - p)).length = q - p := by simp; omega
      have hf : flat ((l.drop p).take (q - p)) = ((flat l).drop (p * sz')).take ((q - p) * sz') := by
        rw [flat_take (fun d hd => hsz d (List.mem_of_mem_drop hd)), flat_drop hsz]
      have hfl := flat_length hsz
      have key := DR.list (w := w) (B := B) ((l.drop p).take (q - p)) (ad.add (p * sz')) (m - p) sz' (fun i => u (p * sz' + i)) (by rw [block_add]; exact hb) (by rw [hlen]; omega) (fun d hd => hsz d (hsub d hd)) (fun d hd => ho d (mem_flat_sub hsub hd))
        (fun i hi => by
          rw [hf] at hi
          simp only [List.length_take, List.length_drop] at hi
          rw [add_add]
          exact hm _ (by omega))
        (fun i hi => by
          have hi' := hi
          rw [hf] at hi'
          simp only [List.length_take, List.length_drop] at hi'
          have e : (flat ((l.drop p).take (q - p)))[i] = (flat l)[p * sz' + i] := by
            simp only [hf, List.getElem_take, List.getElem_drop]
          rw [e]
          exact hd _ (by omega))
      rw [hlen] at key
      exact key
theorem sub_reads {B : Nat → Prop} {l : List D} {ao : Option Addr} {len cap : Nat} (h : DR w B (.list l) (.slice ao len cap)) {sz : Nat} {p q : Nat} (hpq : p ≤ q) (hq : q ≤ len) (hcell : l ≠ [] → ∀ d ∈ l, d.cells.length = sz) (hc : len ≤ cap ∨ l = []) :
    DR w B (.list ((l.drop p).take (q - p))) (.slice (if cap = p then ao else ao.map (·.add (p * sz))) (q - p) (cap - p)) := by
  refine sub_readsM h hpq hq ?_ hcell
  rcases hc with hc | rfl
  · omega
  · obtain ⟨_, _, he, _⟩ := h.list_inv
    simp only [Value.slice.injEq, List.length_nil] at he
    omega
theorem bounds_run3 {len cap p q m : Nat} {lo : Option Value} {hv mv : Value} (hm : (Instr.sliceBound mv cap .slice3Acap).run P w = .ok m w) (hq : (Instr.sliceBound hv m .slice3B).run P w = .ok q w)
    (hp : (lo = none ∧ p = 0) ∨ ∃ v, lo = some v ∧ (Instr.sliceBound v q .slice3C).run P w = .ok p w) : (Instr.sliceBounds true len cap lo (some hv) (some mv)).run P w = .ok (p, q, m) w := by
  rcases hp with ⟨rfl, rfl⟩ | ⟨u, rfl, h2⟩
  · simp [Instr.sliceBounds, hm, hq]
  · simp [Instr.sliceBounds, hm, hq, h2]
theorem cut3_some {l r : List D} {lo hi : Option AV} {mx : AV} (h : cut3 l lo hi mx = some r) : ∃ y p q m, hi = some y ∧ bound (some mx) 0 l.length = some m ∧ bound hi 0 m = some q ∧ bound lo 0 q = some p ∧ r = (l.drop p).take (q - p) := by
  unfold cut3 at h
  split at h
  · rename_i y
    split at h
    · rename_i m hm
      split at h
      · rename_i q hq
        split at h
        · rename_i p hp
          simp only [Option.some.injEq] at h
          exact ⟨y, p, q, m, rfl, hm, hq, hp, h.symm⟩
        · cases h
      · cases h
    · cases h
  · cases h
theorem y_slice (hs : St c H θ w sl a) {t : TypeId} {x : Operand} {lo hi mx : Option Operand} (ho : o.op = .slice t x lo hi mx)
    (h : aslice P H t (aev sl x) (lo.map (aev sl)) (hi.map (aev sl)) (mx.map (aev sl)) = some (r, H')) : Yields P c o a w sl H θ r H' := by
  have hx := aev_sound hs x
  have hob : ∀ {H1 : Heap}, St c H1 θ w sl a → ∀ (z : Option Operand) y, z.map (aev sl) = some y → ∃ v, z.map a.eval = some v ∧ VR H1 θ w (vis c H1 θ w) y v := by
    intro H1 hs1 z y hz
    cases z with
    | none => cases hz
    | some z =>
      simp only [Option.map_some, Option.some.injEq] at hz
      subst hz
      exact ⟨_, rfl, aev_sound hs1 z⟩
  have hno : ∀ (z : Option Operand), z.map (aev sl) = none → z.map a.eval = none := by
    intro z hz
    cases z with
    | none => rfl
    | some z => cases hz
  cases mx with
  | some m =>
    simp only [aslice, Option.map_some] at h
    split at h
    · rename_i e hu
      split at h
      · rename_i sz l H1 hsz hl
        split at h
        · rename_i hok
          split at h
          · rename_i r' hcut
            simp only [Option.some.injEq, Prod.mk.injEq] at h
            obtain ⟨rfl, rfl⟩ := h
            obtain ⟨hs1, hdr, hle⟩ := asList_sound hs hx hl
            obtain ⟨y, p, q, top, hy, hm, hq, hp, rfl⟩ := cut3_some hcut
            obtain ⟨hcl, _⟩ := elemsOK_spec hok
            obtain ⟨ao, cap, hv, hdi⟩ := hdr.list_inv
            have hlc : l.length ≤ cap ∨ l = [] := by
              rcases hdi with h1 | ⟨_, _, _, _, _, h1, _⟩
              · exact .inr h1
              · exact .inl h1
            have hcap : l.length ≤ cap := by
              rcases hlc with h1 | h1
              · exact h1
              · rw [h1]; exact Nat.zero_le _
            obtain ⟨hm1, hm2⟩ := bound_sound (P := P) (ov := some (a.eval m)) (fun y hy => by cases hy; exact ⟨_, rfl, aev_sound hs1 m⟩) (fun e => by cases e) hm (Nat.zero_le _) .slice3Acap (m := cap) hcap
            obtain ⟨hq1, hq2⟩ := bound_sound (P := P) (hob hs1 hi) (hno hi) hq (Nat.zero_le _) .slice3B (m := top) (Nat.le_refl _)
            obtain ⟨hp1, hp2⟩ := bound_sound (P := P) (hob hs1 lo) (hno lo) hp (Nat.zero_le _) .slice3C (m := q) (Nat.le_refl _)
            obtain ⟨hvv, hhv⟩ : ∃ z, hi.map a.eval = some z := by
              cases hi with
              | none => cases hy
              | some z => exact ⟨_, rfl⟩
            have hm3 : (Instr.sliceBound (a.eval m) cap .slice3Acap).run P w = .ok top w := by
              rcases hm2 with ⟨h1, _⟩ | ⟨v, h1, h2⟩
              · cases h1
              · cases h1; exact h2
            have hq3 : (Instr.sliceBound hvv top .slice3B).run P w = .ok q w := by
              rcases hq2 with ⟨h1, _⟩ | ⟨v, h1, h2⟩
              · rw [hhv] at h1; cases h1
              · rw [hhv] at h1; cases h1; exact h2
            have hbr := bounds_run3 (P := P) (len := l.length) (cap := cap) hm3 hq3 hp2
            rw [← hhv] at hbr
            rw [hv] at hdr
            have hsub := sub_readsM hdr hp1 (by omega) hq1 (sz := sz) (fun _ => hcl)
            refine .value (w' := w) (v := .slice (if top = p then ao else ao.map (·.add (p * sz))) (q - p) (top - p)) ?_ (.data _ _ hsub) hs1 (Kept.refl c w) hle
            simp only [execOp, ho, Instr.sliceAt, Sem.run_bind, run_underlying hu, Result.andThen_ok, hv, Instr.slice, Option.map_some, hbr, run_sizeOf' hsz, Sem.run_pure]
          · cases h
        · cases h
      · cases h
    · cases h
  | none =>
    simp only [aslice, Option.map_none] at h
    split at h
    · rename_i hu
      split at h
      · rename_i s hsx
        rw [hsx] at hx
        have hv := hx.data_inv.str_eq
        split at h
        · rename_i r' hcut
          simp only [Option.some.injEq, Prod.mk.injEq] at h
          obtain ⟨rfl, rfl⟩ := h
          obtain ⟨p, q, hq, hp, rfl⟩ := cutS_some hcut
          have hz : (⟨s.toArray⟩ : ByteArray).size = s.length := by simp [ByteArray.size]
          obtain ⟨hq1, hq2⟩ := bound_sound (P := P) (hob hs hi) (hno hi) hq (Nat.le_refl _) .sliceAlen (m := s.length) (Nat.le_refl _)
          obtain ⟨hp1, hp2⟩ := bound_sound (P := P) (hob hs lo) (hno lo) hp (Nat.zero_le _) .sliceB (m := q) (Nat.le_refl _)
          have hbr := bounds_run (P := P) (isSlice := false) (len := s.length) (cap := s.length) hq2 hp2
          refine .read hs (v := .string ((⟨s.toArray⟩ : ByteArray).extract p q)) ?_ ?_
          · simp only [execOp, ho, Instr.sliceAt, Sem.run_bind, run_underlying hu, Result.andThen_ok, hv, Instr.slice, Option.map_none, Option.isSome_none, Bool.false_eq_true, if_false, hz, hbr, Sem.run_pure]
          · have : (⟨s.toArray⟩ : ByteArray).extract p q = ⟨((s.drop p).take (q - p)).toArray⟩ := by
              apply ByteArray.ext
              simp
            rw [this]
            exact .data _ _ (.str _)
        · cases h
      · cases h
    · rename_i e hu
      split at h
      · rename_i sz l H1 hsz hl
        split at h
        · rename_i hok
          split at h
          · rename_i r' hcut
            simp only [Option.some.injEq, Prod.mk.injEq] at h
            obtain ⟨rfl, rfl⟩ := h
            obtain ⟨hs1, hdr, hle⟩ := asList_sound hs hx hl
            obtain ⟨p, q, hq, hp, rfl⟩ := cut_some hcut
            obtain ⟨hcl, _⟩ := elemsOK_spec hok
            obtain ⟨ao, cap, hv, hdi⟩ := hdr.list_inv
            have hlc : l.length ≤ cap ∨ l = [] := by
              rcases hdi with h1 | ⟨_, _, _, _, _, h1, _⟩
              · exact .inr h1
              · exact .inl h1
            have hcap : l.length ≤ cap := by
              rcases hlc with h1 | h1
              · exact h1
              · rw [h1]; exact Nat.zero_le _
            obtain ⟨hq1, hq2⟩ := bound_sound (P := P) (hob hs1 hi) (hno hi) hq (Nat.le_refl _) .sliceAcap (m := cap) hcap
            obtain ⟨hp1, hp2⟩ := bound_sound (P := P) (hob hs1 lo) (hno lo) hp (Nat.zero_le _) .sliceB (m := q) (Nat.le_refl _)
            have hbr := bounds_run (P := P) (isSlice := true) (len := l.length) (cap := cap) hq2 hp2
            rw [hv] at hdr
            have hsub := sub_reads hdr hp1 hq1 (sz := sz) (fun _ => hcl) hlc
            refine .value (w' := w) (v := .slice (if cap = p then ao else ao.map (·.add (p * sz))) (q - p) (cap - p)) ?_ (.data _ _ hsub) hs1 (Kept.refl c w) hle
            simp only [execOp, ho, Instr.sliceAt, Sem.run_bind, run_underlying hu, Result.andThen_ok, hv, Instr.slice, Option.map_none, hbr, run_sizeOf' hsz, Sem.run_pure]
          · cases h
        · cases h
      · cases h
    · cases h
theorem y_len (hs : St c H θ w sl a) {t : TypeId} {x : Operand} {n : Int} (ho : o.op = .call { callee := .builtin .len, args := #[x], argTypes := #[t] }) (h : alen P H t (aev sl x) = some n) : Yields P c o a w sl H θ (.data (.int .i64 n)) H := by
  have hr := alen_sound (ty := o.type) hs.sim (aev_sound hs x) h
  refine .read hs (v := .int .i64 n) ?_ (.data _ _ (.int _ _))
  simp only [execOp, ho, resolve, invoke, builtin, Sem.run_bind, Sem.run_pure, Result.andThen_ok, List.map_toArray, List.map_cons, List.map_nil, hr]
theorem y_max (hs : St c H θ w sl a) {ts : Array TypeId} {x y : Operand} {k : IntKind} {m n : Int} (ho : o.op = .call { callee := .builtin .max, args := #[x, y], argTypes := ts }) (hx : aev sl x = .data (.int k m)) (hy : aev sl y = .data (.int k n)) :
    Yields P c o a w sl H θ (.data (.int k (max m n))) H := by
  have h1 := aev_sound hs x
  have h2 := aev_sound hs y
  rw [hx] at h1
  rw [hy] at h2
  refine .read hs (v := .int k (max m n)) ?_ (.data _ _ (.int _ _))
  have e : max m n = if n > m then n else m := by
    rw [Int.max_def]
    split <;> split <;> omega
  simp [execOp, ho, resolve, invoke, builtin, h1.data_inv.int_eq, h2.data_inv.int_eq, Builtin.max_, Builtin.max2, e]
theorem y_min (hs : St c H θ w sl a) {ts : Array TypeId} {x y : Operand} {k : IntKind} {m n : Int} (ho : o.op = .call { callee := .builtin .min, args := #[x, y], argTypes := ts }) (hx : aev sl x = .data (.int k m)) (hy : aev sl y = .data (.int k n)) :
    Yields P c o a w sl H θ (.data (.int k (min m n))) H := by
  have h1 := aev_sound hs x
  have h2 := aev_sound hs y
  rw [hx] at h1
  rw [hy] at h2
  refine .read hs (v := .int k (min m n)) ?_ (.data _ _ (.int _ _))
  have e : min m n = if n < m then n else m := by
    rw [Int.min_def]
    split <;> split <;> omega
  simp [execOp, ho, resolve, invoke, builtin, h1.data_inv.int_eq, h2.data_inv.int_eq, Builtin.min_, Builtin.min2, e]
end
end Go.Ab
