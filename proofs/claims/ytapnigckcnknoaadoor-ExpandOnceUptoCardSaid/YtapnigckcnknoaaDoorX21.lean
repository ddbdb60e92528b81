/-
  One text of the proof (own work): contracts of functions of the program, by the abstract machine.
-/
import Derived.WalkKit
import Derived.Test.YtapnigckcnknoaaDoorX12
import Derived.Test.YtapnigckcnknoaaDoorX20
import Derived.Test.YtapnigckcnknoaaDoorX11
import Derived.Test.YtapnigckcnknoaaDoorX13
import Derived.Test.YtapnigckcnknoaaDoorX18
import Derived.Test.YtapnigckcnknoaaDoorX14
set_option linter.unusedVariables false
set_option linter.unusedSimpArgs false
namespace Go.Ab
open Go Go.RowKit Go.Proofs
set_option maxRecDepth 100000
set_option maxHeartbeats 40000000
theorem eq_nilW (ao : Option Addr) (n cap : Nat) (w : World) : (binOp BinOp.eql 53 (.slice ao n cap) (.slice none 0 0)).run Tryd.prog w = .ok (.bool ao.isNone) w := by
  have heq : ∀ k, (Op.equalIn (k + 1) 53 (.slice ao n cap) (.slice none 0 0)).run Tryd.prog w = .ok ao.isNone w := fun k => by
    simp only [Op.equalIn, Sem.run_bind, run_underlying ty_und53, Result.andThen_ok, Sem.run_pure]
    cases ao <;> simp
  have h2 : (Op.equal 53 (.slice ao n cap) (.slice none 0 0)).run Tryd.prog w = .ok ao.isNone w := heq 9999
  simp only [binOp, Sem.run_bind, h2, Result.andThen_ok, Sem.run_pure]
theorem callCloW (ao : Option Addr) (cap : Nat) (w : World) :
    Calls Tryd.prog 21 #[.slice ao 0 cap] w fun e w' => ∃ v, e = .returned v ∧ ownsM w' w.heap.size 56 3 v 0 [] ∧ Below w.heap.size w w' := by
  cases ao with
  | none =>
    go_enter Tryd.func21, Tryd.ntmps21
    go_wp2
    rw [eq_nilW]
    simp only [Result.andThen]
    rw [Oper.upon_value]
    go_wp2
    go_ret
    exact ⟨_, rfl, ⟨rfl, .inl ⟨rfl, rfl⟩⟩, Below.refl _ _⟩
  | some a =>
    go_enter Tryd.func21, Tryd.ntmps21
    go_wp2
    rw [eq_nilW]
    simp only [Result.andThen]
    rw [Oper.upon_value]
    go_wp2
    go_ret
    exact ⟨_, rfl, ownsM_lit w #[] 0 (Nat.le_refl _) (Nat.zero_le _) rfl, (Below.refl _ _).alloc (Nat.le_refl _) _⟩
theorem f_cloW_ex : ∃ g, OwnOK Tryd.prog 21 g ∧ ∀ l : List Wd, l.length ≤ 1099511627776 ∧ l ≠ [] → ∃ m, m = l.map eWd ∧ g [.list (l.map eWd)] = some (56, 3, m) := by
  have hΓ := Γ0_ok
  refine own_ex (enc := fun l : List Wd => [.list (l.map eWd)]) (dom := fun l => l.length ≤ 1099511627776 ∧ l ≠ []) (good := fun l m => m = l.map eWd) (t := 56) (sz := 3) (n := 8) (rs := [.tmp 2]) (by omega) Tryd.func21 (by kernel_rfl) rfl (by kernel_rfl) (by kernel_rfl) (fun a b h => by
    simp only [List.cons.injEq, and_true, D.list.injEq] at h
    exact cast (eWd_ie _ _) h) ?_
  rintro l ⟨hl, hne⟩
  obtain ⟨x, l, rfl⟩ := List.exists_cons_of_ne_nil hne
  refine ⟨fun l' hm => hm ▸ elemsOK_map (f := eWd) (sz := 3) wd_cells _, ?_⟩
  rw [List.map_cons, eWd_eq]
  have hom := hid_one x.2
  generalize hidD x.2 = hx at *
  unfold D.one at hom
  rw [start_frame (by simp)]; simp only [enumV, go_sem, emptyH]
  have hem : elemsOK 3 (l.map eWd) = true := elemsOK_map (f := eWd) (sz := 3) wd_cells l
  have hml : (l.map eWd).length + 1 ≤ 1099511627776 := by simpa using hl
  generalize l.map eWd = m at *
  (repeat (first | (apply axJ; (focus ((with_reducible constructor) <;> rfl))) | ((first | apply axR hΓ | apply axG | apply ovX rfl | apply ovE rfl); (simp (disch := omega) only [go_sem, ↓reduceIte, ↓lk, dk, hem, hom] <;> with_reducible rfl); exact trivial) | rfl))
  exact reto_x (o := 3) (l := .agg [i64 x.1.1, .str x.1.2, hx] :: m) rfl (by simp [go_sem]) rfl rfl
open Classical in
noncomputable def g_cloW : List D → Option (TypeId × Nat × List D) := fun ds => if ds = [.list []] then some (56, 3, []) else f_cloW_ex.choose ds
theorem g_cloW_eq {l : List Wd} (h : l.length ≤ 1099511627776) : g_cloW [.list (l.map eWd)] = some (56, 3, l.map eWd) := by
  cases l with
  | nil => rw [List.map_nil]; exact if_pos rfl
  | cons x l =>
    obtain ⟨m, rfl, h2⟩ := f_cloW_ex.choose_spec.2 (x :: l) ⟨h, by simp⟩
    rw [← h2]
    exact if_neg (by simp)
theorem f_cloW_ok : OwnOK Tryd.prog 21 g_cloW := by
  intro ds e sz l hd
  unfold g_cloW at hd
  by_cases hds : ds = [.list []]
  · rw [if_pos hds] at hd
    cases hd
    subst hds
    refine ⟨by omega, by simp, by simp [flat], fun w B vs hB hz hvs => ⟨⟨_, Tryd.func21, rfl, rfl⟩, ?_⟩⟩
    obtain ⟨u, hu⟩ : ∃ u, vs[0]? = some u := ⟨_, Array.getElem?_eq_getElem (by simp at hz; omega)⟩
    obtain ⟨ao, cap, hv, _⟩ := (hvs 0 (by simp) u hu).list_inv
    have hvs2 : vs = #[.slice ao 0 cap] := by
      apply Array.ext_getElem?
      intro i
      match i with
      | 0 => rw [hu, hv]; rfl
      | i + 1 => rw [Array.getElem?_eq_none (by simp at hz; omega), Array.getElem?_eq_none (by simp)]
    rw [hvs2]
    refine (callCloW ao cap w).mono ?_
    rintro e w' ⟨v, rfl, ho, hb⟩
    exact ⟨_, rfl, ⟨[], ho, fun i hi => by simp [flat] at hi⟩, hb⟩
  · rw [if_neg hds] at hd
    exact f_cloW_ex.choose_spec.1 ds e sz l hd
theorem eq_nilS7 (ao : Option Addr) (n cap : Nat) (w : World) : (binOp BinOp.eql 27 (.slice ao n cap) (.slice none 0 0)).run Tryd.prog w = .ok (.bool ao.isNone) w := by
  have heq : ∀ k, (Op.equalIn (k + 1) 27 (.slice ao n cap) (.slice none 0 0)).run Tryd.prog w = .ok ao.isNone w := fun k => by
    simp only [Op.equalIn, Sem.run_bind, run_underlying ty_und27, Result.andThen_ok, Sem.run_pure]
    cases ao <;> simp
  have h2 : (Op.equal 27 (.slice ao n cap) (.slice none 0 0)).run Tryd.prog w = .ok ao.isNone w := heq 9999
  simp only [binOp, Sem.run_bind, h2, Result.andThen_ok, Sem.run_pure]
theorem callCloS7 (ao : Option Addr) (cap : Nat) (w : World) :
    Calls Tryd.prog 25 #[.slice ao 0 cap] w fun e w' => ∃ v, e = .returned v ∧ ownsM w' w.heap.size 33 3 v 0 [] ∧ Below w.heap.size w w' := by
  cases ao with
  | none =>
    go_enter Tryd.func25, Tryd.ntmps25
    go_wp2
    rw [eq_nilS7]
    simp only [Result.andThen]
    rw [Oper.upon_value]
    go_wp2
    go_ret
    exact ⟨_, rfl, ⟨rfl, .inl ⟨rfl, rfl⟩⟩, Below.refl _ _⟩
  | some a =>
    go_enter Tryd.func25, Tryd.ntmps25
    go_wp2
    rw [eq_nilS7]
    simp only [Result.andThen]
    rw [Oper.upon_value]
    go_wp2
    go_ret
    exact ⟨_, rfl, ownsM_lit w #[] 0 (Nat.le_refl _) (Nat.zero_le _) rfl, (Below.refl _ _).alloc (Nat.le_refl _) _⟩
theorem f_cloS7_ex : ∃ g, OwnOK Tryd.prog 25 g ∧ ∀ l : List Sp, l.length ≤ 1099511627776 ∧ l ≠ [] → ∃ m, m = l.map eSp ∧ g [.list (l.map eSp)] = some (33, 3, m) := by
  have hΓ := Γ0_ok
  refine own_ex (enc := fun l : List Sp => [.list (l.map eSp)]) (dom := fun l => l.length ≤ 1099511627776 ∧ l ≠ []) (good := fun l m => m = l.map eSp) (t := 33) (sz := 3) (n := 8) (rs := [.tmp 2]) (by omega) Tryd.func25 (by kernel_rfl) rfl (by kernel_rfl) (by kernel_rfl) (fun a b h => by
    simp only [List.cons.injEq, and_true, D.list.injEq] at h
    exact cast (eSp_ie _ _) h) ?_
  rintro l ⟨hl, hne⟩
  obtain ⟨x, l, rfl⟩ := List.exists_cons_of_ne_nil hne
  refine ⟨fun l' hm => hm ▸ elemsOK_map (f := eSp) (sz := 3) (fun _ => ⟨rfl, rfl⟩) _, ?_⟩
  rw [List.map_cons, eSp_eq]
  rw [start_frame (by simp)]; simp only [enumV, go_sem, emptyH]
  have hem : elemsOK 3 (l.map eSp) = true := elemsOK_map (f := eSp) (sz := 3) (fun _ => ⟨rfl, rfl⟩) l
  have hml : (l.map eSp).length + 1 ≤ 1099511627776 := by simpa using hl
  generalize l.map eSp = m at *
  (repeat (first | (apply axJ; (focus ((with_reducible constructor) <;> rfl))) | ((first | apply axR hΓ | apply axG | apply ovX rfl | apply ovE rfl); (simp (disch := omega) only [go_sem, ↓reduceIte, ↓lk, dk, hem] <;> with_reducible rfl); exact trivial) | rfl))
  exact reto_x (o := 3) (l := eSp x :: m) rfl (by simp [go_sem]) rfl rfl
open Classical in
noncomputable def g_cloS7 : List D → Option (TypeId × Nat × List D) := fun ds => if ds = [.list []] then some (33, 3, []) else f_cloS7_ex.choose ds
theorem g_cloS7_eq {l : List Sp} (h : l.length ≤ 1099511627776) : g_cloS7 [.list (l.map eSp)] = some (33, 3, l.map eSp) := by
  cases l with
  | nil => rw [List.map_nil]; exact if_pos rfl
  | cons x l =>
    obtain ⟨m, rfl, h2⟩ := f_cloS7_ex.choose_spec.2 (x :: l) ⟨h, by simp⟩
    rw [← h2]
    exact if_neg (by simp)
theorem f_cloS7_ok : OwnOK Tryd.prog 25 g_cloS7 := by
  intro ds e sz l hd
  unfold g_cloS7 at hd
  by_cases hds : ds = [.list []]
  · rw [if_pos hds] at hd
    cases hd
    subst hds
    refine ⟨by omega, by simp, by simp [flat], fun w B vs hB hz hvs => ⟨⟨_, Tryd.func25, rfl, rfl⟩, ?_⟩⟩
    obtain ⟨u, hu⟩ : ∃ u, vs[0]? = some u := ⟨_, Array.getElem?_eq_getElem (by simp at hz; omega)⟩
    obtain ⟨ao, cap, hv, _⟩ := (hvs 0 (by simp) u hu).list_inv
    have hvs2 : vs = #[.slice ao 0 cap] := by
      apply Array.ext_getElem?
      intro i
      match i with
      | 0 => rw [hu, hv]; rfl
      | i + 1 => rw [Array.getElem?_eq_none (by simp at hz; omega), Array.getElem?_eq_none (by simp)]
    rw [hvs2]
    refine (callCloS7 ao cap w).mono ?_
    rintro e w' ⟨v, rfl, ho, hb⟩
    exact ⟨_, rfl, ⟨[], ho, fun i hi => by simp [flat] at hi⟩, hb⟩
  · rw [if_neg hds] at hd
    exact f_cloS7_ex.choose_spec.1 ds e sz l hd
end Go.Ab
namespace Go.Ab
open Go Go.RowKit
section
variable {c : Ctx} {H : Heap} {θ : Nat → Value} {w : World}
theorem freeze_map (hs : HSim c H θ w) {ob : Nat} {ks vs : List D} (hg : H.get ob = some (.map ks vs)) :
    HSim c (H.set ob .dead) θ w ∧ (∀ y u, VR H θ w (vis c H θ w) y u → VR (H.set ob .dead) θ w (vis c (H.set ob .dead) θ w) y u) ∧ (∀ b, vis c H θ w b → vis c (H.set ob .dead) θ w b) ∧ HLe H θ (H.set ob .dead) θ ∧
      ∀ v, VR H θ w (vis c H θ w) (.mref ob) v → DR w (vis c (H.set ob .dead) θ w) (.map ks vs) v := by
  have hown : ∀ b, own (H.set ob .dead) θ b → ∃ o y, o ≠ ob ∧ H.get o = some y ∧ y.live = true ∧ blk (θ o) = some b := by
    rintro b ⟨o, y, hgo, hy, hb⟩
    rw [Heap.get_set] at hgo
    by_cases ho : o = ob
    · rw [if_pos ho] at hgo
      cases hgo
      cases hy
    · rw [if_neg ho] at hgo
      exact ⟨o, y, ho, hgo, hy, hb⟩
  have hv : ∀ b, vis c H θ w b → vis c (H.set ob .dead) θ w b := fun b ⟨h1, h2, h3⟩ => ⟨h1, fun h => by
    obtain ⟨o, y, _, k1, k2, k3⟩ := hown b h
    exact h2 ⟨o, y, k1, k2, k3⟩, h3⟩
  have hle : HLe H θ (H.set ob .dead) θ := by
    refine ⟨fun o ho => Heap.ref_set ho, fun o x' ho h => ?_⟩
    rw [Heap.get_set] at h
    by_cases hoo : o = ob
    · rw [if_pos hoo] at h
      cases h
      subst hoo
      exact ⟨_, hg, trivial, fun _ => rfl⟩
    · rw [if_neg hoo] at h
      exact ⟨x', h, x'.evo_refl, fun _ => rfl⟩
  have hvr : ∀ y u, VR H θ w (vis c H θ w) y u → VR (H.set ob .dead) θ w (vis c (H.set ob .dead) θ w) y u := fun y u h => h.mono (fun b hb => ⟨hv b hb, rfl⟩) hle
  refine ⟨⟨hs.size, fun o y hgo => ?_, fun o o' y y' hgo hgo' hy hy' hne b hb hb' => ?_⟩, hvr, hv, hle, fun v hx => ?_⟩
  · rw [Heap.get_set] at hgo
    by_cases ho : o = ob
    · rw [if_pos ho] at hgo
      cases hgo
      trivial
    · rw [if_neg ho] at hgo
      exact (hs.objs o y hgo).mono (fun b hb => ⟨hv b hb, rfl⟩) hle (fun _ _ _ => rfl)
  · rw [Heap.get_set] at hgo hgo'
    by_cases ho : o = ob
    · rw [if_pos ho] at hgo
      cases hgo
      cases hy
    · rw [if_neg ho] at hgo
      by_cases ho' : o' = ob
      · rw [if_pos ho'] at hgo'
        cases hgo'
        cases hy'
      · rw [if_neg ho'] at hgo'
        exact hs.inj o o' y y' hgo hgo' hy hy' hne b hb hb'
  · obtain ⟨b, clock, es, rfl, hθ, hw, hi, h6, h7, hst, h8, h9⟩ := map_val hs hx hg
    refine .map _ _ b clock es ⟨heap_lt hw, fun h => ?_, fun hlt => .inr ?_⟩ hw h6 h7 hst (fun i hi e he => (h8 i hi e he).mono fun b hb => ⟨hv b hb, rfl⟩) (fun i hi e he => (h9 i hi e he).mono fun b hb => ⟨hv b hb, rfl⟩)
    · obtain ⟨o, y, k0, k1, k2, k3⟩ := hown b h
      exact hs.inj ob o _ y hg k1 rfl k2 (Ne.symm k0) b (by rw [hθ]; rfl) k3
    · rcases hi with h | h
      · omega
      · exact h
end
theorem Weak.mapF {b m i o n : Nat} {t : List (Nat × AV)} {tab : List (Nat × Obj)} {ks vs : List D} (him : i < m) (hi : lookV t i = .mref o) (hg : look tab o = some (.map ks vs)) :
    Weak b (frame m t) ⟨tab, n⟩ (frame m ((i, .data (.map ks vs)) :: t)) ⟨upd tab o .dead, n⟩ := by
  have h : Weak b (frame m t) ⟨tab, n⟩ ((frame m t).set i (.data (.map ks vs))) ((⟨tab, n⟩ : Heap).set o .dead) := fun c θ w a hc hs => by
    have hg' : (⟨tab, n⟩ : Heap).get o = some (.map ks vs) := hg
    obtain ⟨q1, q2, q3, q4, q5⟩ := freeze_map hs.st.sim hg'
    refine ⟨θ, ⟨⟨q1, hs.st.defers, by simp [hs.st.size], fun j x v hx hv => ?_⟩, fun p hp => ?_, hs.base⟩, q4.evo (by rw [← hc]; exact hs.base)⟩
    · rw [List.getElem?_set] at hx
      by_cases hij : i = j
      · subst hij
        rw [if_pos rfl] at hx
        split at hx
        · cases hx
          exact .data _ _ (q5 v (hs.st.vals i (.mref o) v (by rw [frame_at, if_pos him, hi]) hv))
        · cases hx
      · rw [if_neg hij] at hx
        exact q2 x v (hs.st.vals j x v hx hv)
    · rw [Heap.get_set] at hp
      by_cases h : p = o
      · subst h; exact hs.wf p (by rw [hg']; rfl)
      · rw [if_neg h] at hp; exact hs.wf p hp
  rw [frame_set, if_pos him] at h
  exact h
end Go.Ab
namespace Go.Ab
open Go Go.RowKit
section
variable {P : Program} {c : Ctx} {H : Heap} {θ : Nat → Value} {w : World} {sl : List AV} {a : Act} {o : Oper} {Γ : FuncId → Option CSpec}
end
end Go.Ab
namespace Go.Ab
open Go Go.RowKit
section
variable {P : Program} {c : Ctx} {H H' : Heap} {θ : Nat → Value} {w : World} {sl : List AV} {a : Act} {o : Oper} {Γ : FuncId → Option CSpec}
theorem y_insert (hs : St c H θ w sl a) {t : TypeId} {m i x : Operand} (ho : o.op = .insert t m i x) (h : amapUpdate P H t (aev sl m) (aev sl i) (aev sl x) = some H') : Yields P c o a w sl H θ .junk H' := by
  have h' := y_mapUpdate (o := { o with op := .mapUpdate t m i x }) hs rfl h
  have e : execOp a.eval o = execOp a.eval { o with op := .mapUpdate t m i x } := by simp only [execOp, ho]
  intro K Q hk
  have := h' K Q hk
  unfold Oper.wp at this ⊢
  rw [e]
  exact this
theorem awp_regI {ops : Array Oper} {id n k1 m1 : Nat} {nst : Bool} (i : Nat) {t : TypeId} {mm mi mx : Operand} {sl sl1 : List AV} {tab tab1 : List (Nat × Obj)} {H2 : Heap} {Q : Exit → List AV → Heap → Prop}
    (hΓ : ∀ f s, Γ f = some s → SpecOK P f s) (ho : ops.toList = ops.toList.take i ++ o :: ops.toList.drop (i + 1)) (hop : o.op = .insert t mm mi mx) (hg : o.guard = none)
    (h1 : runTill P Γ nst ops n (ops.toList.take i) sl ⟨tab, n⟩ = some (k1, sl1, ⟨tab1, m1⟩)) (h2 : amapUpdate P ⟨tab1, m1⟩ t (aev sl1 mm) (aev sl1 mi) (aev sl1 mx) = some H2)
    (hrest : ∃ sl' H', runOps P Γ nst ops (nextK k1 H2) (ops.toList.drop (i + 1)) (putA sl1 o.dst .junk) H2 = some (sl', H') ∧ Q .normal sl' H') : awp P c (.region id ops false) Q sl ⟨tab, n⟩ := by
  intro θ w a hs
  refine wp_region_list ?_
  rw [ho]
  refine runTill_sound hΓ (ops.toList.take i) n k1 sl ⟨tab, n⟩ θ w a sl1 ⟨tab1, m1⟩ h1 hs.st hs.wf (Nat.le_refl _) fun a1 w1 θ1 hs1 hb1 hn1 hkk hk1 hl1 => ?_
  refine wpList_step fun K hK => ?_
  rw [if_pos (wanted_sound hs1 (b := true) (by unfold wantedA; rw [hg]))]
  refine y_insert hs1 hop h2 K _ fun v w2 θ2 hv hs2 hk2 hl2 => hK _ _ ?_
  obtain ⟨sl', H', hrun, hQ⟩ := hrest
  have hkey := (amapUpdate_keys h2).ok hb1
  refine runOps_sound hΓ _ _ _ _ θ2 w2 _ sl' H' hrun (hs2.putA hv _) hkey.2 (nextK_ge _ _) fun a' w' θ' hs' hb hn hk hl => ?_
  exact ⟨sl', _, θ', hQ, ⟨hs', hb, Nat.le_trans hs.base (by have := nextK_gt k1 H2; show n ≤ _; omega)⟩, (hk1.trans hk2).trans hk, ((hl1.trans hl2).trans hl).evo hs.base⟩
end
end Go.Ab
namespace Go.Ab
open Go Go.RowKit Go.Proofs
set_option maxRecDepth 10000
set_option maxHeartbeats 40000000
def eRp (p : List Wd × Int) : D := .tup [.list (p.1.map eWd), i64 p.2]
theorem idx_at7 (t : Bs) (l : List Bs) : idx (fun w => w == t) l = atI (l.findIdx? (fun p => p == t)) := by
  unfold idx atI
  cases l.findIdx? (fun w => w == t) <;> rfl
theorem body_len7 (fs : List Fl) (b : Sp) : (bodyB fs b).1.length ≤ 256 := by
  unfold bodyB
  split
  · split
    · unfold bodyR
      split
      · simp
      · unfold bodyT
        split
        · split
          · simp
          · rename_i h
            simp only [decide_eq_true_eq] at h
            dsimp only
            omega
        · simp
    · simp
  · simp
@[go_sem] theorem hidMC (h : List Bs) : D.cells.match_1 (fun _ => List D) (hidD h) (fun cs => cs) (fun d => [d]) = [hidD h] := by cases h <;> rfl
theorem both_hid (nm : Bs) (h x : List Bs) : D.set (bothB (bothB [nm] h) x) = hidD (bothB (bothB [nm] h) x) := by
  cases hb : bothB (bothB [nm] h) x with
  | nil =>
    have : nm ∈ bothB (bothB [nm] h) x := (both_mem _ _ _).2 (.inl ((both_mem _ _ _).2 (.inl (by simp))))
    rw [hb] at this
    cases this
  | cons s r => rfl
theorem put_nil (s : Bs) (v : D) : mput Tryd.prog 9 [] [] (.str s) v = some ([.str s], [v]) := rfl
structure WdOK (w : Wd) : Prop where
  len : w.2.length ≤ 1000000000
  str : ∀ s ∈ w.2, s.length ≤ 1099511627776
noncomputable def g_replP : List D → Option D := encSpec (fun x : (List Fl) × Mc × (List Wd) × Nat => [.list (x.1.map eFl), eMc x.2.1, .list (x.2.2.1.map eWd), i64 x.2.2.2]) (fun x : (List Fl) × Mc × (List Wd) × Nat => ((x.1.length ≤ 1099511627776 ∧ ∀ f ∈ x.1, f.2.length ≤ 1000000000) ∧ (x.2.1.params.length ≤ 1000000 ∧ x.2.1.name.length ≤ 1099511627776)) ∧ ((x.2.2.1.length ≤ 256 ∧ x.2.2.2 < x.2.2.1.length) ∧ ∀ w ∈ x.2.2.1, WdOK w)) (fun x : (List Fl) × Mc × (List Wd) × Nat => eRp (replG x.1 x.2.1 x.2.2.1 x.2.2.2))
theorem g_replP_eq {fs : List Fl} {m : Mc} {l : List Wd} {n : Nat} (hd : ((fs.length ≤ 1099511627776 ∧ ∀ f ∈ fs, f.2.length ≤ 1000000000) ∧ (m.params.length ≤ 1000000 ∧ m.name.length ≤ 1099511627776)) ∧ ((l.length ≤ 256 ∧ n < l.length) ∧ ∀ w ∈ l, WdOK w)) : g_replP [.list (fs.map eFl), eMc m, .list (l.map eWd), .int .i64 n] = some (eRp (replG fs m l n)) := encSpec_eq (x := (fs, m, l, n)) hd fun y hy => by
    obtain ⟨y0, y1, y2, y3⟩ := y; simp only [List.cons.injEq, and_true, true_and, D.str.injEq, D.int.injEq, D.list.injEq, D.bool.injEq, D.agg.injEq, D.clo.injEq, Int.natCast_inj, inj_ie, D.ref.injEq, eU_e, eWd_e, eWd_ie, eWds_ie, eTk_ie, eTk_e, eFl_ie, eSp_ie, eSp_e, eMc_e, eMc_ie, hid_e] at hy
    (try obtain ⟨rfl, rfl, rfl, rfl⟩ := hy)
    (try subst_vars)
    rfl
theorem f_replP_ok : PureOK Tryd.prog 12 false g_replP := by
  have hΓ := Γp f_argsP_ok (Γp f_bodyP_ok (Γo f_cloW_ok (Γp f_sIdx07_ok (Γp f_with_ok (Γn)))))
  refine pure_enc (n := 121) (rs := [.tmp 8, .tmp 9]) Tryd.func12 (by kernel_rfl) rfl (by kernel_rfl) (by kernel_rfl) ?_
  rintro ⟨fs, m, l, n⟩ hd
  (try dsimp only at hd ⊢)
  refine ⟨fun h => (by cases h), fun k hz0 => ?_⟩
  obtain ⟨mn, mp, m3, m4, m5⟩ := m
  obtain ⟨⟨⟨d1, d2⟩, d3, d4⟩, ⟨d5, d6⟩, d7⟩ := hd
  dsimp only at d3 d4
  rw [eMc_eq]
  dsimp only
  have hR : replG fs ⟨mn, mp, (m3, m4, m5)⟩ l n = if (argsE ⟨mn, mp, (m3, m4, m5)⟩ (l.drop (n + 1))).2 == 0 then
      (if (bodyB fs (m3, m4, m5)).2 == 0 then
        (if decide (((nowG ⟨mn, mp, (m3, m4, m5)⟩ l n (argsE ⟨mn, mp, (m3, m4, m5)⟩ (l.drop (n + 1))).1.1 (argsE ⟨mn, mp, (m3, m4, m5)⟩ (l.drop (n + 1))).1.2 (bodyB fs (m3, m4, m5)).1).length : Int) > 256) then ([], 10)
         else (nowG ⟨mn, mp, (m3, m4, m5)⟩ l n (argsE ⟨mn, mp, (m3, m4, m5)⟩ (l.drop (n + 1))).1.1 (argsE ⟨mn, mp, (m3, m4, m5)⟩ (l.drop (n + 1))).1.2 (bodyB fs (m3, m4, m5)).1, 0))
       else ([], (bodyB fs (m3, m4, m5)).2))
      else ([], (argsE ⟨mn, mp, (m3, m4, m5)⟩ (l.drop (n + 1))).2) := rfl
  have hAE : argsE ⟨mn, mp, (m3, m4, m5)⟩ (l.drop (n + 1)) = if mp.isEmpty then (([], l.drop (n + 1)), (0 : Int)) else match argsG (l.drop (n + 1)) with
      | none => (([], []), 4)
      | some (a, r) => if a.length == mp.length then ((a, r), 0) else (([], []), 9) := rfl
  have hAO := fun h => argsE_ok (m := ⟨mn, mp, (m3, m4, m5)⟩) (l := l.drop (n + 1)) h
  have hgt : decide ((mp.length : Int) > 0) = !mp.isEmpty := by cases mp <;> simp <;> omega
  have e4 := g_argsP_eq (l := l.drop (n + 1)) (by rw [List.length_drop]; omega)
  have hn1 : ((n : Int) + 1).toNat = n + 1 := by omega
  have q2 : List.take (l.length - (n + 1)) (List.drop (n + 1) (l.map eWd)) = (l.drop (n + 1)).map eWd := by
    rw [← List.map_drop]
    exact List.take_of_length_le (by rw [List.length_map, List.length_drop]; omega)
  rw [start_frame (by simp)]; simp only [enumV, go_sem, emptyH]
  repeat (first
    | (apply axJ; (focus ((with_reducible constructor) <;> rfl)))
    | (apply awT mixedOK hΓ (by kernel_rfl); (simp (disch := omega) only [go_sem, ↓reduceIte, dk, ↓lk, Int.reduceBEq, Int.reduceBNe, Bool.true_bne, Bool.false_bne, Bool.not_true, Bool.not_false, hn1, q2] <;> with_reducible rfl))
    | ((first | apply awR hΓ | apply awG | apply awH mixedOK hΓ rfl (by kernel_rfl) | apply ovE rfl); (simp (disch := omega) only [go_sem, ↓reduceIte, dk, ↓lk, Int.reduceBEq, Int.reduceBNe, Bool.true_bne, Bool.false_bne, Bool.not_true, Bool.not_false, hn1, q2] <;> with_reducible rfl); exact trivial)
    | rfl)
  refine awp_mid (Y := List (List Wd) × List Wd) (fun y => (frame 121 [(0, .data (.list (fs.map eFl))), (2, .data (.list (l.map eWd))), (3, .data (i64 n)), (5, .ptr 0 0), (10, .data (.list (y.1.map eWds))), (11, .data (.list (y.2.map eWd)))])) (fun _ => [(0, .box [.data (.str mn), .data (.list (mp.map .str)), .data (.str m3), .data (i64 m4), .data (i64 m5)])]) 13
    (fun y => argsE ⟨mn, mp, (m3, m4, m5)⟩ (l.drop (n + 1)) = ((y.1, y.2), 0)) ?_ ?_
  · cases hmp : mp.isEmpty
    case true =>
      rw [hmp] at hgt hAE
      simp only [if_true] at hAE
      repeat (first
        | (apply axJ; (focus ((with_reducible constructor) <;> rfl)))
        | (apply awT mixedOK hΓ (by kernel_rfl); (simp (disch := omega) only [go_sem, ↓reduceIte, dk, ↓lk, Int.reduceBEq, Int.reduceBNe, Bool.true_bne, Bool.false_bne, Bool.not_true, Bool.not_false, hgt] <;> with_reducible rfl))
        | ((first | apply awR hΓ | apply awG | apply awH mixedOK hΓ rfl (by kernel_rfl) | apply ovE rfl); (simp (disch := omega) only [go_sem, ↓reduceIte, dk, ↓lk, Int.reduceBEq, Int.reduceBNe, Bool.true_bne, Bool.false_bne, Bool.not_true, Bool.not_false, hgt] <;> with_reducible rfl); exact trivial)
        | rfl)
      exact ⟨([], l.drop (n + 1)), hAE, Weak.w⟩
    rw [hmp] at hgt hAE
    simp only [Bool.false_eq_true, if_false] at hAE
    cases hag : argsG (l.drop (n + 1)) with
    | none =>
      rw [hag] at e4 hAE
      dsimp only at hAE
      replace e4 : g_argsP [.list ((l.drop (n + 1)).map eWd)] = some (.tup [.list [], .list [], .int .i64 4]) := e4
      rw [hAE] at hR
      replace hR : replG fs ⟨mn, mp, (m3, m4, m5)⟩ l n = ([], 4) := hR
      rw [hR]
      repeat (first
        | (apply axJ; (focus ((with_reducible constructor) <;> rfl)))
        | (apply awT mixedOK hΓ (by kernel_rfl); (simp (disch := omega) only [go_sem, ↓reduceIte, dk, ↓lk, Int.reduceBEq, Int.reduceBNe, Bool.true_bne, Bool.false_bne, Bool.not_true, Bool.not_false, hgt, e4] <;> with_reducible rfl))
        | ((first | apply awR hΓ | apply awG | apply awH mixedOK hΓ rfl (by kernel_rfl) | apply ovE rfl); (simp (disch := omega) only [go_sem, ↓reduceIte, dk, ↓lk, Int.reduceBEq, Int.reduceBNe, Bool.true_bne, Bool.false_bne, Bool.not_true, Bool.not_false, hgt, e4] <;> with_reducible rfl); exact trivial)
        | rfl)
      try rfl
    | some q =>
      obtain ⟨a, r⟩ := q
      rw [hag] at e4 hAE
      replace e4 : g_argsP [.list ((l.drop (n + 1)).map eWd)] = some (.tup [.list (a.map eWds), .list (r.map eWd), .int .i64 0]) := e4
      dsimp only at hAE
      cases hal : (a.length == mp.length)
      · have hal2 : (((a.length : Nat) : Int) != (mp.length : Int)) = true := by
          simp only [beq_eq_false_iff_ne] at hal
          simp only [bne_iff_ne, ne_eq]
          omega
        rw [hal] at hAE
        simp only [Bool.false_eq_true, if_false] at hAE
        rw [hAE] at hR
        replace hR : replG fs ⟨mn, mp, (m3, m4, m5)⟩ l n = ([], 9) := hR
        rw [hR]
        repeat (first
          | (apply axJ; (focus ((with_reducible constructor) <;> rfl)))
          | (apply awT mixedOK hΓ (by kernel_rfl); (simp (disch := omega) only [go_sem, ↓reduceIte, dk, ↓lk, Int.reduceBEq, Int.reduceBNe, Bool.true_bne, Bool.false_bne, Bool.not_true, Bool.not_false, hgt, e4, hal2] <;> with_reducible rfl))
          | ((first | apply awR hΓ | apply awG | apply awH mixedOK hΓ rfl (by kernel_rfl) | apply ovE rfl); (simp (disch := omega) only [go_sem, ↓reduceIte, dk, ↓lk, Int.reduceBEq, Int.reduceBNe, Bool.true_bne, Bool.false_bne, Bool.not_true, Bool.not_false, hgt, e4, hal2] <;> with_reducible rfl); exact trivial)
          | rfl)
        try rfl
      · have hal2 : (((a.length : Nat) : Int) != (mp.length : Int)) = false := by
          simp only [beq_iff_eq] at hal
          simp [hal]
        rw [hal] at hAE
        simp only [if_true] at hAE
        repeat (first
          | (apply axJ; (focus ((with_reducible constructor) <;> rfl)))
          | (apply awT mixedOK hΓ (by kernel_rfl); (simp (disch := omega) only [go_sem, ↓reduceIte, dk, ↓lk, Int.reduceBEq, Int.reduceBNe, Bool.true_bne, Bool.false_bne, Bool.not_true, Bool.not_false, hgt, e4, hal2] <;> with_reducible rfl))
          | ((first | apply awR hΓ | apply awG | apply awH mixedOK hΓ rfl (by kernel_rfl) | apply ovE rfl); (simp (disch := omega) only [go_sem, ↓reduceIte, dk, ↓lk, Int.reduceBEq, Int.reduceBNe, Bool.true_bne, Bool.false_bne, Bool.not_true, Bool.not_false, hgt, e4, hal2] <;> with_reducible rfl); exact trivial)
          | rfl)
        exact ⟨(a, r), hAE, Weak.w⟩
  rintro ⟨a, r⟩ hA
  dsimp only at hA ⊢
  obtain ⟨v1, v2, v3⟩ := hAO (by rw [hA])
  rw [hA] at hR v1 v2 v3
  clear hAO hAE hA e4 hgt
  dsimp only at hR v1 v2 v3
  simp only [beq_self_eq_true, if_true] at hR
  have e3 := g_bodyP_eq (fs := fs) (m := ⟨mn, mp, (m3, m4, m5)⟩) ⟨d1, d2⟩
  have hbl := body_len7 fs (m3, m4, m5)
  dsimp only at e3
  generalize bodyB fs (m3, m4, m5) = B at *
  obtain ⟨b, be⟩ := B
  replace e3 : g_bodyP [.list (fs.map eFl), .agg [.str mn, .list (mp.map .str), .str m3, .int .i64 m4, .int .i64 m5]] = some (.tup [.list (b.map eTk), .int .i64 be]) := e3
  dsimp only at hR hbl
  by_cases hbe : be = 0
  case neg =>
    have hbe2 : (be != 0) = true := by simpa using hbe
    have hbe3 : (be == 0) = false := by simpa using hbe
    rw [hbe3] at hR
    simp only [Bool.false_eq_true, if_false] at hR
    rw [hR]
    repeat (first
      | (apply axJ; (focus ((with_reducible constructor) <;> rfl)))
      | (apply awT mixedOK hΓ (by kernel_rfl); (simp (disch := omega) only [go_sem, ↓reduceIte, dk, ↓lk, Int.reduceBEq, Int.reduceBNe, Bool.true_bne, Bool.false_bne, Bool.not_true, Bool.not_false, e3, hbe2] <;> with_reducible rfl))
      | ((first | apply awR hΓ | apply awG | apply awH mixedOK hΓ rfl (by kernel_rfl) | apply ovE rfl); (simp (disch := omega) only [go_sem, ↓reduceIte, dk, ↓lk, Int.reduceBEq, Int.reduceBNe, Bool.true_bne, Bool.false_bne, Bool.not_true, Bool.not_false, e3, hbe2] <;> with_reducible rfl); exact trivial)
      | rfl)
    try rfl
  subst hbe
  simp only [beq_self_eq_true, if_true] at hR
  have e5 := g_cloW_eq (l := l.take n) (by rw [List.length_take]; omega)
  have q3 : List.take n (l.map eWd) = (l.take n).map eWd := by rw [List.map_take]
  have htl : (l.take n).length = n := by rw [List.length_take]; omega
  repeat (first
    | (apply axJ; (focus ((with_reducible constructor) <;> rfl)))
    | (apply awT mixedOK hΓ (by kernel_rfl); (simp (disch := omega) only [go_sem, ↓reduceIte, dk, ↓lk, Int.reduceBEq, Int.reduceBNe, Bool.true_bne, Bool.false_bne, Bool.not_true, Bool.not_false, Int.toNat_natCast, Nat.sub_zero, List.drop_zero, List.all_nil, Bool.and_self, lk_key, put_nil, e3, e5, q3, List.length_map, htl] <;> with_reducible rfl))
    | ((first | apply awR hΓ | apply awG | apply awH mixedOK hΓ rfl (by kernel_rfl) | apply ovE rfl); (simp (disch := omega) only [go_sem, ↓reduceIte, dk, ↓lk, Int.reduceBEq, Int.reduceBNe, Bool.true_bne, Bool.false_bne, Bool.not_true, Bool.not_false, Int.toNat_natCast, Nat.sub_zero, List.drop_zero, List.all_nil, Bool.and_self, lk_key, put_nil, e3, e5, q3, List.length_map, htl] <;> with_reducible rfl); exact trivial)
    | rfl)
  refine awp_regI (nst := false) 3 hΓ rfl rfl rfl (by simp only [runTill, List.take_succ_cons, List.take_zero, go_sem, ↓reduceIte]; rfl) (by simp only [go_sem, List.all_nil, Bool.and_self, lk_key, put_nil, ↓reduceIte]; rfl) ⟨_, ⟨_, _⟩, by simp only [List.drop_succ_cons, List.drop_zero, go_sem, ↓reduceIte]; rfl, ?_⟩
  repeat (first
    | (apply axJ; (focus ((with_reducible constructor) <;> rfl)))
    | (apply awT mixedOK hΓ (by kernel_rfl); (simp (disch := omega) only [go_sem, ↓reduceIte, dk, ↓lk, Int.reduceBEq, Int.reduceBNe, Bool.true_bne, Bool.false_bne, Bool.not_true, Bool.not_false, Int.toNat_natCast, Nat.sub_zero, List.drop_zero, e3, e5, q3, List.length_map, htl] <;> with_reducible rfl))
    | ((first | apply awR hΓ | apply awG | apply awH mixedOK hΓ rfl (by kernel_rfl) | apply ovE rfl); (simp (disch := omega) only [go_sem, ↓reduceIte, dk, ↓lk, Int.reduceBEq, Int.reduceBNe, Bool.true_bne, Bool.false_bne, Bool.not_true, Bool.not_false, Int.toNat_natCast, Nat.sub_zero, List.drop_zero, e3, e5, q3, List.length_map, htl] <;> with_reducible rfl); exact trivial)
    | rfl)
  have hgd : (l.getD n ((0, []), [])).2 = l[n].2 := by rw [List.getD_eq_getElem?_getD, List.getElem?_eq_getElem d6]; rfl
  have hnow : nowG ⟨mn, mp, (m3, m4, m5)⟩ l n a r b = l.take n ++ (b.flatMap (substG ⟨mn, mp, (m3, m4, m5)⟩ a (bothB [mn] l[n].2)) ++ r) := by
    unfold nowG
    rw [hgd]
  have hzo := d7 _ (List.getElem_mem d6)
  generalize hz : l[n] = z at *
  obtain ⟨⟨z1, z2⟩, z3⟩ := z
  obtain ⟨o1, o2⟩ := hzo
  dsimp only at hnow o1 o2
  rw [hnow] at hR
  clear hnow hgd e3 e5
  have hSl := fun c => flat_len (m := ⟨mn, mp, (m3, m4, m5)⟩) (args := a) (hid := bothB [mn] z3) (q := 257) (by decide) (fun x hx => by have := (v3 x hx).1; rw [List.length_drop] at this; omega) (b.take c)
  have hst : D.set (bothB [mn] z3) = hidD (bothB [mn] z3) := both_hid mn z3 []
  refine awp_weak (Weak.trans (s2 := (frame 121 [(2, .data (.list (l.map eWd))), (3, .data (i64 n)), (5, .ptr 0 0), (10, .data (.list (a.map eWds))), (11, .data (.list (r.map eWd))), (15, .mref 23), (16, .row 32 n), (62, .data (.list (b.map eTk))), (63, .data (i64 b.length)), (64, .data (i64 0))])) (H2 := ⟨[(0, .box [.data (.str mn), .data (.list (mp.map .str)), .data (.str m3), .data (i64 m4), .data (i64 m5)]), (23, .map [.str mn] [.bool true]), (32, .row 56 3 ((l.take n).map eWd))], 37⟩) (Weak.w) (Weak.mapF (i := 15) (by omega) rfl rfl)) ?_
  refine awp_loop_at (X := Nat) (fun j => (frame 121 [(2, .data (.list (l.map eWd))), (3, .data (i64 n)), (5, .ptr 0 0), (10, .data (.list (a.map eWds))), (11, .data (.list (r.map eWd))), (15, .data (.map [.str mn] [.bool true])), (16, .row 32 (l.take n ++ (b.take j).flatMap (substG ⟨mn, mp, (m3, m4, m5)⟩ a (bothB [mn] z3))).length), (62, .data (.list (b.map eTk))), (63, .data (i64 b.length)), (64, .data (i64 j))])) (fun j => [(0, .box [.data (.str mn), .data (.list (mp.map .str)), .data (.str m3), .data (i64 m4), .data (i64 m5)]), (32, .row 56 3 ((l.take n ++ (b.take j).flatMap (substG ⟨mn, mp, (m3, m4, m5)⟩ a (bothB [mn] z3))).map eWd))]) 37
    (fun j => j ≤ b.length) (fun j => b.length - j) 0 (Nat.zero_le _) (Weak.v (by (simp [ConvF, lookV, Conv, ints, upd, List.take_zero, List.flatMap_nil, List.append_nil, htl]; done)) (by (simp (disch := omega) only [TabSub, look, if_pos, if_neg, Obj.refsOK, refsOKs, AV.refsOK, decide_eq_true_eq, Bool.and_true, Bool.and_self, upd, List.take_zero, List.flatMap_nil, List.append_nil, htl] ) <;> ((repeat' apply And.intro) <;> first | exact True.intro | omega | (simp; done) | rfl))) ?_
  rintro j hj
  (try dsimp only at hj ⊢)
  by_cases hj2 : j < b.length
  case neg =>
    have hj3 : j = b.length := by omega
    subst hj3
    have hSl2 := hSl b.length
    rw [List.take_length] at hSl2 ⊢
    generalize b.flatMap (substG ⟨mn, mp, (m3, m4, m5)⟩ a (bothB [mn] z3)) = S at *
    have hrl : r.length ≤ l.length := by have := v1.length_le; rw [List.length_drop] at this; omega
    have hAl : (l.take n ++ S).length = n + S.length := by rw [List.length_append, htl]
    have hnl : ((l.take n ++ (S ++ r)).length : Int) = (((l.take n ++ S).length + r.length : Nat) : Int) := by
      rw [List.length_append, List.length_append, List.length_append]
      omega
    rw [hnl] at hR
    have hmS : (l.take n ++ (S ++ r)).map eWd = (l.take n ++ S).map eWd ++ r.map eWd := by simp
    generalize hA : l.take n ++ S = A at *
    cases hbig : decide (((A.length + r.length : Nat) : Int) > 256)
    · rw [hbig] at hR
      simp only [Bool.false_eq_true, if_false] at hR
      rw [hR]
      unfold eRp
      dsimp only
      rw [hmS]
      repeat (first
        | (apply axJ; (focus ((with_reducible constructor) <;> rfl)))
        | (apply awT mixedOK hΓ (by kernel_rfl); (simp (disch := omega) only [go_sem, ↓reduceIte, dk, ↓lk, Int.reduceBEq, Int.reduceBNe, Bool.true_bne, Bool.false_bne, Bool.not_true, Bool.not_false, hbig, List.length_map] <;> with_reducible rfl))
        | ((first | apply awR hΓ | apply awG | apply awH mixedOK hΓ rfl (by kernel_rfl) | apply ovE rfl); (simp (disch := omega) only [go_sem, ↓reduceIte, dk, ↓lk, Int.reduceBEq, Int.reduceBNe, Bool.true_bne, Bool.false_bne, Bool.not_true, Bool.not_false, hbig, List.length_map] <;> with_reducible rfl); exact trivial)
        | rfl)
      try rfl
    · rw [hbig] at hR
      simp only [if_true] at hR
      rw [hR]
      repeat (first
        | (apply axJ; (focus ((with_reducible constructor) <;> rfl)))
        | (apply awT mixedOK hΓ (by kernel_rfl); (simp (disch := omega) only [go_sem, ↓reduceIte, dk, ↓lk, Int.reduceBEq, Int.reduceBNe, Bool.true_bne, Bool.false_bne, Bool.not_true, Bool.not_false, hbig, List.length_map] <;> with_reducible rfl))
        | ((first | apply awR hΓ | apply awG | apply awH mixedOK hΓ rfl (by kernel_rfl) | apply ovE rfl); (simp (disch := omega) only [go_sem, ↓reduceIte, dk, ↓lk, Int.reduceBEq, Int.reduceBNe, Bool.true_bne, Bool.false_bne, Bool.not_true, Bool.not_false, hbig, List.length_map] <;> with_reducible rfl); exact trivial)
        | rfl)
      try rfl
  have hft := flatm_take (f := substG ⟨mn, mp, (m3, m4, m5)⟩ a (bothB [mn] z3)) hj2
  have hfb := hSl j
  rw [List.length_take] at hfb
  have hnn : atG ⟨mn, mp, (m3, m4, m5)⟩ b[j] = none → substG ⟨mn, mp, (m3, m4, m5)⟩ a (bothB [mn] z3) b[j] = _ := fun h => subst_none h
  have hss : ∀ k, atG ⟨mn, mp, (m3, m4, m5)⟩ b[j] = some k → substG ⟨mn, mp, (m3, m4, m5)⟩ a (bothB [mn] z3) b[j] = _ := fun k h => subst_some h
  generalize (b.take j).flatMap (substG ⟨mn, mp, (m3, m4, m5)⟩ a (bothB [mn] z3)) = S at *
  have hAl : (l.take n ++ S).length = n + S.length := by rw [List.length_append, htl]
  have has : ∀ u : List Wd, l.take n ++ (S ++ u) = (l.take n ++ S) ++ u := fun u => (List.append_assoc _ _ _).symm
  generalize l.take n ++ S = A at *
  generalize hy : b[j] = y at *
  obtain ⟨y1, y2⟩ := y
  have hat : atG ⟨mn, mp, (m3, m4, m5)⟩ (y1, y2) = if y1 == 1 then mp.findIdx? (fun p => p == y2) else none := rfl
  have e6 := g_with_eq (k := y1) (t := y2) (hw := []) (h := z3) (nm := mn) (fun s hs => by cases hs) (Nat.zero_le _) d4 o2 (by omega)
  replace e6 : g_with [.agg [.int .i64 y1, .str y2, .map [] []], .list [.map [.str mn] [.bool true], hidD z3]] = some (.agg [.int .i64 y1, .str y2, hidD (bothB [mn] z3)]) := by rw [← hst]; exact e6
  have hmn : (A ++ [((y1, y2), bothB [mn] z3)]).map eWd = A.map eWd ++ [.agg [i64 y1, .str y2, hidD (bothB [mn] z3)]] := by rw [List.map_append]; rfl
  have hml1 : (A ++ [((y1, y2), bothB [mn] z3)]).length = A.length + 1 := by rw [List.length_append]; rfl
  cases k1 : (y1 == 1)
  · rw [k1] at hat
    simp only [Bool.false_eq_true, if_false] at hat
    have hk := hat
    repeat (first
      | (apply axJ; (focus ((with_reducible constructor) <;> rfl)))
      | (apply awT mixedOK hΓ (by kernel_rfl); (simp (disch := omega) only [go_sem, ↓reduceIte, dk, ↓lk, Int.reduceBEq, Int.reduceBNe, Bool.true_bne, Bool.false_bne, Bool.not_true, Bool.not_false, hy, k1] <;> with_reducible rfl))
      | ((first | apply awR hΓ | apply awG | apply awH mixedOK hΓ rfl (by kernel_rfl) | apply ovE rfl); (simp (disch := omega) only [go_sem, ↓reduceIte, dk, ↓lk, Int.reduceBEq, Int.reduceBNe, Bool.true_bne, Bool.false_bne, Bool.not_true, Bool.not_false, hy, k1] <;> with_reducible rfl); exact trivial)
      | rfl)
    (apply awp_regm (nst := false) (nst' := false) 12 mixedOK hΓ (by kernel_rfl); (simp (disch := omega) only [go_sem, ↓reduceIte, ↓lk, dk, ↓ty_build56, hz, e6, look_upd] <;> with_reducible rfl); (simp (disch := omega) only [go_sem, ↓reduceIte] <;> with_reducible rfl); (focus rfl); (focus rfl); (simp (disch := omega) only [go_sem, ↓reduceIte, ↓lk, dk, ↓ty_build56, hz, e6, look_upd] <;> with_reducible rfl); (focus (first | (simp (disch := omega) only [go_sem, ↓reduceIte, ↓lk, dk, ↓ty_build56, hz, e6, look_upd]; done) | (simp (disch := omega) only [go_sem, ↓reduceIte, ↓lk, dk, ↓ty_build56, hz, e6, look_upd]; omega))); (focus (dsimp only [List.take_succ_cons, List.take_zero]; (repeat (apply same2_cons; (focus (first | (left; decide) | (right; simp (disch := omega) only [go_sem, ↓reduceIte, ↓lk, dk, ↓ty_build56, hz, e6, look_upd]; done))); (simp (disch := omega) only [go_sem, ↓reduceIte, ↓lk, dk, ↓ty_build56, hz, e6, look_upd] <;> with_reducible rfl))); exact same2_nil)); (simp (disch := omega) only [go_sem, ↓reduceIte, ↓lk, dk, ↓ty_build56, hz, e6, look_upd] <;> with_reducible rfl))
    repeat (first
      | (apply axJ; (focus ((with_reducible constructor) <;> rfl)))
      | (apply awT mixedOK hΓ (by kernel_rfl); (simp (disch := omega) only [go_sem, ↓reduceIte, dk, ↓lk, Int.reduceBEq, Int.reduceBNe, Bool.true_bne, Bool.false_bne, Bool.not_true, Bool.not_false] <;> with_reducible rfl))
      | ((first | apply awR hΓ | apply awG | apply awH mixedOK hΓ rfl (by kernel_rfl) | apply ovE rfl); (simp (disch := omega) only [go_sem, ↓reduceIte, dk, ↓lk, Int.reduceBEq, Int.reduceBNe, Bool.true_bne, Bool.false_bne, Bool.not_true, Bool.not_false] <;> with_reducible rfl); exact trivial)
      | rfl)
    exact ⟨j + 1, by omega, by omega, by rw [hft, hnn hk, has, hmn, hml1]; exact Weak.w⟩
  rw [k1] at hat
  simp only [if_true] at hat
  have e8 := g_sIdx07_eq (l := mp) (s := y2) (by omega)
  rw [idx_at7, ← hat] at e8
  cases hk : atG ⟨mn, mp, (m3, m4, m5)⟩ (y1, y2) with
  | none =>
    rw [hk] at e8
    replace e8 : g_sIdx07 [.list (mp.map .str), .str y2] = some (.int .i64 (-1)) := e8
    repeat (first
      | (apply axJ; (focus ((with_reducible constructor) <;> rfl)))
      | (apply awT mixedOK hΓ (by kernel_rfl); (simp (disch := omega) only [go_sem, ↓reduceIte, dk, ↓lk, Int.reduceBEq, Int.reduceBNe, Bool.true_bne, Bool.false_bne, Bool.not_true, Bool.not_false, hy, k1, e8] <;> with_reducible rfl))
      | ((first | apply awR hΓ | apply awG | apply awH mixedOK hΓ rfl (by kernel_rfl) | apply ovE rfl); (simp (disch := omega) only [go_sem, ↓reduceIte, dk, ↓lk, Int.reduceBEq, Int.reduceBNe, Bool.true_bne, Bool.false_bne, Bool.not_true, Bool.not_false, hy, k1, e8] <;> with_reducible rfl); exact trivial)
      | rfl)
    (apply awp_regm (nst := false) (nst' := false) 12 mixedOK hΓ (by kernel_rfl); (simp (disch := omega) only [go_sem, ↓reduceIte, ↓lk, dk, ↓ty_build56, hz, e6, look_upd] <;> with_reducible rfl); (simp (disch := omega) only [go_sem, ↓reduceIte] <;> with_reducible rfl); (focus rfl); (focus rfl); (simp (disch := omega) only [go_sem, ↓reduceIte, ↓lk, dk, ↓ty_build56, hz, e6, look_upd] <;> with_reducible rfl); (focus (first | (simp (disch := omega) only [go_sem, ↓reduceIte, ↓lk, dk, ↓ty_build56, hz, e6, look_upd]; done) | (simp (disch := omega) only [go_sem, ↓reduceIte, ↓lk, dk, ↓ty_build56, hz, e6, look_upd]; omega))); (focus (dsimp only [List.take_succ_cons, List.take_zero]; (repeat (apply same2_cons; (focus (first | (left; decide) | (right; simp (disch := omega) only [go_sem, ↓reduceIte, ↓lk, dk, ↓ty_build56, hz, e6, look_upd]; done))); (simp (disch := omega) only [go_sem, ↓reduceIte, ↓lk, dk, ↓ty_build56, hz, e6, look_upd] <;> with_reducible rfl))); exact same2_nil)); (simp (disch := omega) only [go_sem, ↓reduceIte, ↓lk, dk, ↓ty_build56, hz, e6, look_upd] <;> with_reducible rfl))
    repeat (first
      | (apply axJ; (focus ((with_reducible constructor) <;> rfl)))
      | (apply awT mixedOK hΓ (by kernel_rfl); (simp (disch := omega) only [go_sem, ↓reduceIte, dk, ↓lk, Int.reduceBEq, Int.reduceBNe, Bool.true_bne, Bool.false_bne, Bool.not_true, Bool.not_false] <;> with_reducible rfl))
      | ((first | apply awR hΓ | apply awG | apply awH mixedOK hΓ rfl (by kernel_rfl) | apply ovE rfl); (simp (disch := omega) only [go_sem, ↓reduceIte, dk, ↓lk, Int.reduceBEq, Int.reduceBNe, Bool.true_bne, Bool.false_bne, Bool.not_true, Bool.not_false] <;> with_reducible rfl); exact trivial)
      | rfl)
    exact ⟨j + 1, by omega, by omega, by rw [hft, hnn hk, has, hmn, hml1]; exact Weak.w⟩
  | some k =>
    rw [hk] at e8
    replace e8 : g_sIdx07 [.list (mp.map .str), .str y2] = some (.int .i64 (k : Int)) := e8
    have hkl := at_lt hk
    dsimp only at hkl v2
    rw [← v2] at hkl
    rw [hss k hk, List.getD_eq_getElem?_getD, List.getElem?_eq_getElem hkl, Option.getD_some] at hft
    obtain ⟨w1, w2⟩ := v3 _ (List.getElem_mem hkl)
    generalize hx : a[k] = x at *
    have hxd : eWds x = .list (x.map eWd) := rfl
    rw [List.length_drop] at w1
    repeat (first
      | (apply axJ; (focus ((with_reducible constructor) <;> rfl)))
      | (apply awT mixedOK hΓ (by kernel_rfl); (simp (disch := omega) only [go_sem, ↓reduceIte, dk, ↓lk, Int.reduceBEq, Int.reduceBNe, Bool.true_bne, Bool.false_bne, Bool.not_true, Bool.not_false, Int.toNat_natCast, List.getElem_map, hy, k1, e8, hx, hxd] <;> with_reducible rfl))
      | ((first | apply awR hΓ | apply awG | apply awH mixedOK hΓ rfl (by kernel_rfl) | apply ovE rfl); (simp (disch := omega) only [go_sem, ↓reduceIte, dk, ↓lk, Int.reduceBEq, Int.reduceBNe, Bool.true_bne, Bool.false_bne, Bool.not_true, Bool.not_false, Int.toNat_natCast, List.getElem_map, hy, k1, e8, hx, hxd] <;> with_reducible rfl); exact trivial)
      | rfl)
    refine awp_loop_at (X := Nat) (fun q => (frame 121 [(2, .data (.list (l.map eWd))), (3, .data (i64 n)), (5, .ptr 0 0), (10, .data (.list (a.map eWds))), (11, .data (.list (r.map eWd))), (15, .data (.map [.str mn] [.bool true])), (16, .row 32 (A ++ (x.take q).map (argM (bothB [mn] z3))).length), (62, .data (.list (b.map eTk))), (63, .data (i64 b.length)), (64, .data (i64 j)), (94, .data (.list (x.map eWd))), (95, .data (i64 x.length)), (96, .data (i64 q))])) (fun q => [(0, .box [.data (.str mn), .data (.list (mp.map .str)), .data (.str m3), .data (i64 m4), .data (i64 m5)]), (32, .row 56 3 ((A ++ (x.take q).map (argM (bothB [mn] z3))).map eWd))]) 42
      (fun q => q ≤ x.length) (fun q => x.length - q) 0 (Nat.zero_le _) (Weak.v (by (simp [ConvF, lookV, Conv, ints, List.take_zero, List.map_nil, List.append_nil]; done)) (by (simp (disch := omega) only [TabSub, look, if_pos, if_neg, Obj.refsOK, refsOKs, AV.refsOK, decide_eq_true_eq, Bool.and_true, Bool.and_self, List.take_zero, List.map_nil, List.append_nil] ) <;> ((repeat' apply And.intro) <;> first | exact True.intro | omega | (simp; done) | rfl))) ?_
    rintro q hq
    (try dsimp only at hq ⊢)
    by_cases hq2 : q < x.length
    · have hmt := mapp_take (f := argM (bothB [mn] z3)) hq2
      have hwo := d7 _ (List.drop_subset _ _ (w2 _ (List.getElem_mem hq2)))
      have hml : ((x.take q).map (argM (bothB [mn] z3))).length = q := by rw [List.length_map, List.length_take]; omega
      generalize (x.take q).map (argM (bothB [mn] z3)) = Z at *
      generalize hw : x[q] = w at *
      obtain ⟨⟨x1, x2⟩, x3⟩ := w
      obtain ⟨o3, o4⟩ := hwo
      dsimp only at o3 o4
      have e9 := g_with_eq (k := x1) (t := x2) (hw := x3) (h := z3) (nm := mn) o4 (by omega) d4 o2 (by omega)
      rw [both_hid] at e9
      have harg : argM (bothB [mn] z3) ((x1, x2), x3) = ((x1, x2), bothB (bothB [mn] z3) x3) := rfl
      have hAl2 : (A ++ Z).length = A.length + q := by rw [List.length_append, hml]
      generalize bothB (bothB [mn] z3) x3 = h3 at *
      have hmm : (A ++ (Z ++ [((x1, x2), h3)])).map eWd = (A ++ Z).map eWd ++ [.agg [i64 x1, .str x2, hidD h3]] := by rw [← List.append_assoc, List.map_append]; rfl
      have hml2 : (A ++ (Z ++ [((x1, x2), h3)])).length = (A ++ Z).length + 1 := by rw [← List.append_assoc, List.length_append]; rfl
      generalize hAZ : A ++ Z = Y at *
      repeat (first
        | (apply axJ; (focus ((with_reducible constructor) <;> rfl)))
        | (apply awT mixedOK hΓ (by kernel_rfl); (simp (disch := omega) only [go_sem, ↓reduceIte, dk, ↓lk, Int.reduceBEq, Int.reduceBNe, Bool.true_bne, Bool.false_bne, Bool.not_true, Bool.not_false, hw] <;> with_reducible rfl))
        | ((first | apply awR hΓ | apply awG | apply awH mixedOK hΓ rfl (by kernel_rfl) | apply ovE rfl); (simp (disch := omega) only [go_sem, ↓reduceIte, dk, ↓lk, Int.reduceBEq, Int.reduceBNe, Bool.true_bne, Bool.false_bne, Bool.not_true, Bool.not_false, hw] <;> with_reducible rfl); exact trivial)
        | rfl)
      (apply awp_regm (nst := false) (nst' := false) 11 mixedOK hΓ (by kernel_rfl); (simp (disch := omega) only [go_sem, ↓reduceIte, ↓lk, dk, ↓ty_build56, hz, hw, e9, look_upd] <;> with_reducible rfl); (simp (disch := omega) only [go_sem, ↓reduceIte] <;> with_reducible rfl); (focus rfl); (focus rfl); (simp (disch := omega) only [go_sem, ↓reduceIte, ↓lk, dk, ↓ty_build56, hz, hw, e9, look_upd] <;> with_reducible rfl); (focus (first | (simp (disch := omega) only [go_sem, ↓reduceIte, ↓lk, dk, ↓ty_build56, hz, hw, e9, look_upd]; done) | (simp (disch := omega) only [go_sem, ↓reduceIte, ↓lk, dk, ↓ty_build56, hz, hw, e9, look_upd]; omega))); (focus (dsimp only [List.take_succ_cons, List.take_zero]; (repeat (apply same2_cons; (focus (first | (left; decide) | (right; simp (disch := omega) only [go_sem, ↓reduceIte, ↓lk, dk, ↓ty_build56, hz, hw, e9, look_upd]; done))); (simp (disch := omega) only [go_sem, ↓reduceIte, ↓lk, dk, ↓ty_build56, hz, hw, e9, look_upd] <;> with_reducible rfl))); exact same2_nil)); (simp (disch := omega) only [go_sem, ↓reduceIte, ↓lk, dk, ↓ty_build56, hz, hw, e9, look_upd] <;> with_reducible rfl))
      repeat (first
        | (apply axJ; (focus ((with_reducible constructor) <;> rfl)))
        | (apply awT mixedOK hΓ (by kernel_rfl); (simp (disch := omega) only [go_sem, ↓reduceIte, dk, ↓lk, Int.reduceBEq, Int.reduceBNe, Bool.true_bne, Bool.false_bne, Bool.not_true, Bool.not_false] <;> with_reducible rfl))
        | ((first | apply awR hΓ | apply awG | apply awH mixedOK hΓ rfl (by kernel_rfl) | apply ovE rfl); (simp (disch := omega) only [go_sem, ↓reduceIte, dk, ↓lk, Int.reduceBEq, Int.reduceBNe, Bool.true_bne, Bool.false_bne, Bool.not_true, Bool.not_false] <;> with_reducible rfl); exact trivial)
        | rfl)
      exact ⟨q + 1, by omega, by omega, by rw [hmt, harg, hmm, hml2]; exact Weak.w⟩
    have hq3 : q = x.length := by omega
    subst hq3
    rw [List.take_length]
    repeat (first
      | (apply axJ; (focus ((with_reducible constructor) <;> rfl)))
      | (apply awT mixedOK hΓ (by kernel_rfl); (simp (disch := omega) only [go_sem, ↓reduceIte, dk, ↓lk, Int.reduceBEq, Int.reduceBNe, Bool.true_bne, Bool.false_bne, Bool.not_true, Bool.not_false] <;> with_reducible rfl))
      | ((first | apply awR hΓ | apply awG | apply awH mixedOK hΓ rfl (by kernel_rfl) | apply ovE rfl); (simp (disch := omega) only [go_sem, ↓reduceIte, dk, ↓lk, Int.reduceBEq, Int.reduceBNe, Bool.true_bne, Bool.false_bne, Bool.not_true, Bool.not_false] <;> with_reducible rfl); exact trivial)
      | rfl)
    exact ⟨j + 1, by omega, by omega, by rw [hft, has]; exact Weak.w⟩
end Go.Ab
namespace Go.Ab
open Go Go.RowKit Go.Proofs
set_option maxRecDepth 100000
set_option maxHeartbeats 40000000
def emptyS (s : Sp) : Bool := decide (s.2.1 ≥ s.2.2)
noncomputable def g_set1 : List D → Option D := encSpec (fun x : Sp => [eSp x]) (fun x : Sp => True) (fun x : Sp => .bool (emptyS x))
theorem g_set1_eq {s : Sp} (hd : True) : g_set1 [eSp s] = some (.bool (emptyS s)) := encSpec_eq (x := s) hd fun y hy => by
    simp only [List.cons.injEq, and_true, true_and, D.str.injEq, D.int.injEq, D.list.injEq, D.bool.injEq, D.agg.injEq, D.clo.injEq, Int.natCast_inj, inj_ie, eSp_e, eSp_ie] at hy
    rw [hy]
theorem f_set1_ok : PureOK Tryd.prog 26 true g_set1 := by
  have hΓ := Γ0_ok
  refine pure_enc (n := 8) (rs := [.tmp 2]) Tryd.func26 (by kernel_rfl) rfl (by kernel_rfl) (by kernel_rfl) ?_
  rintro s hd
  (try dsimp only at hd ⊢)
  refine ⟨fun _ => by (repeat (first | exact .int _ _ | exact .bool _ | exact .str _ | (refine .tup _ (fun d hd => ?_); simp only [List.mem_cons, List.not_mem_nil, or_false] at hd; rcases hd with rfl | hd))), fun k hz0 => ?_⟩
  obtain ⟨s1, s2, s3⟩ := s
  unfold emptyS
  dsimp only
  rw [eSp_eq]
  dsimp only
  generalize hc : decide (s2 ≥ s3) = c
  rw [start_frame (by simp)]; simp only [enumV, go_sem, emptyH]
  repeat (first
    | (apply axJ; (focus ((with_reducible constructor) <;> rfl)))
    | (apply awT mixedOK hΓ (by kernel_rfl); (simp (disch := omega) only [go_sem, ↓reduceIte, dk, ↓lk, Int.reduceBEq, Int.reduceBNe, Bool.true_bne, Bool.false_bne, Bool.not_true, Bool.not_false, hc] <;> with_reducible rfl))
    | ((first | apply awR hΓ | apply awG | apply awH mixedOK hΓ rfl (by kernel_rfl) | apply ovE rfl); (simp (disch := omega) only [go_sem, ↓reduceIte, dk, ↓lk, Int.reduceBEq, Int.reduceBNe, Bool.true_bne, Bool.false_bne, Bool.not_true, Bool.not_false, hc] <;> with_reducible rfl); exact trivial)
    | rfl)
  try rfl
noncomputable def g_dix := gIdxD eSp (fun _ => True) 26 [] emptyS
theorem f_dix_ok : PureOK Tryd.prog 42 true g_dix := f_idxSp_ok f_set1_ok fun x _ => g_set1_eq trivial
end Go.Ab
namespace Go.Ab
open Go Go.RowKit Go.Proofs
set_option maxRecDepth 100000
set_option maxHeartbeats 40000000
def dlA (l : List Sp) : List AV := [.row 0 l.length, .data (.clo 26 [])]
def dlO (l : List Sp) : List Obj := [.row 33 3 (l.map eSp)]
def keptS (l : List Sp) : List Sp := l.filter fun y => !emptyS y
def DlG (l : List Sp) (r : AV) (os : List Obj) : Prop := (keptS l = l ∧ r = .row 0 l.length ∧ os = dlO l) ∨ (r = .row 1 (keptS l).length ∧ os = [.dead, .row 33 3 ((keptS l).map eSp)])
theorem dl_inj (x y : List Sp) (h : dlA x = dlA y) (h2 : dlO x = dlO y) : x = y := by
  simp only [dlO, List.cons.injEq, Obj.row.injEq, true_and, and_true, eSp_ie] at h2
  exact h2
theorem keep_step {α : Type} {p : α → Bool} {l m : List α} {i j : Nat} (hj : j < l.length) (hm : m.length = l.length) (hij : i < j) (h1 : m.take i = (l.take j).filter fun y => !p y) (h2 : m.drop j = l.drop j) (hp : p l[j] = false) :
    (m.set i l[j]).take (i + 1) = (l.take (j + 1)).filter (fun y => !p y) ∧ (m.set i l[j]).drop (j + 1) = l.drop (j + 1) := by
  constructor
  · rw [List.take_add_one, List.take_set_of_le (Nat.le_refl _), h1, List.take_add_one (l := l), List.filter_append, List.getElem?_eq_getElem hj]
    simp [hp, show i < m.length by omega]
  · rw [List.drop_set_of_lt (by omega), ← List.drop_drop (i := 1) (j := j), h2, List.drop_drop]
theorem keep_skip {α : Type} {p : α → Bool} {l m : List α} {i j : Nat} (hj : j < l.length) (h1 : m.take i = (l.take j).filter fun y => !p y) (h2 : m.drop j = l.drop j) (hp : p l[j] = true) :
    m.take i = (l.take (j + 1)).filter (fun y => !p y) ∧ m.drop (j + 1) = l.drop (j + 1) := by
  constructor
  · rw [h1, List.take_add_one (l := l), List.filter_append, List.getElem?_eq_getElem hj]
    simp [hp]
  · rw [← List.drop_drop (i := 1) (j := j), h2, List.drop_drop]
theorem get_of_drop {α : Type} {l m : List α} {j : Nat} (h : m.drop j = l.drop j) (hj : j < l.length) (hm : j < m.length) : m[j] = l[j] := by
  have := congrArg (·[0]?) h
  simpa [hj, hm] using this
theorem idx_cases7 {α : Type} (p : α → Bool) (l : List α) : (idx p l = -1 ∧ l.filter (fun y => !p y) = l) ∨ ∃ (i : Nat) (h : i < l.length), idx p l = i ∧ p l[i] = true ∧ (l.take i).filter (fun y => !p y) = l.take i := by
  unfold idx
  cases hf : l.findIdx? p with
  | none =>
    left
    rw [List.findIdx?_eq_none_iff] at hf
    exact ⟨rfl, List.filter_eq_self.2 fun x hx => by simp [hf x hx]⟩
  | some i =>
    right
    obtain ⟨h1, h2, h3⟩ := List.findIdx?_eq_some_iff_getElem.1 hf
    refine ⟨i, h1, rfl, h2, List.filter_eq_self.2 fun x hx => ?_⟩
    obtain ⟨j, hj, rfl⟩ := List.mem_iff_getElem.1 hx
    rw [List.length_take] at hj
    have := h3 j (by omega)
    simp only [List.getElem_take]
    simpa using this
theorem set1_eq (s : Sp) : g_set1 [.agg [.str s.1, .int .i64 s.2.1, .int .i64 s.2.2]] = some (.bool (emptyS s)) := g_set1_eq (s := s) trivial
theorem f_del_ex : ∃ g, LocOK Tryd.prog 24 g ∧ ∀ l : List Sp, l.length ≤ 1000000 → ∃ r os, DlG l r os ∧ g (dlA l) (dlO l) = some (r, os) := by
  refine loc_ex (enc := dlA) (eno := dlO) (dom := fun l => l.length ≤ 1000000) (good := DlG) (n := 42) (rs := [.tmp 4]) Tryd.func24 (by kernel_rfl) rfl (by kernel_rfl) (by kernel_rfl) dl_inj ?_
  intro l hn
  have hΓ := (Γp f_set1_ok (Γp f_dix_ok (Γn)))
  unfold dlA dlO
  have e77 : g_dix [.list (l.map eSp), .clo 26 []] = some (.int .i64 (idx emptyS l)) := gIdxD_eq (e := eSp) (dm := fun _ => True) eSp_inj (by omega) (fun _ _ => trivial)
  rw [start_frameA (by simp)]; simp only [enumA, enumO, List.length_cons, List.length_nil, Nat.reduceAdd, go_sem]
  rcases idx_cases7 emptyS l with ⟨h1, h2⟩ | ⟨i, hi, h1, hp, h2⟩
  · rw [h1] at e77
    (repeat (first | (apply axJ; (focus ((with_reducible constructor) <;> rfl))) | ((first | apply axR hΓ | apply axG | apply ovX rfl | apply ovE rfl); (simp (disch := omega) only [go_sem, ↓reduceIte, ↓lk, dk, Int.reduceBEq, Int.reduceBNe, Bool.true_bne, Bool.false_bne, Bool.not_true, Bool.not_false, e77] <;> with_reducible rfl); exact trivial) | rfl))
    exact retl_x (r := .row 0 l.length) (os := [.row 33 3 (l.map eSp)]) rfl (by simp (disch := omega) only [go_sem, ↓reduceIte, dk] <;> rfl) (Weak.of (by simp) ⟨rfl, trivial⟩ ⟨rfl, by simp, rfl, trivial⟩ rfl) (.inl ⟨h2, rfl, rfl⟩)
  · rw [h1] at e77
    have hz : ((i : Int) == -1) = false := by rw [beq_eq_false_iff_ne]; omega
    (repeat (first | (refine axA ?_; first | (apply axR hΓ; (simp (disch := omega) only [go_sem, ↓reduceIte, ↓lk, dk, Int.reduceBEq, Int.reduceBNe, Bool.true_bne, Bool.false_bne, Bool.not_true, Bool.not_false, e77, hz] <;> with_reducible rfl); exact trivial) | refine axA ?_ | refine axB ?_) | refine axB ?_ | (apply axK; (focus ((with_reducible constructor) <;> rfl))) | ((first | apply axR hΓ | apply axG | apply ovX rfl | apply ovE rfl); (simp (disch := omega) only [go_sem, ↓reduceIte, ↓lk, dk, Int.reduceBEq, Int.reduceBNe, Bool.true_bne, Bool.false_bne, Bool.not_true, Bool.not_false, e77, hz] <;> with_reducible rfl); exact trivial) | rfl))
    refine axp_loop_at (X := Nat × Nat × List Sp) (fun x => (frame 42 [(0, .row 0 l.length), (1, .data (.clo 26 [])), (5, .data (i64 x.2.1)), (6, .data (i64 x.1))])) (fun x => [(0, .row 33 3 (x.2.2.map eSp))]) 1
      (fun x => x.2.1 < x.1 ∧ x.1 ≤ l.length ∧ x.2.2.length = l.length ∧ x.2.2.take x.2.1 = (l.take x.1).filter (fun y => !emptyS y) ∧ x.2.2.drop x.1 = l.drop x.1) (fun x => l.length - x.1) (i + 1, i, l) ⟨by simp, hi, rfl, by
        rw [List.take_add_one, List.filter_append, h2, List.getElem?_eq_getElem hi]; (try simp [hp]), rfl⟩ (Weak.w (h3 := by simp [refsF, AV.refsOK, refsOKs])) ?_
    rintro ⟨j, i, m⟩ ⟨hij, hj, hml, ht, hd⟩
    dsimp only at hij hj hml ht hd ⊢
    by_cases hjl : j < l.length
    · have hjm : j < m.length := by omega
      have hmj := get_of_drop hd hjl hjm
      have e51 := set1_eq l[j]
      generalize hy : l[j] = y at *
      generalize hb : emptyS y = b at e51
      cases b with
      | true =>
        obtain ⟨k1, k2⟩ := keep_skip (p := emptyS) hjl ht hd (by rw [hy]; exact hb)
        (repeat (first | (apply axJ; (focus ((with_reducible constructor) <;> rfl))) | ((first | apply axR hΓ | apply axG | apply ovX rfl | apply ovE rfl); (simp (disch := omega) only [go_sem, ↓reduceIte, ↓lk, dk, hmj, e51] <;> with_reducible rfl); exact trivial) | rfl))
        exact ⟨(j + 1, i, m), ⟨by dsimp only; omega, hjl, hml, k1, k2⟩, by dsimp only; omega, (Weak.w (h3 := by simp [refsF, AV.refsOK, refsOKs]))⟩
      | false =>
        obtain ⟨k1, k2⟩ := keep_step (p := emptyS) hjl hml hij ht hd (by rw [hy]; exact hb)
        rw [hy] at k1 k2
        have hs : (m.map eSp).set i (.agg [.str y.1, .int .i64 y.2.1, .int .i64 y.2.2]) = (m.set i y).map eSp := by rw [List.map_set]; rfl
        (repeat (first | (apply axJ; (focus ((with_reducible constructor) <;> rfl))) | ((first | apply axR hΓ | apply axG | apply ovX rfl | apply ovE rfl); (simp (disch := omega) only [go_sem, ↓reduceIte, ↓lk, dk, hmj, e51, hs] <;> with_reducible rfl); exact trivial) | rfl))
        exact ⟨(j + 1, i + 1, m.set i y), ⟨by dsimp only; omega, hjl, by simp [hml], k1, k2⟩, by dsimp only; omega, (Weak.w (h3 := by simp [refsF, AV.refsOK, refsOKs]))⟩
    · obtain rfl : j = l.length := by omega
      rw [List.take_length] at ht
      have hkl : (l.filter fun y => !emptyS y).length = i := by rw [← ht, List.length_take]; omega
      have hmt : (m.map eSp).take i = (l.filter fun y => !emptyS y).map eSp := by rw [← ht, List.map_take]
      refine axA ?_
      refine axA ?_
      (repeat (first | refine axB ?_ | (apply axK; (focus ((with_reducible constructor) <;> rfl))) | ((first | apply axR hΓ | apply axG | apply ovX rfl | apply ovE rfl); (simp (disch := omega) only [go_sem, ↓reduceIte, dk] <;> with_reducible rfl); exact trivial) | rfl))
      refine axp_cut (x := 0) (y := 5) (ob := 0) (i := i) (l := m.map eSp) (n := l.length) rfl rfl ⟨rfl, rfl, rfl⟩ ⟨rfl, rfl, rfl⟩ ⟨rfl, rfl, rfl⟩ ⟨rfl, rfl, rfl⟩ ⟨rfl, rfl, rfl⟩ ⟨rfl, rfl, rfl⟩ ⟨rfl, rfl, rfl⟩ ⟨rfl, rfl, rfl⟩ (by decide) ?_ ?_ ?_ ?_ ?_ ?_ ty_und27 ty_size33 ty_zero33 rfl (by decide) ?_
      · simp [frame]
      · simp (disch := omega) only [go_sem, ↓reduceIte, dk]
      · simp (disch := omega) only [go_sem, ↓reduceIte, dk]
      · rfl
      · simp [hml]
      · omega
      rw [hmt]
      (repeat (first | (apply axJ; (focus ((with_reducible constructor) <;> rfl))) | ((first | apply axR hΓ | apply axG | apply ovX rfl | apply ovE rfl); (simp (disch := omega) only [go_sem, ↓reduceIte, dk] <;> with_reducible rfl); exact trivial) | rfl))
      refine retl_x (r := .row 1 i) (os := [.dead, .row 33 3 ((l.filter fun y => !emptyS y).map eSp)]) rfl (by simp (disch := omega) only [go_sem, ↓reduceIte, dk] <;> rfl) (Weak.packd (objs := [.dead, .row 33 3 ((l.filter fun y => !emptyS y).map eSp)]) (fp := [0, 5]) rfl rfl (by decide) rfl rfl) (.inr ⟨by simp only [keptS]; rw [hkl], rfl⟩)
noncomputable def g_delS := f_del_ex.choose
theorem f_delS_ok : LocOK Tryd.prog 24 g_delS := f_del_ex.choose_spec.1
theorem g_delS_eq {l : List Sp} (h : l.length ≤ 1000000) : ∃ r os, DlG l r os ∧ g_delS (dlA l) (dlO l) = some (r, os) := f_del_ex.choose_spec.2 l h
end Go.Ab
