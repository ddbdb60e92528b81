/-
  One text of the proof (own work): contracts of functions of the program, by the abstract machine.
-/
import Derived.Test.YtapnigckcnknoaaGreatDoorX11
set_option linter.unusedVariables false
set_option linter.unusedSimpArgs false
namespace Go.Ab
open Go Go.RowKit
section
variable {P : Program} {Γ : FuncId → Option CSpec} {c : Ctx} {H H' : Heap} {θ θ' : Nat → Value} {w w' : World} {sl : List AV} {a : Act} {o : Oper} {r : AV}
theorem HLe.congr {H1 H2 H3 : Heap} {θ1 θ2 : Nat → Value} (h : HLe H1 θ1 H2 θ2) (hg : ∀ o, H3.get o = H2.get o) (hn : H2.next ≤ H3.next) : HLe H1 θ1 H3 θ2 := h.trans ⟨fun o ho => by
    rcases ho with ho | ho
    · exact .inl (Nat.lt_of_lt_of_le ho hn)
    · exact .inr (by rw [hg]; exact ho), fun o x _ h => ⟨x, by rw [← hg]; exact h, x.evo_refl, fun _ => rfl⟩⟩
theorem St.congr (hs : St c H θ w sl a) (hg : ∀ o, H'.get o = H.get o) (hn : H.next ≤ H'.next) : St c H' θ w sl a := by
  have hle : HLe H θ H' θ := (HLe.refl H θ).congr hg hn
  have hv : vis c H' θ w = vis c H θ w := by
    funext b
    simp only [vis, own, hg]
  have vm : ∀ {x : AV} {v : Value}, VR H θ w (vis c H θ w) x v → VR H' θ w (vis c H' θ w) x v := fun h => by
    rw [hv]
    exact h.mono (fun b hb => ⟨hb, rfl⟩) hle
  refine ⟨⟨hs.sim.size, fun o x hx => ?_, fun o o' x x' h1 h2 => hs.sim.inj o o' x x' (by rw [← hg]; exact h1) (by rw [← hg]; exact h2)⟩, hs.defers, hs.size, fun i x v h1 h2 => vm (hs.vals i x v h1 h2)⟩
  have h := hs.sim.objs o x (by rw [← hg]; exact hx)
  cases x with
  | box cs =>
    obtain ⟨b, e, vs, h1, h2, h3, h4, h5⟩ := h
    exact ⟨b, e, vs, h1, h2, h3, h4, fun i hi u hu => ⟨vm (h5 i hi u hu).1, (h5 i hi u hu).2⟩⟩
  | row e sz l => simp only [ObjR, hv]; exact h
  | arr e sz m cs =>
    obtain ⟨h1, h2, vs, h3, h4, h5⟩ := h
    exact ⟨h1, h2, vs, h3, h4, fun i hi u hu => ⟨vm (h5 i hi u hu).1, (h5 i hi u hu).2⟩⟩
  | frz l => simp only [ObjR, hv]; exact h
  | map ks vs => simp only [ObjR, hv]; exact h
  | dead => trivial
def notCall (o : Oper) : Bool := match o.op with
  | .call _ => false
  | _ => true
variable {ops : Array Oper} {n1 : Nat}
def allocAt (ops : Array Oper) (i : Nat) : Bool := match ops[i]? with
  | some o => o.guard.isNone && match o.op with
    | .alloc _ => true
    | _ => false
  | none => false
structure L4 (ops : Array Oper) (n1 : Nat) (bs : List Bool) (f g : Nat) : Prop where
  fg : f < g
  gn : g < n1
  af : allocAt ops f = true
  ag : allocAt ops g = true
  bf : bs.getD f false = true
  bg : bs.getD g false = true
  no : ∀ i, i < g → i ≠ f → bs.getD i false = false
  ord : ∀ i j, j < n1 → i < j → bs.getD j false = true → bs.getD i false = true → (i = f ∧ j = g) ∨ beforeB ops 8 j i = true
variable {L : Nat → List AV} {Hs : Nat → Heap}
def allX (P : Program) (Γ : FuncId → Option CSpec) (ops : Array Oper) (g : Nat) (H : Heap) : List (Nat × List AV × Oper × AV) → Prop
  | [] => True
  | q :: qs => (beforeB ops 8 g q.1 = true ∨ (notCall q.2.2.1 = true ∧ qval P Γ ops H q.2.1 q.2.2.1 = some q.2.2.2)) ∧ allX P Γ ops g H qs
theorem allX.at {g : Nat} {H : Heap} : ∀ {qs : List (Nat × List AV × Oper × AV)}, allX P Γ ops g H qs → ∀ q ∈ qs, beforeB ops 8 g q.1 = true ∨ (notCall q.2.2.1 = true ∧ qval P Γ ops H q.2.1 q.2.2.1 = some q.2.2.2)
  | [], _, q, h => by cases h
  | q' :: qs, h, q, hq => by
    rcases List.mem_cons.1 hq with rfl | hq
    · exact h.1
    · exact allX.at h.2 q hq
end
end Go.Ab
namespace Go.Ab
open Go Go.RowKit
theorem dk : (∀ {p : Prop} [Decidable p], p → decide p = true) ∧ (∀ {p : Prop} [Decidable p], ¬ p → decide p = false) ∧ (∀ {c : Prop} {h : Decidable c} (_ : c) {α : Type} {t e : α}, (@ite α c h t e) = t) ∧ (∀ {c : Prop} {h : Decidable c} (_ : ¬ c) {α : Type} {t e : α}, (@ite α c h t e) = e) ∧
    (∀ {n : Int}, -9223372036854775808 ≤ n → n < 9223372036854775808 → IntKind.wrap .i64 n = n) ∧ maxLen = 9223372036854775807 := ⟨fun h => decide_eq_true h, fun h => decide_eq_false h, fun hc => if_pos hc, fun hc => if_neg hc, fun h h' => wrap_in h h', rfl⟩
theorem lk : (∀ {α β : Type} (f : α → β) (l : List α), List.map f (List.toArray l).toList = List.map f l) ∧ (∀ {α β : Type} (f : α → β) (a : α) (l : List α), List.map f (a :: l) = f a :: List.map f l) ∧ (∀ {α β : Type} (f : α → β), List.map f [] = []) := ⟨fun f l => map_lit f l, fun _ _ _ => rfl, fun _ => rfl⟩
theorem Weak.w {b m : Nat} {t t' : List (Nat × AV)} {tab tab' : List (Nat × Obj)} {n n' : Nat} (hb : b ≤ n' := by omega) (h1 : ConvF ⟨tab, n⟩ t t' := by (simp [ConvF, lookV, Conv, ints]; done))
    (h2 : TabSub n' tab tab' := by (simp (disch := omega) only [TabSub, look, if_pos, if_neg, Obj.refsOK, refsOKs, AV.refsOK, decide_eq_true_eq, Bool.and_true, Bool.and_self]) <;> ((repeat' apply And.intro) <;> first | exact True.intro | omega | (simp; done) | rfl))
    (h3 : refsF n' t' = true := by simp (disch := omega) only [refsF, AV.refsOK, Bool.and_true, Bool.and_self, decide_eq_true_eq, Bool.true_and, Bool.and_eq_true]; try omega) : Weak b (frame m t) ⟨tab, n⟩ (frame m t') ⟨tab', n'⟩ := Weak.ofF hb h1 h2 h3
theorem Weak.u {b m : Nat} {t t' : List (Nat × AV)} {tab tab' : List (Nat × Obj)} {n n' : Nat} (hb : b ≤ n' := by omega) (h1 : ConvF ⟨tab, n⟩ t t' := by (repeat' (first | exact True.intro | apply And.intro | exact rfl | exact Or.inl rfl)); done)
    (h2 : TabSub n' tab tab' := by (simp (disch := omega) only [TabSub, look, if_pos, if_neg, Obj.refsOK, refsOKs, AV.refsOK, decide_eq_true_eq, Bool.and_true, Bool.and_self]) <;> ((repeat' apply And.intro) <;> first | exact True.intro | omega | (simp; done) | rfl))
    (h3 : refsF n' t' = true := by simp (disch := omega) only [refsF, AV.refsOK, Bool.and_true, Bool.and_self, decide_eq_true_eq, Bool.true_and, Bool.and_eq_true]; try omega) : Weak b (frame m t) ⟨tab, n⟩ (frame m t') ⟨tab', n'⟩ := Weak.ofF hb h1 h2 h3
theorem Weak.v {b m : Nat} {t t' : List (Nat × AV)} {tab tab' : List (Nat × Obj)} {n n' : Nat} (h1 : ConvF ⟨tab, n⟩ t t') (h2 : TabSub n' tab tab') (hb : b ≤ n' := by omega)
    (h3 : refsF n' t' = true := by simp (disch := omega) only [refsF, AV.refsOK, Bool.and_true, Bool.and_self, decide_eq_true_eq, Bool.true_and, Bool.and_eq_true]; try omega) : Weak b (frame m t) ⟨tab, n⟩ (frame m t') ⟨tab', n'⟩ := Weak.ofF hb h1 h2 h3
def toDO (H : Heap) : Option AV → Option D
  | some x => toD H 4 x
  | none => none
attribute [go_sem] toDO
theorem ovX {P : Program} {sl : List AV} {H : Heap} {rs : List ResultVar} {good : D → Prop} {d : D} {e : Exit} (he : Exit.over e = true) (h : toDO H (resA P rs sl H) = some d) (_ : True) (hg : good d) : RetX P rs good e sl H := by
  cases hx : resA P rs sl H with
  | none => rw [hx] at h; cases h
  | some x => rw [hx] at h; exact ⟨d, hg, he, x, hx, h⟩
theorem ovE {P : Program} {sl : List AV} {H : Heap} {rs : List ResultVar} {d d' : D} {e : Exit} (he : Exit.over e = true) (h : toDO H (resA P rs sl H) = some d') (_ : True) (hd : d' = d) : RetD P rs d e sl H := by
  subst hd
  cases hx : resA P rs sl H with
  | none => rw [hx] at h; cases h
  | some x => rw [hx] at h; exact ⟨he, x, hx, h⟩
abbrev pickC (v : Bool) (a b : Code) : Code := match v with
  | true => a
  | false => b
def LitB : Bool → Prop
  | true => True
  | false => True
theorem axG {P : Program} {b : Nat} {Q : Exit → List AV → Heap → Prop} {sl : List AV} {H : Heap} {cond : Operand} {tc ec : Code} {v : Bool} (hc : aev sl cond = .data (.bool v)) (_ : LitB v) (h : axp P b (pickC v tc ec) Q sl H) : axp P b (.cond cond tc ec) Q sl H := by
  cases v with
  | true => exact axp_cond_t hc h
  | false => exact axp_cond_f hc h
theorem awG {P : Program} {c : Ctx} {Q : Exit → List AV → Heap → Prop} {sl : List AV} {H : Heap} {cond : Operand} {tc ec : Code} {v : Bool} (hc : aev sl cond = .data (.bool v)) (_ : LitB v) (h : awp P c (pickC v tc ec) Q sl H) : awp P c (.cond cond tc ec) Q sl H := by
  cases v with
  | true => exact awp_cond_t hc h
  | false => exact awp_cond_f hc h
def qend (n : Nat) (ops : Array Oper) : Option (List AV) → Option (List AV × Nat)
  | some s => some (s, n + ops.size)
  | none => none
def qthen (P : Program) (Γ : FuncId → Option CSpec) (ops : Array Oper) (k n1 : Nat) (H : Heap) : Option (List AV) → Option (List AV × Heap)
  | some s => runOps P Γ false ops k (ops.toList.drop n1) s H
  | none => none
attribute [go_sem] qend qthen
section
variable {P : Program} {Γ : FuncId → Option CSpec} {c : Ctx} {b : Nat} {sl sl' : List AV} {tab tab' : List (Nat × Obj)} {n n1 m : Nat} {ops : Array Oper} {Q : Exit → List AV → Heap → Prop} {id : Nat}
theorem awT (hmix : P.follows .mixedOrders = true) (hΓ : ∀ f s, Γ f = some s → SpecOK P f s) (hd : drawOK ops ops.size = true) (h : qend n ops (qruns P Γ ops ⟨tab, n⟩ ops.toList sl) = some (sl', m)) (hQ : Q .normal sl' ⟨tab, m⟩) : awp P c (.region id ops true) Q sl ⟨tab, n⟩ := by
  cases hx : qruns P Γ ops ⟨tab, n⟩ ops.toList sl with
  | none => rw [hx] at h; cases h
  | some s => rw [hx] at h; cases h; exact awp_regf hmix hΓ hd hx rfl hQ
theorem awH (hmix : P.follows .mixedOrders = true) (hΓ : ∀ f s, Γ f = some s → SpecOK P f s) (hs : ops.size = n1 + 1) (hd : drawOK ops n1 = true) (h : qthen P Γ ops (n + n1) n1 ⟨tab, n⟩ (qruns P Γ ops ⟨tab, n⟩ (ops.toList.take n1) sl) = some (sl', ⟨tab', m⟩)) (_ : True) (hQ : Q .normal sl' ⟨tab', m⟩) : awp P c (.region id ops true) Q sl ⟨tab, n⟩ := by
  cases hx : qruns P Γ ops ⟨tab, n⟩ (ops.toList.take n1) sl with
  | none => rw [hx] at h; cases h
  | some s => rw [hx] at h; exact awp_regt hmix hΓ hs hd hx rfl h hQ
end
abbrev axA := @axp_seq
abbrev axB := @axp_block
section
variable {P : Program} {Γ : FuncId → Option CSpec} {c : Ctx} {b : Nat} {sl sl' : List AV} {H : Heap} {tab tab' : List (Nat × Obj)} {n m : Nat} {ops : Array Oper} {Q : Exit → List AV → Heap → Prop} {K : List AV → Heap → Prop} {id id' l : Nat}
theorem axR (hΓ : ∀ f s, Γ f = some s → SpecOK P f s) (h : runOps P Γ false ops n ops.toList sl ⟨tab, n⟩ = some (sl', ⟨tab', m⟩)) (_ : True) (hQ : Q .normal sl' ⟨tab', m⟩) : axp P b (.region id ops false) Q sl ⟨tab, n⟩ := axp_reg hΓ h hQ
theorem awR (hΓ : ∀ f s, Γ f = some s → SpecOK P f s) (h : runOps P Γ false ops n ops.toList sl ⟨tab, n⟩ = some (sl', ⟨tab', m⟩)) (_ : True) (hQ : Q .normal sl' ⟨tab', m⟩) : awp P c (.region id ops false) Q sl ⟨tab, n⟩ := awp_reg hΓ h hQ
end
inductive Ctl : Prop → Prop → Prop where
  | xr {P : Program} {b : Nat} {Q : Exit → List AV → Heap → Prop} {sl : List AV} {H : Heap} : Ctl (axp P b .ret Q sl H) (Q .ret sl H)
  | xs {P : Program} {b : Nat} {Q : Exit → List AV → Heap → Prop} {sl : List AV} {H : Heap} : Ctl (axp P b .skip Q sl H) (Q .normal sl H)
  | xe {P : Program} {b : Nat} {Q : Exit → List AV → Heap → Prop} {sl : List AV} {H : Heap} {id : Nat} : Ctl (axp P b (.exit id) Q sl H) (Q (.exit id) sl H)
  | xl {P : Program} {b : Nat} {Q : Exit → List AV → Heap → Prop} {sl : List AV} {H : Heap} {l : Nat} : Ctl (axp P b (.label l) Q sl H) (Q .normal sl H)
  | wr {P : Program} {c : Ctx} {Q : Exit → List AV → Heap → Prop} {sl : List AV} {H : Heap} : Ctl (awp P c .ret Q sl H) (Q .ret sl H)
  | ws {P : Program} {c : Ctx} {Q : Exit → List AV → Heap → Prop} {sl : List AV} {H : Heap} : Ctl (awp P c .skip Q sl H) (Q .normal sl H)
  | we {P : Program} {c : Ctx} {Q : Exit → List AV → Heap → Prop} {sl : List AV} {H : Heap} {id : Nat} : Ctl (awp P c (.exit id) Q sl H) (Q (.exit id) sl H)
  | wl {P : Program} {c : Ctx} {Q : Exit → List AV → Heap → Prop} {sl : List AV} {H : Heap} {l : Nat} : Ctl (awp P c (.label l) Q sl H) (Q .normal sl H)
  | tn {K : List AV → Heap → Prop} {Q : Exit → List AV → Heap → Prop} {sl : List AV} {H : Heap} : Ctl (thenA K Q .normal sl H) (K sl H)
  | tr {K : List AV → Heap → Prop} {Q : Exit → List AV → Heap → Prop} {sl : List AV} {H : Heap} : Ctl (thenA K Q .ret sl H) (Q .ret sl H)
  | te {K : List AV → Heap → Prop} {Q : Exit → List AV → Heap → Prop} {sl : List AV} {H : Heap} {id : Nat} : Ctl (thenA K Q (.exit id) sl H) (Q (.exit id) sl H)
  | bn {Q : Exit → List AV → Heap → Prop} {sl : List AV} {H : Heap} {id : Nat} : Ctl (inBlockA id Q .normal sl H) (Q .normal sl H)
  | br {Q : Exit → List AV → Heap → Prop} {sl : List AV} {H : Heap} {id : Nat} : Ctl (inBlockA id Q .ret sl H) (Q .ret sl H)
  | bx {Q : Exit → List AV → Heap → Prop} {sl : List AV} {H : Heap} {id : Nat} : Ctl (inBlockA id Q (.exit id) sl H) (Q .normal sl H)
  | bo {Q : Exit → List AV → Heap → Prop} {sl : List AV} {H : Heap} {id id' : Nat} (h : (id' == id) = false) : Ctl (inBlockA id Q (.exit id') sl H) (Q (.exit id') sl H)
theorem axK {A B : Prop} (h : Ctl A B) (hb : B) : A := by
  cases h with
  | xr => exact axp_ret hb
  | xs => exact axp_skip hb
  | xe => exact axp_exit hb
  | xl => exact axp_label hb
  | wr => exact awp_ret hb
  | ws => exact awp_skip hb
  | we => exact awp_exit hb
  | wl => exact awp_label hb
  | tn => exact then_normal hb
  | tr => exact then_ret hb
  | te => exact then_exit hb
  | bn => exact block_normal hb
  | br => exact block_ret hb
  | bx => exact block_exit hb
  | bo h => exact block_out h hb
inductive Ctm : Prop → Prop → Prop where
  | xq {P : Program} {b : Nat} {Q : Exit → List AV → Heap → Prop} {sl : List AV} {H : Heap} {x y : Code} : Ctm (axp P b (.seq x y) Q sl H) (axp P b x (thenA (axp P b y Q) Q) sl H)
  | xb {P : Program} {b : Nat} {Q : Exit → List AV → Heap → Prop} {sl : List AV} {H : Heap} {id : Nat} {x : Code} : Ctm (axp P b (.block id x) Q sl H) (axp P b x (inBlockA id Q) sl H)
  | wq {P : Program} {c : Ctx} {Q : Exit → List AV → Heap → Prop} {sl : List AV} {H : Heap} {x y : Code} : Ctm (awp P c (.seq x y) Q sl H) (awp P c x (thenA (awp P c y Q) Q) sl H)
  | wb {P : Program} {c : Ctx} {Q : Exit → List AV → Heap → Prop} {sl : List AV} {H : Heap} {id : Nat} {x : Code} : Ctm (awp P c (.block id x) Q sl H) (awp P c x (inBlockA id Q) sl H)
  | xr {P : Program} {b : Nat} {Q : Exit → List AV → Heap → Prop} {sl : List AV} {H : Heap} : Ctm (axp P b .ret Q sl H) (Q .ret sl H)
  | xs {P : Program} {b : Nat} {Q : Exit → List AV → Heap → Prop} {sl : List AV} {H : Heap} : Ctm (axp P b .skip Q sl H) (Q .normal sl H)
  | xe {P : Program} {b : Nat} {Q : Exit → List AV → Heap → Prop} {sl : List AV} {H : Heap} {id : Nat} : Ctm (axp P b (.exit id) Q sl H) (Q (.exit id) sl H)
  | xl {P : Program} {b : Nat} {Q : Exit → List AV → Heap → Prop} {sl : List AV} {H : Heap} {l : Nat} : Ctm (axp P b (.label l) Q sl H) (Q .normal sl H)
  | wr {P : Program} {c : Ctx} {Q : Exit → List AV → Heap → Prop} {sl : List AV} {H : Heap} : Ctm (awp P c .ret Q sl H) (Q .ret sl H)
  | ws {P : Program} {c : Ctx} {Q : Exit → List AV → Heap → Prop} {sl : List AV} {H : Heap} : Ctm (awp P c .skip Q sl H) (Q .normal sl H)
  | we {P : Program} {c : Ctx} {Q : Exit → List AV → Heap → Prop} {sl : List AV} {H : Heap} {id : Nat} : Ctm (awp P c (.exit id) Q sl H) (Q (.exit id) sl H)
  | wl {P : Program} {c : Ctx} {Q : Exit → List AV → Heap → Prop} {sl : List AV} {H : Heap} {l : Nat} : Ctm (awp P c (.label l) Q sl H) (Q .normal sl H)
  | tn {K : List AV → Heap → Prop} {Q : Exit → List AV → Heap → Prop} {sl : List AV} {H : Heap} : Ctm (thenA K Q .normal sl H) (K sl H)
  | tr {K : List AV → Heap → Prop} {Q : Exit → List AV → Heap → Prop} {sl : List AV} {H : Heap} : Ctm (thenA K Q .ret sl H) (Q .ret sl H)
  | te {K : List AV → Heap → Prop} {Q : Exit → List AV → Heap → Prop} {sl : List AV} {H : Heap} {id : Nat} : Ctm (thenA K Q (.exit id) sl H) (Q (.exit id) sl H)
  | bn {Q : Exit → List AV → Heap → Prop} {sl : List AV} {H : Heap} {id : Nat} : Ctm (inBlockA id Q .normal sl H) (Q .normal sl H)
  | br {Q : Exit → List AV → Heap → Prop} {sl : List AV} {H : Heap} {id : Nat} : Ctm (inBlockA id Q .ret sl H) (Q .ret sl H)
  | bx {Q : Exit → List AV → Heap → Prop} {sl : List AV} {H : Heap} {id : Nat} : Ctm (inBlockA id Q (.exit id) sl H) (Q .normal sl H)
  | bo {Q : Exit → List AV → Heap → Prop} {sl : List AV} {H : Heap} {id id' : Nat} (h : (id' == id) = false) : Ctm (inBlockA id Q (.exit id') sl H) (Q (.exit id') sl H)
theorem axJ {A B : Prop} (h : Ctm A B) (hb : B) : A := by
  cases h with
  | xq => exact axp_seq hb
  | xb => exact axp_block hb
  | wq => exact awp_seq hb
  | wb => exact awp_block hb
  | xr => exact axp_ret hb
  | xs => exact axp_skip hb
  | xe => exact axp_exit hb
  | xl => exact axp_label hb
  | wr => exact awp_ret hb
  | ws => exact awp_skip hb
  | we => exact awp_exit hb
  | wl => exact awp_label hb
  | tn => exact then_normal hb
  | tr => exact then_ret hb
  | te => exact then_exit hb
  | bn => exact block_normal hb
  | br => exact block_ret hb
  | bx => exact block_exit hb
  | bo h => exact block_out h hb
end Go.Ab
namespace Go.Ab
open Go Go.RowKit
section
variable {P : Program} {c : Ctx} {H : Heap} {θ : Nat → Value} {w w' : World} {sl : List AV} {a : Act}
theorem HSim.shift (hs : HSim c H θ w) {o k : Nat} {x0 x : Obj} {val : Value} (hk : ¬ H.ref k) (hg0 : H.get o = some x0) (hx0 : x0.live = true)
    (hw : ∀ b, b < w.heap.size → blk (θ o) ≠ some b → w'.heap[b]? = w.heap[b]?) (hz : w.heap.size ≤ w'.heap.size) (hf : ∀ b, blk val = some b → blk (θ o) = some b)
    (hobj : (∀ y u, VR H θ w (vis c H θ w) y u → VR ((H.set o .dead).set k x) (updθ θ k val) w' (vis c ((H.set o .dead).set k x) (updθ θ k val) w') y u) → ObjR c ((H.set o .dead).set k x) (updθ θ k val) w' x val) :
    HSim c ((H.set o .dead).set k x) (updθ θ k val) w' ∧ (∀ y u, VR H θ w (vis c H θ w) y u → VR ((H.set o .dead).set k x) (updθ θ k val) w' (vis c ((H.set o .dead).set k x) (updθ θ k val) w') y u) ∧ HLe H θ ((H.set o .dead).set k x) (updθ θ k val) := by
  have hro : H.ref o := .inr (by rw [hg0]; rfl)
  have hok : o ≠ k := fun e => hk (e ▸ hro)
  have hget : ∀ p, ((H.set o .dead).set k x).get p = if p = k then some x else if p = o then some .dead else H.get p := fun p => by rw [Heap.get_set, Heap.get_set]
  have hle : HLe H θ ((H.set o .dead).set k x) (updθ θ k val) := by
    refine ⟨fun p hp => Heap.ref_set (Heap.ref_set hp), fun p x' hp h => ?_⟩
    have hpk : p ≠ k := fun e => hk (e ▸ hp)
    rw [hget, if_neg hpk] at h
    by_cases hpo : p = o
    · subst hpo
      rw [if_pos rfl, Option.some.injEq] at h
      subst h
      exact ⟨x0, hg0, by cases x0 <;> trivial, fun _ => by simp [updθ, hpk]⟩
    · rw [if_neg hpo] at h
      exact ⟨x', h, x'.evo_refl, fun _ => by simp [updθ, hpk]⟩
  have hown' : ∀ b, own ((H.set o .dead).set k x) (updθ θ k val) b → own H θ b := by
    rintro b ⟨p, y, hg, hy, hbl⟩
    rw [hget] at hg
    by_cases hp : p = k
    · subst hp
      simp only [updθ, if_true] at hbl
      exact ⟨o, x0, hg0, hx0, hf b hbl⟩
    · rw [if_neg hp] at hg
      simp only [updθ, if_neg hp] at hbl
      by_cases hpo : p = o
      · rw [if_pos hpo, Option.some.injEq] at hg
        subst hg
        cases hy
      · rw [if_neg hpo] at hg
        exact ⟨p, y, hg, hy, hbl⟩
  have hv : ∀ b, vis c H θ w b → vis c ((H.set o .dead).set k x) (updθ θ k val) w' b ∧ w'.heap[b]? = w.heap[b]? := fun b ⟨h1, h2, h3⟩ =>
    ⟨⟨by omega, fun h => h2 (hown' b h), h3⟩, hw b h1 (fun h => h2 ⟨o, x0, hg0, hx0, h⟩)⟩
  have hvr : ∀ y u, VR H θ w (vis c H θ w) y u → VR ((H.set o .dead).set k x) (updθ θ k val) w' (vis c ((H.set o .dead).set k x) (updθ θ k val) w') y u := fun y u h => h.mono hv hle
  refine ⟨⟨Nat.le_trans hs.size hz, fun p y hg => ?_, fun p p' y y' hg hg' hy hy' hne' b hb hb' => ?_⟩, hvr, hle⟩
  · rw [hget] at hg
    by_cases hp : p = k
    · subst hp
      simp only [if_true, Option.some.injEq] at hg
      subst hg
      simp only [updθ, if_true]
      exact hobj hvr
    · rw [if_neg hp] at hg
      simp only [updθ, if_neg hp]
      by_cases hpo : p = o
      · rw [if_pos hpo, Option.some.injEq] at hg
        subst hg
        trivial
      · rw [if_neg hpo] at hg
        exact (hs.objs p y hg).mono hv hle (fun hy b hb => hw b ((hs.objs p y hg).lt hy hb) (hs.inj p o y x0 hg hg0 hy hx0 hpo b hb))
  · rw [hget] at hg hg'
    by_cases hp : p = k
    · subst hp
      rw [if_neg (Ne.symm hne')] at hg'
      simp only [updθ, if_true] at hb
      simp only [updθ, if_neg (Ne.symm hne')] at hb'
      by_cases hpo : p' = o
      · rw [if_pos hpo, Option.some.injEq] at hg'
        subst hg'
        cases hy'
      · rw [if_neg hpo] at hg'
        exact hs.inj o p' x0 y' hg0 hg' hx0 hy' (Ne.symm hpo) b (hf b hb) hb'
    · rw [if_neg hp] at hg
      simp only [updθ, if_neg hp] at hb
      by_cases hpo : p = o
      · rw [if_pos hpo, Option.some.injEq] at hg
        subst hg
        cases hy
      · rw [if_neg hpo] at hg
        by_cases hp' : p' = k
        · subst hp'
          simp only [updθ, if_true] at hb'
          exact hs.inj p o y x0 hg hg0 hy hx0 hpo b hb (hf b hb')
        · rw [if_neg hp'] at hg'
          simp only [updθ, if_neg hp'] at hb'
          by_cases hpo' : p' = o
          · rw [if_pos hpo', Option.some.injEq] at hg'
            subst hg'
            cases hy'
          · rw [if_neg hpo'] at hg'
            exact hs.inj p p' y y' hg hg' hy hy' hne' b hb hb'
theorem wl_value {ops : Array Oper} {Q : Exit → Act → World → Prop} {o : Oper} {rest : List Oper} {w1 : World} {v : Value} (hg : o.guard = none) (hr : (execOp a.eval o).run P w = .ok (.value v) w1) (h : wpList P ops Q rest (a.put o.dst v) w1) : wpList P ops Q (o :: rest) a w := by
  refine wpList_step fun K hK => ?_
  have hw : Region.wanted o (yielded ops a.tmps) = true := by unfold Region.wanted; rw [hg]
  rw [if_pos hw]
  unfold Oper.wp
  rw [hr]
  exact hK _ _ h
theorem put_same {d : Nat} {v : Value} (h : d < a.tmps.size) : (a.put (some d) v).eval (.tmp d) = v := by
  simp [Act.put, Act.eval, h]
theorem put_other {d t : Nat} {v : Value} (h : d ≠ t) : (a.put (some d) v).eval (.tmp t) = a.eval (.tmp t) := by
  simp [Act.put, Act.eval, Array.getD_eq_getD_getElem?, Array.getElem?_setIfInBounds, h]
theorem put_size {d : Option Nat} {v : Value} : (a.put d v).tmps.size = a.tmps.size := by
  cases d <;> simp [Act.put]
theorem overV_take {off : Nat} {xs l : List Value} (h : off ≤ l.length) : (overV off xs l).take off = l.take off := by
  unfold overV
  rw [List.append_assoc, List.take_append_of_le_length (by rw [List.length_take]; omega), List.take_take, Nat.min_self]
theorem awp_cut {id1 id2 : Nat} {ops1 ops2 : Array Oper} {o0 o1 o2 o3 p0 p1 p2 p3 : Oper} {rest : Code} {Q : Exit → List AV → Heap → Prop} {t e : TypeId} {sz : Nat} {zv : Value} {x y d0 d1 d2 e0 e1 e2 e3 : Nat} {ob n i : Nat} {l : List D} {tab : List (Nat × Obj)} {nn : Nat}
    (h1 : ops1.toList = [o0, o1, o2, o3]) (h2 : ops2.toList = [p0, p1, p2, p3])
    (ho0 : o0.op = .move (.tmp x) ∧ o0.dst = some d0 ∧ o0.guard = none) (ho1 : o1.op = .move (.tmp y) ∧ o1.dst = some d1 ∧ o1.guard = none)
    (ho2 : o2.op = .slice t (.tmp d0) (some (.tmp d1)) none none ∧ o2.dst = some d2 ∧ o2.guard = none)
    (ho3 : o3.op = .call { callee := .builtin .clear, args := #[.tmp d2], argTypes := #[t] } ∧ o3.dst = none ∧ o3.guard = none)
    (hp0 : p0.op = .move (.tmp x) ∧ p0.dst = some e0 ∧ p0.guard = none) (hp1 : p1.op = .move (.tmp y) ∧ p1.dst = some e1 ∧ p1.guard = none)
    (hp2 : p2.op = .slice t (.tmp e0) none (some (.tmp e1)) none ∧ p2.dst = some e2 ∧ p2.guard = none) (hp3 : p3.op = .assign (.tmp e2) ∧ p3.dst = some e3 ∧ p3.guard = none)
    (hne : (d0 ≠ y ∧ d0 ≠ d1 ∧ d1 ≠ d0) ∧ (d0 ≠ x ∧ d1 ≠ x ∧ d2 ≠ x) ∧ (d0 ≠ y ∧ d1 ≠ y ∧ d2 ≠ y ∧ e0 ≠ y) ∧ e1 ≠ e0) (hlt : d0 < sl.length ∧ d1 < sl.length ∧ d2 < sl.length ∧ e0 < sl.length ∧ e1 < sl.length ∧ e2 < sl.length)
    (hx : aev sl (.tmp x) = .row ob n) (hy : aev sl (.tmp y) = .data (.int .i64 i)) (hg : look tab ob = some (.row e sz l)) (hn : l.length = n) (hi : i < n)
    (hu : P.underlying t = some (.slice e)) (hsz : tsize P e = some sz) (hz : tzero P e = some zv) (hzs : zv.cells.size = sz) (hz1 : ∀ u ∈ zv.cells.toList, u.oneCell' = true)
    (hrest : awp P c rest Q (putA (putA (putA (putA (putA (putA (putA sl (some d0) .junk) (some d1) .junk) (some d2) .junk) (some e0) .junk) (some e1) .junk) (some e2) .junk) (some e3) (.row nn i)) ⟨upd (upd tab ob .dead) nn (.row e sz (l.take i)), nn + 1⟩) :
    awp P c (.seq (.region id1 ops1 false) (.seq (.region id2 ops2 false) rest)) Q sl ⟨tab, nn⟩ := by
  intro θ w a hs
  have hv0 := aev_sound hs.st (.tmp x)
  have hv1 := aev_sound hs.st (.tmp y)
  rw [hx] at hv0
  rw [hy] at hv1
  have hi1 := hv1.data_inv.int_eq
  have hg' : (⟨tab, nn⟩ : Heap).get ob = some (.row e sz l) := hg
  have hθ0 : a.eval (.tmp x) = θ ob := by
    cases hv0 with
    | row _ _ _ hv hr h => exact (h _ _ hg' rfl).2 hn
  obtain ⟨h0, hcl, hone, vs, hown, hbl, hvs⟩ := hs.st.sim.objs ob _ hg'
  obtain ⟨hvl, hrow⟩ := hown
  rcases hrow with ⟨_, h⟩ | ⟨g, cap, cur, hθ, _, ⟨fr, hh, hso⟩, hnc, hcm, hcs, htake⟩
  · omega
  rw [hn] at hθ hnc hvl htake
  rw [hθ] at hθ0
  have hisz : i * sz + (n - i) * sz = n * sz := by rw [← Nat.add_mul]; congr 1; omega
  have hcsz : n * sz ≤ cap * sz := Nat.mul_le_mul_right _ hnc
  obtain ⟨zs, hzl, hzo, hclr⟩ : ∃ zs : List Value, zs.length = (n - i) * sz ∧ (∀ u ∈ zs, u.oneCell' = true) ∧ ∀ ty cp, (Builtin.clear_ #[t] ty #[.slice (some ⟨g, i * sz, none⟩) (n - i) cp]).run P w = .ok (.tuple #[]) (w.setRow g (overV (i * sz) zs cur.toList).toArray) := by
    obtain ⟨m, hm⟩ : ∃ m, n - i = m + 1 := ⟨n - i - 1, by omega⟩
    simp only [tzero, Option.bind_eq_some_iff] at hz
    obtain ⟨inf, hinf, hzz⟩ := hz
    have hlen : (Builtin.zeroCells zv.cells (n - i)).toList.length = (n - i) * sz := by rw [Array.length_toList, size_zeroCells, hzs]
    have hone : ∀ u ∈ (Builtin.zeroCells zv.cells (n - i)).toList, u.oneCell' = true := fun u hu' => by
      simp only [Builtin.zeroCells, Array.toList_map, List.mem_map] at hu'
      obtain ⟨k, _, rfl⟩ := hu'
      have hk : k % zv.cells.size < zv.cells.size := Nat.mod_lt _ (by omega)
      rw [getElem!_pos zv.cells _ hk]
      exact hz1 _ (by rw [← Array.getElem_toList (by simpa using hk)]; exact List.getElem_mem _)
    refine ⟨_, hlen, hone, fun ty cp => ?_⟩
    have hst := run_storeCells_soft (P := P) (w := w) (off := i * sz) hh hso (vs := (Builtin.zeroCells zv.cells (n - i)).toList) (by rw [hlen, hisz]; omega) hone
    rw [hm] at hst ⊢
    simp [Builtin.clear_, run_underlying hu, zeroValue, typeInfo, hinf, hzz, hst]
  obtain ⟨⟨n1, n2, n3⟩, ⟨n4, n5, n6⟩, ⟨n7, n8, n9, n10⟩, n11⟩ := hne
  obtain ⟨l1, l2, l3, l4, l5, l6⟩ := hlt
  have hsize := hs.st.size
  have hmv : ∀ (o : Oper) (a : Act) (w : World) (z : Operand), o.op = .move z ∨ o.op = .assign z → (execOp a.eval o).run P w = .ok (.value (a.eval z)) w := fun o a w z ho => by
    rcases ho with ho | ho <;> simp [execOp, ho]
  have hbr1 : ∀ w, (Instr.sliceBounds true n cap (some (.int .i64 (i : Int))) none none).run P w = .ok (i, n, cap) w := fun w =>
    bounds_run (.inl ⟨rfl, rfl⟩) (.inr ⟨_, rfl, by
      have : 0 ≤ (i : Int) ∧ (i : Int) ≤ (n : Int) := by omega
      simp [Instr.sliceBound, asIntOf, this]⟩)
  have hbr2 : ∀ w, (Instr.sliceBounds true n cap none (some (.int .i64 (i : Int))) none).run P w = .ok (0, i, cap) w := fun w =>
    bounds_run (.inr ⟨_, rfl, by
      have : 0 ≤ (i : Int) ∧ (i : Int) ≤ (cap : Int) := by omega
      simp [Instr.sliceBound, asIntOf, this]⟩) (.inl ⟨rfl, rfl⟩)
  generalize hw3 : w.setRow g (overV (i * sz) zs cur.toList).toArray = w3 at hclr
  let V0 : Value := .slice (some ⟨g, 0, none⟩) n cap
  let VI : Value := .int .i64 (i : Int)
  let V2 : Value := .slice (some ⟨g, i * sz, none⟩) (n - i) (cap - i)
  let V5 : Value := .slice (some ⟨g, 0, none⟩) i cap
  refine wp_seq (wp_region_list ?_)
  rw [h1]
  refine wl_value (v := V0) ho0.2.2 (by rw [hmv _ _ _ _ (.inl ho0.1), hθ0]) ?_
  rw [ho0.2.1]
  refine wl_value (v := VI) ho1.2.2 (by rw [hmv _ _ _ _ (.inl ho1.1), put_other n1, hi1]) ?_
  rw [ho1.2.1]
  have ev2 : ((a.put (some d0) V0).put (some d1) VI).eval (.tmp d0) = V0 := by rw [put_other n3, put_same (by omega)]
  have ev3 : ((a.put (some d0) V0).put (some d1) VI).eval (.tmp d1) = VI := put_same (by rw [put_size]; omega)
  refine wl_value (v := V2) (w1 := w) ho2.2.2 ?_ ?_
  · have hne : ¬ cap = i := by omega
    simp only [execOp, ho2.1, Instr.sliceAt, Sem.run_bind, run_underlying hu, Result.andThen_ok, ev2, ev3, Option.map_some, Instr.slice, Option.map_none, V0, VI, hbr1, run_sizeOf' hsz, Sem.run_pure, hne, if_false, Addr.add_lit, Nat.zero_add, V2]
  rw [ho2.2.1]
  have ev4 : (((a.put (some d0) V0).put (some d1) VI).put (some d2) V2).eval (.tmp d2) = V2 := put_same (by rw [put_size, put_size]; omega)
  refine wl_value (v := .tuple #[]) (w1 := w3) ho3.2.2 ?_ ?_
  · simp only [execOp, ho3.1, resolve, invoke, builtin, Sem.run_bind, Sem.run_pure, Result.andThen_ok, List.map_toArray, List.map_cons, List.map_nil, ev4, V2, hclr]
  rw [ho3.2.1]
  refine wpList_nil ?_
  refine wp_seq (wp_region_list ?_)
  rw [h2]
  generalize ha3 : ((((a.put (some d0) V0).put (some d1) VI).put (some d2) V2).put none (.tuple #[])) = a3
  have hz3 : a3.tmps.size = sl.length := by rw [← ha3]; simp only [put_size]; exact hsize
  have ex : a3.eval (.tmp x) = V0 := by
    rw [← ha3]
    show (((a.put (some d0) V0).put (some d1) VI).put (some d2) V2).eval (.tmp x) = V0
    rw [put_other n6, put_other n5, put_other n4, hθ0]
  have ey : a3.eval (.tmp y) = VI := by
    rw [← ha3]
    show (((a.put (some d0) V0).put (some d1) VI).put (some d2) V2).eval (.tmp y) = VI
    rw [put_other n9, put_other n8, put_other n7, hi1]
  refine wl_value (v := V0) hp0.2.2 (by rw [hmv _ _ _ _ (.inl hp0.1), ex]) ?_
  rw [hp0.2.1]
  refine wl_value (v := VI) hp1.2.2 (by rw [hmv _ _ _ _ (.inl hp1.1), put_other n10, ey]) ?_
  rw [hp1.2.1]
  have ev5 : ((a3.put (some e0) V0).put (some e1) VI).eval (.tmp e0) = V0 := by rw [put_other n11, put_same (by omega)]
  have ev6 : ((a3.put (some e0) V0).put (some e1) VI).eval (.tmp e1) = VI := put_same (by rw [put_size]; omega)
  refine wl_value (v := V5) (w1 := w3) hp2.2.2 ?_ ?_
  · have hne : ¬ cap = 0 := by omega
    simp only [execOp, hp2.1, Instr.sliceAt, Sem.run_bind, run_underlying hu, Result.andThen_ok, ev5, ev6, Option.map_some, Instr.slice, Option.map_none, V0, VI, hbr2, run_sizeOf' hsz, Sem.run_pure, hne, if_false, Addr.add_lit, Nat.zero_add, Nat.zero_mul, Nat.sub_zero, V5]
  rw [hp2.2.1]
  refine wl_value (v := V5) hp3.2.2 (by rw [hmv _ _ _ _ (.inr hp3.1)]; rw [put_same (by rw [put_size, put_size]; omega)]) ?_
  rw [hp3.2.1]
  refine wpList_nil ?_
  have hfresh : ¬ (⟨tab, nn⟩ : Heap).ref nn := by
    rintro (h | h)
    · exact Nat.lt_irrefl _ h
    · exact Nat.lt_irrefl _ (hs.wf _ h)
  have hcur : i * sz ≤ cur.toList.length := by rw [Array.length_toList, hcs]; omega
  have hsh := hs.st.sim.shift (w' := w3) (o := ob) (k := nn) (x0 := .row e sz l) (x := .row e sz (l.take i)) (val := V5) hfresh hg' rfl
    (fun b _ hb => by rw [← hw3]; exact setRow_other w g b _ (fun h => hb (by rw [hθ, h]; rfl))) (by rw [← hw3]; simp) (fun b hb => by rw [hθ]; exact hb)
    (fun hvr => by
      have htl : (l.take i).length = i := by rw [List.length_take]; omega
      refine ⟨h0, fun d hd => hcl d (List.mem_of_mem_take hd), fun d hd => hone d (mem_flat_sub (fun y hy => List.mem_of_mem_take hy) hd), vs.take (i * sz), ⟨by rw [List.length_take, hvl, htl]; omega, .inr ⟨g, cap, (overV (i * sz) zs cur.toList).toArray, by rw [htl], Nat.zero_le _, ⟨fr, ?_, ?_⟩, by omega, hcm, ?_, ?_⟩⟩, fun b hb => hbl b (by rw [hθ]; exact hb), fun k hk u hu => ?_⟩
      · rw [← hw3]
        exact setRow_heap w g cur _ e fr hh
      · rw [List.size_toArray, overV_length (by rw [hzl, hisz, Array.length_toList, hcs]; exact hcsz), Array.length_toList]
        exact hso
      · rw [List.size_toArray, overV_length (by rw [hzl, hisz, Array.length_toList, hcs]; exact hcsz), Array.length_toList, hcs]
      · simp only
        rw [htl, overV_take hcur, ← htake, List.take_take, Nat.min_eq_left (by omega)]
      · rw [List.getElem?_take] at hu
        split at hu
        · rename_i hki
          have hft : flat (l.take i) = (flat l).take (i * sz) := flat_take hcl i
          have hkl : k < (flat l).length := by rw [flat_length hcl, hn]; omega
          have := hvr _ u (.data _ _ (hvs k hkl u hu))
          simp only [hft, List.getElem_take]
          exact this.data_inv
        · cases hu)
  have hst3 : St c ((((⟨tab, nn⟩ : Heap).set ob .dead).set nn (.row e sz (l.take i)))) (updθ θ nn V5) w3 sl a := ⟨hsh.1, hs.st.defers, hs.st.size, fun j u v h1 h2 => hsh.2.1 u v (hs.st.vals j u v h1 h2)⟩
  have hrow5 : VR ((((⟨tab, nn⟩ : Heap).set ob .dead).set nn (.row e sz (l.take i)))) (updθ θ nn V5) w3 (vis c ((((⟨tab, nn⟩ : Heap).set ob .dead).set nn (.row e sz (l.take i)))) (updθ θ nn V5) w3) (.row nn i) V5 :=
    .row _ _ _ rfl (.inr (by rw [Heap.get_set, if_pos rfl]; rfl)) fun y m hy hm => by
      rw [Heap.get_set, if_pos rfl, Option.some.injEq] at hy
      subst hy
      simp only [Obj.rlen, Option.some.injEq] at hm
      have : (l.take i).length = i := by rw [List.length_take]; omega
      exact ⟨by omega, fun _ => by simp [updθ]⟩
  have hst4 := (((((((hst3.putA (.junk V0) (some d0)).putA (.junk VI) (some d1)).putA (.junk V2) (some d2)).putA (.junk V0) (some e0)).putA (.junk VI) (some e1)).putA (.junk V5) (some e2)).putA hrow5 (some e3))
  have hst5 := hst4.bump (n := nn + 1) (by simp [Heap.set])
  have hle := hsh.2.2.trans (HLe.bump (n := nn + 1) (by simp [Heap.set]))
  have hkept : Kept c w w3 := by
    rw [← hw3]
    refine ⟨rfl, rfl, rfl, by simp, fun b hb hb2 => setRow_other w g b _ (fun h => ?_)⟩
    rcases hbl b (by rw [hθ, h]; rfl) with h3 | h3
    · omega
    · exact hb2 h3
  have hbase := hs.base
  subst ha3
  refine Go.wp_mono (hrest _ w3 _ ⟨hst5, fun p hp => ?_, Nat.le_trans hbase (Nat.le_succ _)⟩) ?_
  · have hp' : ((((⟨tab, nn⟩ : Heap).set ob .dead).set nn (.row e sz (l.take i))).get p).isSome := hp
    rw [Heap.get_set, Heap.get_set] at hp'
    show p < nn + 1
    split at hp'
    · omega
    · split at hp'
      · rename_i h3
        have := hs.wf p (by rw [h3, hg']; rfl)
        exact Nat.lt_succ_of_lt this
      · exact Nat.lt_succ_of_lt (hs.wf p hp')
  · rintro ex a' w' ⟨sl', H', θ', q, s2, k2, v2⟩
    exact ⟨sl', H', θ', q, s2, hkept.trans k2, (hle.evo hbase).trans v2⟩
theorem axp_cut {id1 id2 : Nat} {ops1 ops2 : Array Oper} {o0 o1 o2 o3 p0 p1 p2 p3 : Oper} {rest : Code} {Q : Exit → List AV → Heap → Prop} {t e : TypeId} {sz : Nat} {zv : Value} {x y d0 d1 d2 e0 e1 e2 e3 : Nat} {ob n i : Nat} {l : List D} {tab : List (Nat × Obj)} {nn b : Nat}
    (h1 : ops1.toList = [o0, o1, o2, o3]) (h2 : ops2.toList = [p0, p1, p2, p3])
    (ho0 : o0.op = .move (.tmp x) ∧ o0.dst = some d0 ∧ o0.guard = none) (ho1 : o1.op = .move (.tmp y) ∧ o1.dst = some d1 ∧ o1.guard = none)
    (ho2 : o2.op = .slice t (.tmp d0) (some (.tmp d1)) none none ∧ o2.dst = some d2 ∧ o2.guard = none)
    (ho3 : o3.op = .call { callee := .builtin .clear, args := #[.tmp d2], argTypes := #[t] } ∧ o3.dst = none ∧ o3.guard = none)
    (hp0 : p0.op = .move (.tmp x) ∧ p0.dst = some e0 ∧ p0.guard = none) (hp1 : p1.op = .move (.tmp y) ∧ p1.dst = some e1 ∧ p1.guard = none)
    (hp2 : p2.op = .slice t (.tmp e0) none (some (.tmp e1)) none ∧ p2.dst = some e2 ∧ p2.guard = none) (hp3 : p3.op = .assign (.tmp e2) ∧ p3.dst = some e3 ∧ p3.guard = none)
    (hne : (d0 ≠ y ∧ d0 ≠ d1 ∧ d1 ≠ d0) ∧ (d0 ≠ x ∧ d1 ≠ x ∧ d2 ≠ x) ∧ (d0 ≠ y ∧ d1 ≠ y ∧ d2 ≠ y ∧ e0 ≠ y) ∧ e1 ≠ e0) (hlt : d0 < sl.length ∧ d1 < sl.length ∧ d2 < sl.length ∧ e0 < sl.length ∧ e1 < sl.length ∧ e2 < sl.length)
    (hx : aev sl (.tmp x) = .row ob n) (hy : aev sl (.tmp y) = .data (.int .i64 i)) (hg : look tab ob = some (.row e sz l)) (hn : l.length = n) (hi : i < n)
    (hu : P.underlying t = some (.slice e)) (hsz : tsize P e = some sz) (hz : tzero P e = some zv) (hzs : zv.cells.size = sz) (hz1 : ∀ u ∈ zv.cells.toList, u.oneCell' = true)
    (hrest : axp P b rest Q (putA (putA (putA (putA (putA (putA (putA sl (some d0) .junk) (some d1) .junk) (some d2) .junk) (some e0) .junk) (some e1) .junk) (some e2) .junk) (some e3) (.row nn i)) ⟨upd (upd tab ob .dead) nn (.row e sz (l.take i)), nn + 1⟩) :
    axp P b (.seq (.region id1 ops1 false) (.seq (.region id2 ops2 false) rest)) Q sl ⟨tab, nn⟩ := by
  obtain ⟨e, s1, H1, hq, h⟩ := hrest
  exact ⟨e, s1, H1, hq, fun c hb => awp_cut h1 h2 ho0 ho1 ho2 ho3 hp0 hp1 hp2 hp3 hne hlt hx hy hg hn hi hu hsz hz hzs hz1 (h c hb)⟩
end
end Go.Ab
