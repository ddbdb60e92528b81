/-
  One text of the proof (own work): contracts of functions of the program, by the abstract machine.
-/
import Derived.Test.YtlfmbcjjojedgaaGreatDoorX18
set_option linter.unusedVariables false
set_option linter.unusedSimpArgs false
namespace Go.Ab
open Go Go.RowKit
theorem dk : (∀ {p : Prop} [Decidable p], p → decide p = true) ∧ (∀ {p : Prop} [Decidable p], ¬ p → decide p = false) ∧ (∀ {c : Prop} {h : Decidable c} (_ : c) {α : Type} {t e : α}, (@ite α c h t e) = t) ∧ (∀ {c : Prop} {h : Decidable c} (_ : ¬ c) {α : Type} {t e : α}, (@ite α c h t e) = e) ∧
    (∀ {n : Int}, -9223372036854775808 ≤ n → n < 9223372036854775808 → IntKind.wrap .i64 n = n) ∧ maxLen = 9223372036854775807 := ⟨fun h => decide_eq_true h, fun h => decide_eq_false h, fun hc => if_pos hc, fun hc => if_neg hc, fun h h' => wrap_in h h', rfl⟩
theorem lk : (∀ {α β : Type} (f : α → β) (l : List α), List.map f (List.toArray l).toList = List.map f l) ∧ (∀ {α β : Type} (f : α → β) (a : α) (l : List α), List.map f (a :: l) = f a :: List.map f l) ∧ (∀ {α β : Type} (f : α → β), List.map f [] = []) := ⟨fun f l => map_lit f l, fun _ _ _ => rfl, fun _ => rfl⟩
theorem Weak.w {b m : Nat} {t t' : List (Nat × AV)} {tab tab' : List (Nat × Obj)} {n n' : Nat} (hb : b ≤ n' := by omega) (h1 : ConvF ⟨tab, n⟩ t t' := by (simp [ConvF, lookV, Conv, ints]; done))
    (h2 : TabSub n' tab tab' := by (simp (disch := omega) only [TabSub, look, if_pos, if_neg, Obj.refsOK, refsOKs, AV.refsOK, decide_eq_true_eq, Bool.and_true, Bool.and_self]) <;> ((repeat' apply And.intro) <;> first | exact True.intro | omega | (simp; done) | rfl))
    (h3 : refsF n' t' = true := by simp (disch := omega) only [refsF, AV.refsOK, Bool.and_true, Bool.and_self, decide_eq_true_eq, Bool.true_and, Bool.and_eq_true]; try omega) : Weak b (frame m t) ⟨tab, n⟩ (frame m t') ⟨tab', n'⟩ := Weak.ofF hb h1 h2 h3
theorem Weak.u {b m : Nat} {t t' : List (Nat × AV)} {tab tab' : List (Nat × Obj)} {n n' : Nat} (hb : b ≤ n' := by omega) (h1 : ConvF ⟨tab, n⟩ t t' := by (repeat' (first | exact True.intro | apply And.intro | exact rfl | exact Or.inl rfl)); done)
    (h2 : TabSub n' tab tab' := by (simp (disch := omega) only [TabSub, look, if_pos, if_neg, Obj.refsOK, refsOKs, AV.refsOK, decide_eq_true_eq, Bool.and_true, Bool.and_self]) <;> ((repeat' apply And.intro) <;> first | exact True.intro | omega | (simp; done) | rfl))
    (h3 : refsF n' t' = true := by simp (disch := omega) only [refsF, AV.refsOK, Bool.and_true, Bool.and_self, decide_eq_true_eq, Bool.true_and, Bool.and_eq_true]; try omega) : Weak b (frame m t) ⟨tab, n⟩ (frame m t') ⟨tab', n'⟩ := Weak.ofF hb h1 h2 h3
theorem Weak.v {b m : Nat} {t t' : List (Nat × AV)} {tab tab' : List (Nat × Obj)} {n n' : Nat} (h1 : ConvF ⟨tab, n⟩ t t') (h2 : TabSub n' tab tab') (hb : b ≤ n' := by omega)
    (h3 : refsF n' t' = true := by simp (disch := omega) only [refsF, AV.refsOK, Bool.and_true, Bool.and_self, decide_eq_true_eq, Bool.true_and, Bool.and_eq_true]; try omega) : Weak b (frame m t) ⟨tab, n⟩ (frame m t') ⟨tab', n'⟩ := Weak.ofF hb h1 h2 h3
def toDO (H : Heap) : Option AV → Option D
  | some x => toD H 4 x
  | none => none
attribute [go_sem] toDO
theorem ovE {P : Program} {sl : List AV} {H : Heap} {rs : List ResultVar} {d d' : D} {e : Exit} (he : Exit.over e = true) (h : toDO H (resA P rs sl H) = some d') (_ : True) (hd : d' = d) : RetD P rs d e sl H := by
  subst hd
  cases hx : resA P rs sl H with
  | none => rw [hx] at h; cases h
  | some x => rw [hx] at h; exact ⟨he, x, hx, h⟩
abbrev pickC (v : Bool) (a b : Code) : Code := match v with
  | true => a
  | false => b
def LitB : Bool → Prop
  | true => True
  | false => True
theorem awG {P : Program} {c : Ctx} {Q : Exit → List AV → Heap → Prop} {sl : List AV} {H : Heap} {cond : Operand} {tc ec : Code} {v : Bool} (hc : aev sl cond = .data (.bool v)) (_ : LitB v) (h : awp P c (pickC v tc ec) Q sl H) : awp P c (.cond cond tc ec) Q sl H := by
  cases v with
  | true => exact awp_cond_t hc h
  | false => exact awp_cond_f hc h
def qend (n : Nat) (ops : Array Oper) : Option (List AV) → Option (List AV × Nat)
  | some s => some (s, n + ops.size)
  | none => none
def qthen (P : Program) (Γ : FuncId → Option CSpec) (ops : Array Oper) (k n1 : Nat) (H : Heap) : Option (List AV) → Option (List AV × Heap)
  | some s => runOps P Γ false ops k (ops.toList.drop n1) s H
  | none => none
attribute [go_sem] qend qthen
section
variable {P : Program} {Γ : FuncId → Option CSpec} {c : Ctx} {b : Nat} {sl sl' : List AV} {tab tab' : List (Nat × Obj)} {n n1 m : Nat} {ops : Array Oper} {Q : Exit → List AV → Heap → Prop} {id : Nat}
theorem awT (hmix : P.follows .mixedOrders = true) (hΓ : ∀ f s, Γ f = some s → SpecOK P f s) (hd : drawOK ops ops.size = true) (h : qend n ops (qruns P Γ ops ⟨tab, n⟩ ops.toList sl) = some (sl', m)) (hQ : Q .normal sl' ⟨tab, m⟩) : awp P c (.region id ops true) Q sl ⟨tab, n⟩ := by
  cases hx : qruns P Γ ops ⟨tab, n⟩ ops.toList sl with
  | none => rw [hx] at h; cases h
  | some s => rw [hx] at h; cases h; exact awp_regf hmix hΓ hd hx rfl hQ
theorem awH (hmix : P.follows .mixedOrders = true) (hΓ : ∀ f s, Γ f = some s → SpecOK P f s) (hs : ops.size = n1 + 1) (hd : drawOK ops n1 = true) (h : qthen P Γ ops (n + n1) n1 ⟨tab, n⟩ (qruns P Γ ops ⟨tab, n⟩ (ops.toList.take n1) sl) = some (sl', ⟨tab', m⟩)) (_ : True) (hQ : Q .normal sl' ⟨tab', m⟩) : awp P c (.region id ops true) Q sl ⟨tab, n⟩ := by
  cases hx : qruns P Γ ops ⟨tab, n⟩ (ops.toList.take n1) sl with
  | none => rw [hx] at h; cases h
  | some s => rw [hx] at h; exact awp_regt hmix hΓ hs hd hx rfl h hQ
end
abbrev awA := @awp_seq
section
variable {P : Program} {Γ : FuncId → Option CSpec} {c : Ctx} {b : Nat} {sl sl' : List AV} {H : Heap} {tab tab' : List (Nat × Obj)} {n m : Nat} {ops : Array Oper} {Q : Exit → List AV → Heap → Prop} {K : List AV → Heap → Prop} {id id' l : Nat}
theorem awR (hΓ : ∀ f s, Γ f = some s → SpecOK P f s) (h : runOps P Γ false ops n ops.toList sl ⟨tab, n⟩ = some (sl', ⟨tab', m⟩)) (_ : True) (hQ : Q .normal sl' ⟨tab', m⟩) : awp P c (.region id ops false) Q sl ⟨tab, n⟩ := awp_reg hΓ h hQ
end
inductive Ctl : Prop → Prop → Prop where
  | xr {P : Program} {b : Nat} {Q : Exit → List AV → Heap → Prop} {sl : List AV} {H : Heap} : Ctl (axp P b .ret Q sl H) (Q .ret sl H)
  | xs {P : Program} {b : Nat} {Q : Exit → List AV → Heap → Prop} {sl : List AV} {H : Heap} : Ctl (axp P b .skip Q sl H) (Q .normal sl H)
  | xe {P : Program} {b : Nat} {Q : Exit → List AV → Heap → Prop} {sl : List AV} {H : Heap} {id : Nat} : Ctl (axp P b (.exit id) Q sl H) (Q (.exit id) sl H)
  | xl {P : Program} {b : Nat} {Q : Exit → List AV → Heap → Prop} {sl : List AV} {H : Heap} {l : Nat} : Ctl (axp P b (.label l) Q sl H) (Q .normal sl H)
  | wr {P : Program} {c : Ctx} {Q : Exit → List AV → Heap → Prop} {sl : List AV} {H : Heap} : Ctl (awp P c .ret Q sl H) (Q .ret sl H)
  | ws {P : Program} {c : Ctx} {Q : Exit → List AV → Heap → Prop} {sl : List AV} {H : Heap} : Ctl (awp P c .skip Q sl H) (Q .normal sl H)
  | we {P : Program} {c : Ctx} {Q : Exit → List AV → Heap → Prop} {sl : List AV} {H : Heap} {id : Nat} : Ctl (awp P c (.exit id) Q sl H) (Q (.exit id) sl H)
  | wl {P : Program} {c : Ctx} {Q : Exit → List AV → Heap → Prop} {sl : List AV} {H : Heap} {l : Nat} : Ctl (awp P c (.label l) Q sl H) (Q .normal sl H)
  | tn {K : List AV → Heap → Prop} {Q : Exit → List AV → Heap → Prop} {sl : List AV} {H : Heap} : Ctl (thenA K Q .normal sl H) (K sl H)
  | tr {K : List AV → Heap → Prop} {Q : Exit → List AV → Heap → Prop} {sl : List AV} {H : Heap} : Ctl (thenA K Q .ret sl H) (Q .ret sl H)
  | te {K : List AV → Heap → Prop} {Q : Exit → List AV → Heap → Prop} {sl : List AV} {H : Heap} {id : Nat} : Ctl (thenA K Q (.exit id) sl H) (Q (.exit id) sl H)
  | bn {Q : Exit → List AV → Heap → Prop} {sl : List AV} {H : Heap} {id : Nat} : Ctl (inBlockA id Q .normal sl H) (Q .normal sl H)
  | br {Q : Exit → List AV → Heap → Prop} {sl : List AV} {H : Heap} {id : Nat} : Ctl (inBlockA id Q .ret sl H) (Q .ret sl H)
  | bx {Q : Exit → List AV → Heap → Prop} {sl : List AV} {H : Heap} {id : Nat} : Ctl (inBlockA id Q (.exit id) sl H) (Q .normal sl H)
  | bo {Q : Exit → List AV → Heap → Prop} {sl : List AV} {H : Heap} {id id' : Nat} (h : (id' == id) = false) : Ctl (inBlockA id Q (.exit id') sl H) (Q (.exit id') sl H)
inductive Ctm : Prop → Prop → Prop where
  | xq {P : Program} {b : Nat} {Q : Exit → List AV → Heap → Prop} {sl : List AV} {H : Heap} {x y : Code} : Ctm (axp P b (.seq x y) Q sl H) (axp P b x (thenA (axp P b y Q) Q) sl H)
  | xb {P : Program} {b : Nat} {Q : Exit → List AV → Heap → Prop} {sl : List AV} {H : Heap} {id : Nat} {x : Code} : Ctm (axp P b (.block id x) Q sl H) (axp P b x (inBlockA id Q) sl H)
  | wq {P : Program} {c : Ctx} {Q : Exit → List AV → Heap → Prop} {sl : List AV} {H : Heap} {x y : Code} : Ctm (awp P c (.seq x y) Q sl H) (awp P c x (thenA (awp P c y Q) Q) sl H)
  | wb {P : Program} {c : Ctx} {Q : Exit → List AV → Heap → Prop} {sl : List AV} {H : Heap} {id : Nat} {x : Code} : Ctm (awp P c (.block id x) Q sl H) (awp P c x (inBlockA id Q) sl H)
  | xr {P : Program} {b : Nat} {Q : Exit → List AV → Heap → Prop} {sl : List AV} {H : Heap} : Ctm (axp P b .ret Q sl H) (Q .ret sl H)
  | xs {P : Program} {b : Nat} {Q : Exit → List AV → Heap → Prop} {sl : List AV} {H : Heap} : Ctm (axp P b .skip Q sl H) (Q .normal sl H)
  | xe {P : Program} {b : Nat} {Q : Exit → List AV → Heap → Prop} {sl : List AV} {H : Heap} {id : Nat} : Ctm (axp P b (.exit id) Q sl H) (Q (.exit id) sl H)
  | xl {P : Program} {b : Nat} {Q : Exit → List AV → Heap → Prop} {sl : List AV} {H : Heap} {l : Nat} : Ctm (axp P b (.label l) Q sl H) (Q .normal sl H)
  | wr {P : Program} {c : Ctx} {Q : Exit → List AV → Heap → Prop} {sl : List AV} {H : Heap} : Ctm (awp P c .ret Q sl H) (Q .ret sl H)
  | ws {P : Program} {c : Ctx} {Q : Exit → List AV → Heap → Prop} {sl : List AV} {H : Heap} : Ctm (awp P c .skip Q sl H) (Q .normal sl H)
  | we {P : Program} {c : Ctx} {Q : Exit → List AV → Heap → Prop} {sl : List AV} {H : Heap} {id : Nat} : Ctm (awp P c (.exit id) Q sl H) (Q (.exit id) sl H)
  | wl {P : Program} {c : Ctx} {Q : Exit → List AV → Heap → Prop} {sl : List AV} {H : Heap} {l : Nat} : Ctm (awp P c (.label l) Q sl H) (Q .normal sl H)
  | tn {K : List AV → Heap → Prop} {Q : Exit → List AV → Heap → Prop} {sl : List AV} {H : Heap} : Ctm (thenA K Q .normal sl H) (K sl H)
  | tr {K : List AV → Heap → Prop} {Q : Exit → List AV → Heap → Prop} {sl : List AV} {H : Heap} : Ctm (thenA K Q .ret sl H) (Q .ret sl H)
  | te {K : List AV → Heap → Prop} {Q : Exit → List AV → Heap → Prop} {sl : List AV} {H : Heap} {id : Nat} : Ctm (thenA K Q (.exit id) sl H) (Q (.exit id) sl H)
  | bn {Q : Exit → List AV → Heap → Prop} {sl : List AV} {H : Heap} {id : Nat} : Ctm (inBlockA id Q .normal sl H) (Q .normal sl H)
  | br {Q : Exit → List AV → Heap → Prop} {sl : List AV} {H : Heap} {id : Nat} : Ctm (inBlockA id Q .ret sl H) (Q .ret sl H)
  | bx {Q : Exit → List AV → Heap → Prop} {sl : List AV} {H : Heap} {id : Nat} : Ctm (inBlockA id Q (.exit id) sl H) (Q .normal sl H)
  | bo {Q : Exit → List AV → Heap → Prop} {sl : List AV} {H : Heap} {id id' : Nat} (h : (id' == id) = false) : Ctm (inBlockA id Q (.exit id') sl H) (Q (.exit id') sl H)
theorem axJ {A B : Prop} (h : Ctm A B) (hb : B) : A := by
  cases h with
  | xq => exact axp_seq hb
  | xb => exact axp_block hb
  | wq => exact awp_seq hb
  | wb => exact awp_block hb
  | xr => exact axp_ret hb
  | xs => exact axp_skip hb
  | xe => exact axp_exit hb
  | xl => exact axp_label hb
  | wr => exact awp_ret hb
  | ws => exact awp_skip hb
  | we => exact awp_exit hb
  | wl => exact awp_label hb
  | tn => exact then_normal hb
  | tr => exact then_ret hb
  | te => exact then_exit hb
  | bn => exact block_normal hb
  | br => exact block_ret hb
  | bx => exact block_exit hb
  | bo h => exact block_out h hb
end Go.Ab
namespace Go.Ab
open Go Go.RowKit
section
variable {P : Program} {c : Ctx} {H : Heap} {θ : Nat → Value} {w w' : World} {sl : List AV} {a : Act}
theorem HSim.shift (hs : HSim c H θ w) {o k : Nat} {x0 x : Obj} {val : Value} (hk : ¬ H.ref k) (hg0 : H.get o = some x0) (hx0 : x0.live = true)
    (hw : ∀ b, b < w.heap.size → blk (θ o) ≠ some b → w'.heap[b]? = w.heap[b]?) (hz : w.heap.size ≤ w'.heap.size) (hf : ∀ b, blk val = some b → blk (θ o) = some b)
    (hobj : (∀ y u, VR H θ w (vis c H θ w) y u → VR ((H.set o .dead).set k x) (updθ θ k val) w' (vis c ((H.set o .dead).set k x) (updθ θ k val) w') y u) → ObjR c ((H.set o .dead).set k x) (updθ θ k val) w' x val) :
    HSim c ((H.set o .dead).set k x) (updθ θ k val) w' ∧ (∀ y u, VR H θ w (vis c H θ w) y u → VR ((H.set o .dead).set k x) (updθ θ k val) w' (vis c ((H.set o .dead).set k x) (updθ θ k val) w') y u) ∧ HLe H θ ((H.set o .dead).set k x) (updθ θ k val) := by
  have hro : H.ref o := .inr (by rw [hg0]; rfl)
  have hok : o ≠ k := fun e => hk (e ▸ hro)
  have hget : ∀ p, ((H.set o .dead).set k x).get p = if p = k then some x else if p = o then some .dead else H.get p := fun p => by rw [Heap.get_set, Heap.get_set]
  have hle : HLe H θ ((H.set o .dead).set k x) (updθ θ k val) := by
    refine ⟨fun p hp => Heap.ref_set (Heap.ref_set hp), fun p x' hp h => ?_⟩
    have hpk : p ≠ k := fun e => hk (e ▸ hp)
    rw [hget, if_neg hpk] at h
    by_cases hpo : p = o
    · subst hpo
      rw [if_pos rfl, Option.some.injEq] at h
      subst h
      exact ⟨x0, hg0, by cases x0 <;> trivial, fun _ => by simp [updθ, hpk]⟩
    · rw [if_neg hpo] at h
      exact ⟨x', h, x'.evo_refl, fun _ => by simp [updθ, hpk]⟩
  have hown' : ∀ b, own ((H.set o .dead).set k x) (updθ θ k val) b → own H θ b := by
    rintro b ⟨p, y, hg, hy, hbl⟩
    rw [hget] at hg
    by_cases hp : p = k
    · subst hp
      simp only [updθ, if_true] at hbl
      exact ⟨o, x0, hg0, hx0, hf b hbl⟩
    · rw [if_neg hp] at hg
      simp only [updθ, if_neg hp] at hbl
      by_cases hpo : p = o
      · rw [if_pos hpo, Option.some.injEq] at hg
        subst hg
        cases hy
      · rw [if_neg hpo] at hg
        exact ⟨p, y, hg, hy, hbl⟩
  have hv : ∀ b, vis c H θ w b → vis c ((H.set o .dead).set k x) (updθ θ k val) w' b ∧ w'.heap[b]? = w.heap[b]? := fun b ⟨h1, h2, h3⟩ =>
    ⟨⟨by omega, fun h => h2 (hown' b h), h3⟩, hw b h1 (fun h => h2 ⟨o, x0, hg0, hx0, h⟩)⟩
  have hvr : ∀ y u, VR H θ w (vis c H θ w) y u → VR ((H.set o .dead).set k x) (updθ θ k val) w' (vis c ((H.set o .dead).set k x) (updθ θ k val) w') y u := fun y u h => h.mono hv hle
  refine ⟨⟨Nat.le_trans hs.size hz, fun p y hg => ?_, fun p p' y y' hg hg' hy hy' hne' b hb hb' => ?_⟩, hvr, hle⟩
  · rw [hget] at hg
    by_cases hp : p = k
    · subst hp
      simp only [if_true, Option.some.injEq] at hg
      subst hg
      simp only [updθ, if_true]
      exact hobj hvr
    · rw [if_neg hp] at hg
      simp only [updθ, if_neg hp]
      by_cases hpo : p = o
      · rw [if_pos hpo, Option.some.injEq] at hg
        subst hg
        trivial
      · rw [if_neg hpo] at hg
        exact (hs.objs p y hg).mono hv hle (fun hy b hb => hw b ((hs.objs p y hg).lt hy hb) (hs.inj p o y x0 hg hg0 hy hx0 hpo b hb))
  · rw [hget] at hg hg'
    by_cases hp : p = k
    · subst hp
      rw [if_neg (Ne.symm hne')] at hg'
      simp only [updθ, if_true] at hb
      simp only [updθ, if_neg (Ne.symm hne')] at hb'
      by_cases hpo : p' = o
      · rw [if_pos hpo, Option.some.injEq] at hg'
        subst hg'
        cases hy'
      · rw [if_neg hpo] at hg'
        exact hs.inj o p' x0 y' hg0 hg' hx0 hy' (Ne.symm hpo) b (hf b hb) hb'
    · rw [if_neg hp] at hg
      simp only [updθ, if_neg hp] at hb
      by_cases hpo : p = o
      · rw [if_pos hpo, Option.some.injEq] at hg
        subst hg
        cases hy
      · rw [if_neg hpo] at hg
        by_cases hp' : p' = k
        · subst hp'
          simp only [updθ, if_true] at hb'
          exact hs.inj p o y x0 hg hg0 hy hx0 hpo b hb (hf b hb')
        · rw [if_neg hp'] at hg'
          simp only [updθ, if_neg hp'] at hb'
          by_cases hpo' : p' = o
          · rw [if_pos hpo', Option.some.injEq] at hg'
            subst hg'
            cases hy'
          · rw [if_neg hpo'] at hg'
            exact hs.inj p p' y y' hg hg' hy hy' hne' b hb hb'
end
end Go.Ab
