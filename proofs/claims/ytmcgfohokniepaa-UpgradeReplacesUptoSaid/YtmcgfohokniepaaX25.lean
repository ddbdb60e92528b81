/-
  One text of the proof (own work): contracts of functions of the program, by the abstract machine.
-/
import Derived.Test.YtmcgfohokniepaaX24
import Derived.Test.YtmcgfohokniepaaX23
set_option linter.unusedVariables false
set_option linter.unusedSimpArgs false
namespace Go.Ab
open Go Go.RowKit
def RetOX (P : Program) (rs : List ResultVar) (e : TypeId) (sz : Nat) (good : List D → Prop) (ex : Exit) (sl : List AV) (H : Heap) : Prop := ∃ l, good l ∧ RetO P rs e sz l ex sl H
theorem reto_x {P : Program} {rs : List ResultVar} {e : TypeId} {sz o : Nat} {good : List D → Prop} {ex : Exit} {sl : List AV} {H : Heap} {l : List D} (he : Exit.over ex = true) (hx : resA P rs sl H = some (.row o l.length)) (hg : H.get o = some (.row e sz l)) (h : good l) : RetOX P rs e sz good ex sl H := ⟨l, h, he, o, hx, hg⟩
theorem own_ex {P : Program} {X : Type} {enc : X → List D} {dom : X → Prop} {good : X → List D → Prop} {f : FuncId} {fn : Func} {code : Code} {n : Nat} {rs : List ResultVar} {t : TypeId} {sz : Nat} (hsz : 0 < sz) (hf : P.funcs[f]? = some fn) (hname : (fn.name == "runtime.NumGoroutine") = false)
    (hb : fn.body = some code) (hn : fn.ntmps = n) (hrs : fn.results.toList = rs) (inj : ∀ x y, enc x = enc y → x = y)
    (h : ∀ x, dom x → (∀ l, good x l → elemsOK sz l = true) ∧ axp P 0 code (RetOX P rs t sz (good x)) (start n (enc x)) emptyH) : ∃ g : List D → Option (TypeId × Nat × List D), OwnOK P f g ∧ ∀ x, dom x → ∃ l, good x l ∧ g (enc x) = some (t, sz, l) := by
  have h1 : ∀ x : X, ∃ l : List D, dom x → good x l ∧ ∀ c : Ctx, c.base = 0 → awp P c code (RetO P rs t sz l) (start n (enc x)) emptyH := fun x => by
    by_cases hx : dom x
    · obtain ⟨_, e, s1, H1, ⟨l, hg, hr⟩, hc⟩ := h x hx
      refine ⟨l, fun _ => ⟨hg, fun c hcb => awp_mono (hc c hcb) ?_⟩⟩
      rintro _ _ _ ⟨rfl, rfl, rfl⟩
      exact hr
    · exact ⟨[], fun hx' => absurd hx' hx⟩
  obtain ⟨out, hout⟩ := Classical.axiomOfChoice h1
  refine ⟨encSpec enc dom (fun x => (t, sz, out x)), own_enc hf hname hb hn hrs fun x hx => ⟨⟨hsz, (h x hx).1 _ (hout x hx).1⟩, (hout x hx).2⟩, fun x hx => ⟨out x, (hout x hx).1, encSpec_eq hx fun y hy => by rw [inj _ _ hy]⟩⟩
end Go.Ab
namespace Go.Ab
open Go Go.RowKit
section
variable {P : Program} {Γ : FuncId → Option CSpec} {c : Ctx} {H H' : Heap} {θ θ' : Nat → Value} {w w' : World} {sl : List AV} {a : Act} {o : Oper} {r : AV}
theorem HLe.congr {H1 H2 H3 : Heap} {θ1 θ2 : Nat → Value} (h : HLe H1 θ1 H2 θ2) (hg : ∀ o, H3.get o = H2.get o) (hn : H2.next ≤ H3.next) : HLe H1 θ1 H3 θ2 := h.trans ⟨fun o ho => by
    rcases ho with ho | ho
    · exact .inl (Nat.lt_of_lt_of_le ho hn)
    · exact .inr (by rw [hg]; exact ho), fun o x _ h => ⟨x, by rw [← hg]; exact h, x.evo_refl, fun _ => rfl⟩⟩
theorem St.congr (hs : St c H θ w sl a) (hg : ∀ o, H'.get o = H.get o) (hn : H.next ≤ H'.next) : St c H' θ w sl a := by
  have hle : HLe H θ H' θ := (HLe.refl H θ).congr hg hn
  have hv : vis c H' θ w = vis c H θ w := by
    funext b
    simp only [vis, own, hg]
  have vm : ∀ {x : AV} {v : Value}, VR H θ w (vis c H θ w) x v → VR H' θ w (vis c H' θ w) x v := fun h => by
    rw [hv]
    exact h.mono (fun b hb => ⟨hb, rfl⟩) hle
  refine ⟨⟨hs.sim.size, fun o x hx => ?_, fun o o' x x' h1 h2 => hs.sim.inj o o' x x' (by rw [← hg]; exact h1) (by rw [← hg]; exact h2)⟩, hs.defers, hs.size, fun i x v h1 h2 => vm (hs.vals i x v h1 h2)⟩
  have h := hs.sim.objs o x (by rw [← hg]; exact hx)
  cases x with
  | box cs =>
    obtain ⟨b, e, vs, h1, h2, h3, h4, h5⟩ := h
    exact ⟨b, e, vs, h1, h2, h3, h4, fun i hi u hu => ⟨vm (h5 i hi u hu).1, (h5 i hi u hu).2⟩⟩
  | row e sz l => simp only [ObjR, hv]; exact h
  | arr e sz m cs =>
    obtain ⟨h1, h2, vs, h3, h4, h5⟩ := h
    exact ⟨h1, h2, vs, h3, h4, fun i hi u hu => ⟨vm (h5 i hi u hu).1, (h5 i hi u hu).2⟩⟩
  | frz l => simp only [ObjR, hv]; exact h
  | map ks vs => simp only [ObjR, hv]; exact h
  | dead => trivial
def notCall (o : Oper) : Bool := match o.op with
  | .call _ => false
  | _ => true
variable {ops : Array Oper} {n1 : Nat}
def allocAt (ops : Array Oper) (i : Nat) : Bool := match ops[i]? with
  | some o => o.guard.isNone && match o.op with
    | .alloc _ => true
    | _ => false
  | none => false
structure L4 (ops : Array Oper) (n1 : Nat) (bs : List Bool) (f g : Nat) : Prop where
  fg : f < g
  gn : g < n1
  af : allocAt ops f = true
  ag : allocAt ops g = true
  bf : bs.getD f false = true
  bg : bs.getD g false = true
  no : ∀ i, i < g → i ≠ f → bs.getD i false = false
  ord : ∀ i j, j < n1 → i < j → bs.getD j false = true → bs.getD i false = true → (i = f ∧ j = g) ∨ beforeB ops 8 j i = true
variable {L : Nat → List AV} {Hs : Nat → Heap}
def allX (P : Program) (Γ : FuncId → Option CSpec) (ops : Array Oper) (g : Nat) (H : Heap) : List (Nat × List AV × Oper × AV) → Prop
  | [] => True
  | q :: qs => (beforeB ops 8 g q.1 = true ∨ (notCall q.2.2.1 = true ∧ qval P Γ ops H q.2.1 q.2.2.1 = some q.2.2.2)) ∧ allX P Γ ops g H qs
theorem allX.at {g : Nat} {H : Heap} : ∀ {qs : List (Nat × List AV × Oper × AV)}, allX P Γ ops g H qs → ∀ q ∈ qs, beforeB ops 8 g q.1 = true ∨ (notCall q.2.2.1 = true ∧ qval P Γ ops H q.2.1 q.2.2.1 = some q.2.2.2)
  | [], _, q, h => by cases h
  | q' :: qs, h, q, hq => by
    rcases List.mem_cons.1 hq with rfl | hq
    · exact h.1
    · exact allX.at h.2 q hq
end
end Go.Ab
namespace Go.Ab
open Go Go.RowKit
theorem dk : (∀ {p : Prop} [Decidable p], p → decide p = true) ∧ (∀ {p : Prop} [Decidable p], ¬ p → decide p = false) ∧ (∀ {c : Prop} {h : Decidable c} (_ : c) {α : Type} {t e : α}, (@ite α c h t e) = t) ∧ (∀ {c : Prop} {h : Decidable c} (_ : ¬ c) {α : Type} {t e : α}, (@ite α c h t e) = e) ∧
    (∀ {n : Int}, -9223372036854775808 ≤ n → n < 9223372036854775808 → IntKind.wrap .i64 n = n) ∧ maxLen = 9223372036854775807 := ⟨fun h => decide_eq_true h, fun h => decide_eq_false h, fun hc => if_pos hc, fun hc => if_neg hc, fun h h' => wrap_in h h', rfl⟩
theorem lk : (∀ {α β : Type} (f : α → β) (l : List α), List.map f (List.toArray l).toList = List.map f l) ∧ (∀ {α β : Type} (f : α → β) (a : α) (l : List α), List.map f (a :: l) = f a :: List.map f l) ∧ (∀ {α β : Type} (f : α → β), List.map f [] = []) := ⟨fun f l => map_lit f l, fun _ _ _ => rfl, fun _ => rfl⟩
theorem Weak.w {b m : Nat} {t t' : List (Nat × AV)} {tab tab' : List (Nat × Obj)} {n n' : Nat} (hb : b ≤ n' := by omega) (h1 : ConvF ⟨tab, n⟩ t t' := by (simp [ConvF, lookV, Conv, ints]; done))
    (h2 : TabSub n' tab tab' := by (simp (disch := omega) only [TabSub, look, if_pos, if_neg, Obj.refsOK, refsOKs, AV.refsOK, decide_eq_true_eq, Bool.and_true, Bool.and_self]) <;> ((repeat' apply And.intro) <;> first | exact True.intro | omega | (simp; done) | rfl))
    (h3 : refsF n' t' = true := by simp (disch := omega) only [refsF, AV.refsOK, Bool.and_true, Bool.and_self, decide_eq_true_eq, Bool.true_and, Bool.and_eq_true]; try omega) : Weak b (frame m t) ⟨tab, n⟩ (frame m t') ⟨tab', n'⟩ := Weak.ofF hb h1 h2 h3
theorem Weak.u {b m : Nat} {t t' : List (Nat × AV)} {tab tab' : List (Nat × Obj)} {n n' : Nat} (hb : b ≤ n' := by omega) (h1 : ConvF ⟨tab, n⟩ t t' := by (repeat' (first | exact True.intro | apply And.intro | exact rfl | exact Or.inl rfl)); done)
    (h2 : TabSub n' tab tab' := by (simp (disch := omega) only [TabSub, look, if_pos, if_neg, Obj.refsOK, refsOKs, AV.refsOK, decide_eq_true_eq, Bool.and_true, Bool.and_self]) <;> ((repeat' apply And.intro) <;> first | exact True.intro | omega | (simp; done) | rfl))
    (h3 : refsF n' t' = true := by simp (disch := omega) only [refsF, AV.refsOK, Bool.and_true, Bool.and_self, decide_eq_true_eq, Bool.true_and, Bool.and_eq_true]; try omega) : Weak b (frame m t) ⟨tab, n⟩ (frame m t') ⟨tab', n'⟩ := Weak.ofF hb h1 h2 h3
theorem Weak.v {b m : Nat} {t t' : List (Nat × AV)} {tab tab' : List (Nat × Obj)} {n n' : Nat} (h1 : ConvF ⟨tab, n⟩ t t') (h2 : TabSub n' tab tab') (hb : b ≤ n' := by omega)
    (h3 : refsF n' t' = true := by simp (disch := omega) only [refsF, AV.refsOK, Bool.and_true, Bool.and_self, decide_eq_true_eq, Bool.true_and, Bool.and_eq_true]; try omega) : Weak b (frame m t) ⟨tab, n⟩ (frame m t') ⟨tab', n'⟩ := Weak.ofF hb h1 h2 h3
def toDO (H : Heap) : Option AV → Option D
  | some x => toD H 4 x
  | none => none
attribute [go_sem] toDO
theorem ovX {P : Program} {sl : List AV} {H : Heap} {rs : List ResultVar} {good : D → Prop} {d : D} {e : Exit} (he : Exit.over e = true) (h : toDO H (resA P rs sl H) = some d) (_ : True) (hg : good d) : RetX P rs good e sl H := by
  cases hx : resA P rs sl H with
  | none => rw [hx] at h; cases h
  | some x => rw [hx] at h; exact ⟨d, hg, he, x, hx, h⟩
theorem ovE {P : Program} {sl : List AV} {H : Heap} {rs : List ResultVar} {d d' : D} {e : Exit} (he : Exit.over e = true) (h : toDO H (resA P rs sl H) = some d') (_ : True) (hd : d' = d) : RetD P rs d e sl H := by
  subst hd
  cases hx : resA P rs sl H with
  | none => rw [hx] at h; cases h
  | some x => rw [hx] at h; exact ⟨he, x, hx, h⟩
abbrev pickC (v : Bool) (a b : Code) : Code := match v with
  | true => a
  | false => b
def LitB : Bool → Prop
  | true => True
  | false => True
theorem axG {P : Program} {b : Nat} {Q : Exit → List AV → Heap → Prop} {sl : List AV} {H : Heap} {cond : Operand} {tc ec : Code} {v : Bool} (hc : aev sl cond = .data (.bool v)) (_ : LitB v) (h : axp P b (pickC v tc ec) Q sl H) : axp P b (.cond cond tc ec) Q sl H := by
  cases v with
  | true => exact axp_cond_t hc h
  | false => exact axp_cond_f hc h
theorem awG {P : Program} {c : Ctx} {Q : Exit → List AV → Heap → Prop} {sl : List AV} {H : Heap} {cond : Operand} {tc ec : Code} {v : Bool} (hc : aev sl cond = .data (.bool v)) (_ : LitB v) (h : awp P c (pickC v tc ec) Q sl H) : awp P c (.cond cond tc ec) Q sl H := by
  cases v with
  | true => exact awp_cond_t hc h
  | false => exact awp_cond_f hc h
def qend (n : Nat) (ops : Array Oper) : Option (List AV) → Option (List AV × Nat)
  | some s => some (s, n + ops.size)
  | none => none
def qthen (P : Program) (Γ : FuncId → Option CSpec) (ops : Array Oper) (k n1 : Nat) (H : Heap) : Option (List AV) → Option (List AV × Heap)
  | some s => runOps P Γ false ops k (ops.toList.drop n1) s H
  | none => none
attribute [go_sem] qend qthen
section
variable {P : Program} {Γ : FuncId → Option CSpec} {c : Ctx} {b : Nat} {sl sl' : List AV} {tab tab' : List (Nat × Obj)} {n n1 m : Nat} {ops : Array Oper} {Q : Exit → List AV → Heap → Prop} {id : Nat}
theorem awT (hmix : P.follows .mixedOrders = true) (hΓ : ∀ f s, Γ f = some s → SpecOK P f s) (hd : drawOK ops ops.size = true) (h : qend n ops (qruns P Γ ops ⟨tab, n⟩ ops.toList sl) = some (sl', m)) (hQ : Q .normal sl' ⟨tab, m⟩) : awp P c (.region id ops true) Q sl ⟨tab, n⟩ := by
  cases hx : qruns P Γ ops ⟨tab, n⟩ ops.toList sl with
  | none => rw [hx] at h; cases h
  | some s => rw [hx] at h; cases h; exact awp_regf hmix hΓ hd hx rfl hQ
theorem awH (hmix : P.follows .mixedOrders = true) (hΓ : ∀ f s, Γ f = some s → SpecOK P f s) (hs : ops.size = n1 + 1) (hd : drawOK ops n1 = true) (h : qthen P Γ ops (n + n1) n1 ⟨tab, n⟩ (qruns P Γ ops ⟨tab, n⟩ (ops.toList.take n1) sl) = some (sl', ⟨tab', m⟩)) (_ : True) (hQ : Q .normal sl' ⟨tab', m⟩) : awp P c (.region id ops true) Q sl ⟨tab, n⟩ := by
  cases hx : qruns P Γ ops ⟨tab, n⟩ (ops.toList.take n1) sl with
  | none => rw [hx] at h; cases h
  | some s => rw [hx] at h; exact awp_regt hmix hΓ hs hd hx rfl h hQ
end
abbrev axA := @axp_seq
abbrev axB := @axp_block
abbrev awA := @awp_seq
section
variable {P : Program} {Γ : FuncId → Option CSpec} {c : Ctx} {b : Nat} {sl sl' : List AV} {H : Heap} {tab tab' : List (Nat × Obj)} {n m : Nat} {ops : Array Oper} {Q : Exit → List AV → Heap → Prop} {K : List AV → Heap → Prop} {id id' l : Nat}
theorem axR (hΓ : ∀ f s, Γ f = some s → SpecOK P f s) (h : runOps P Γ false ops n ops.toList sl ⟨tab, n⟩ = some (sl', ⟨tab', m⟩)) (_ : True) (hQ : Q .normal sl' ⟨tab', m⟩) : axp P b (.region id ops false) Q sl ⟨tab, n⟩ := axp_reg hΓ h hQ
theorem awR (hΓ : ∀ f s, Γ f = some s → SpecOK P f s) (h : runOps P Γ false ops n ops.toList sl ⟨tab, n⟩ = some (sl', ⟨tab', m⟩)) (_ : True) (hQ : Q .normal sl' ⟨tab', m⟩) : awp P c (.region id ops false) Q sl ⟨tab, n⟩ := awp_reg hΓ h hQ
end
inductive Ctl : Prop → Prop → Prop where
  | xr {P : Program} {b : Nat} {Q : Exit → List AV → Heap → Prop} {sl : List AV} {H : Heap} : Ctl (axp P b .ret Q sl H) (Q .ret sl H)
  | xs {P : Program} {b : Nat} {Q : Exit → List AV → Heap → Prop} {sl : List AV} {H : Heap} : Ctl (axp P b .skip Q sl H) (Q .normal sl H)
  | xe {P : Program} {b : Nat} {Q : Exit → List AV → Heap → Prop} {sl : List AV} {H : Heap} {id : Nat} : Ctl (axp P b (.exit id) Q sl H) (Q (.exit id) sl H)
  | xl {P : Program} {b : Nat} {Q : Exit → List AV → Heap → Prop} {sl : List AV} {H : Heap} {l : Nat} : Ctl (axp P b (.label l) Q sl H) (Q .normal sl H)
  | wr {P : Program} {c : Ctx} {Q : Exit → List AV → Heap → Prop} {sl : List AV} {H : Heap} : Ctl (awp P c .ret Q sl H) (Q .ret sl H)
  | ws {P : Program} {c : Ctx} {Q : Exit → List AV → Heap → Prop} {sl : List AV} {H : Heap} : Ctl (awp P c .skip Q sl H) (Q .normal sl H)
  | we {P : Program} {c : Ctx} {Q : Exit → List AV → Heap → Prop} {sl : List AV} {H : Heap} {id : Nat} : Ctl (awp P c (.exit id) Q sl H) (Q (.exit id) sl H)
  | wl {P : Program} {c : Ctx} {Q : Exit → List AV → Heap → Prop} {sl : List AV} {H : Heap} {l : Nat} : Ctl (awp P c (.label l) Q sl H) (Q .normal sl H)
  | tn {K : List AV → Heap → Prop} {Q : Exit → List AV → Heap → Prop} {sl : List AV} {H : Heap} : Ctl (thenA K Q .normal sl H) (K sl H)
  | tr {K : List AV → Heap → Prop} {Q : Exit → List AV → Heap → Prop} {sl : List AV} {H : Heap} : Ctl (thenA K Q .ret sl H) (Q .ret sl H)
  | te {K : List AV → Heap → Prop} {Q : Exit → List AV → Heap → Prop} {sl : List AV} {H : Heap} {id : Nat} : Ctl (thenA K Q (.exit id) sl H) (Q (.exit id) sl H)
  | bn {Q : Exit → List AV → Heap → Prop} {sl : List AV} {H : Heap} {id : Nat} : Ctl (inBlockA id Q .normal sl H) (Q .normal sl H)
  | br {Q : Exit → List AV → Heap → Prop} {sl : List AV} {H : Heap} {id : Nat} : Ctl (inBlockA id Q .ret sl H) (Q .ret sl H)
  | bx {Q : Exit → List AV → Heap → Prop} {sl : List AV} {H : Heap} {id : Nat} : Ctl (inBlockA id Q (.exit id) sl H) (Q .normal sl H)
  | bo {Q : Exit → List AV → Heap → Prop} {sl : List AV} {H : Heap} {id id' : Nat} (h : (id' == id) = false) : Ctl (inBlockA id Q (.exit id') sl H) (Q (.exit id') sl H)
theorem axK {A B : Prop} (h : Ctl A B) (hb : B) : A := by
  cases h with
  | xr => exact axp_ret hb
  | xs => exact axp_skip hb
  | xe => exact axp_exit hb
  | xl => exact axp_label hb
  | wr => exact awp_ret hb
  | ws => exact awp_skip hb
  | we => exact awp_exit hb
  | wl => exact awp_label hb
  | tn => exact then_normal hb
  | tr => exact then_ret hb
  | te => exact then_exit hb
  | bn => exact block_normal hb
  | br => exact block_ret hb
  | bx => exact block_exit hb
  | bo h => exact block_out h hb
inductive Ctm : Prop → Prop → Prop where
  | xq {P : Program} {b : Nat} {Q : Exit → List AV → Heap → Prop} {sl : List AV} {H : Heap} {x y : Code} : Ctm (axp P b (.seq x y) Q sl H) (axp P b x (thenA (axp P b y Q) Q) sl H)
  | xb {P : Program} {b : Nat} {Q : Exit → List AV → Heap → Prop} {sl : List AV} {H : Heap} {id : Nat} {x : Code} : Ctm (axp P b (.block id x) Q sl H) (axp P b x (inBlockA id Q) sl H)
  | wq {P : Program} {c : Ctx} {Q : Exit → List AV → Heap → Prop} {sl : List AV} {H : Heap} {x y : Code} : Ctm (awp P c (.seq x y) Q sl H) (awp P c x (thenA (awp P c y Q) Q) sl H)
  | wb {P : Program} {c : Ctx} {Q : Exit → List AV → Heap → Prop} {sl : List AV} {H : Heap} {id : Nat} {x : Code} : Ctm (awp P c (.block id x) Q sl H) (awp P c x (inBlockA id Q) sl H)
  | xr {P : Program} {b : Nat} {Q : Exit → List AV → Heap → Prop} {sl : List AV} {H : Heap} : Ctm (axp P b .ret Q sl H) (Q .ret sl H)
  | xs {P : Program} {b : Nat} {Q : Exit → List AV → Heap → Prop} {sl : List AV} {H : Heap} : Ctm (axp P b .skip Q sl H) (Q .normal sl H)
  | xe {P : Program} {b : Nat} {Q : Exit → List AV → Heap → Prop} {sl : List AV} {H : Heap} {id : Nat} : Ctm (axp P b (.exit id) Q sl H) (Q (.exit id) sl H)
  | xl {P : Program} {b : Nat} {Q : Exit → List AV → Heap → Prop} {sl : List AV} {H : Heap} {l : Nat} : Ctm (axp P b (.label l) Q sl H) (Q .normal sl H)
  | wr {P : Program} {c : Ctx} {Q : Exit → List AV → Heap → Prop} {sl : List AV} {H : Heap} : Ctm (awp P c .ret Q sl H) (Q .ret sl H)
  | ws {P : Program} {c : Ctx} {Q : Exit → List AV → Heap → Prop} {sl : List AV} {H : Heap} : Ctm (awp P c .skip Q sl H) (Q .normal sl H)
  | we {P : Program} {c : Ctx} {Q : Exit → List AV → Heap → Prop} {sl : List AV} {H : Heap} {id : Nat} : Ctm (awp P c (.exit id) Q sl H) (Q (.exit id) sl H)
  | wl {P : Program} {c : Ctx} {Q : Exit → List AV → Heap → Prop} {sl : List AV} {H : Heap} {l : Nat} : Ctm (awp P c (.label l) Q sl H) (Q .normal sl H)
  | tn {K : List AV → Heap → Prop} {Q : Exit → List AV → Heap → Prop} {sl : List AV} {H : Heap} : Ctm (thenA K Q .normal sl H) (K sl H)
  | tr {K : List AV → Heap → Prop} {Q : Exit → List AV → Heap → Prop} {sl : List AV} {H : Heap} : Ctm (thenA K Q .ret sl H) (Q .ret sl H)
  | te {K : List AV → Heap → Prop} {Q : Exit → List AV → Heap → Prop} {sl : List AV} {H : Heap} {id : Nat} : Ctm (thenA K Q (.exit id) sl H) (Q (.exit id) sl H)
  | bn {Q : Exit → List AV → Heap → Prop} {sl : List AV} {H : Heap} {id : Nat} : Ctm (inBlockA id Q .normal sl H) (Q .normal sl H)
  | br {Q : Exit → List AV → Heap → Prop} {sl : List AV} {H : Heap} {id : Nat} : Ctm (inBlockA id Q .ret sl H) (Q .ret sl H)
  | bx {Q : Exit → List AV → Heap → Prop} {sl : List AV} {H : Heap} {id : Nat} : Ctm (inBlockA id Q (.exit id) sl H) (Q .normal sl H)
  | bo {Q : Exit → List AV → Heap → Prop} {sl : List AV} {H : Heap} {id id' : Nat} (h : (id' == id) = false) : Ctm (inBlockA id Q (.exit id') sl H) (Q (.exit id') sl H)
theorem axJ {A B : Prop} (h : Ctm A B) (hb : B) : A := by
  cases h with
  | xq => exact axp_seq hb
  | xb => exact axp_block hb
  | wq => exact awp_seq hb
  | wb => exact awp_block hb
  | xr => exact axp_ret hb
  | xs => exact axp_skip hb
  | xe => exact axp_exit hb
  | xl => exact axp_label hb
  | wr => exact awp_ret hb
  | ws => exact awp_skip hb
  | we => exact awp_exit hb
  | wl => exact awp_label hb
  | tn => exact then_normal hb
  | tr => exact then_ret hb
  | te => exact then_exit hb
  | bn => exact block_normal hb
  | br => exact block_ret hb
  | bx => exact block_exit hb
  | bo h => exact block_out h hb
end Go.Ab
namespace Go.Ab
open Go Go.RowKit Go.Proofs
set_option maxRecDepth 4000
set_option maxHeartbeats 4000000
def xr (a b : Int) : Int := IntKind.u64.wrap (BitVec.ofInt IntKind.u64.bits a ^^^ BitVec.ofInt IntKind.u64.bits b).toNat
def nd (a b : Int) : Int := IntKind.u64.wrap (BitVec.ofInt IntKind.u64.bits a &&& BitVec.ofInt IntKind.u64.bits b).toNat
def orr (a b : Int) : Int := IntKind.u64.wrap (BitVec.ofInt IntKind.u64.bits a ||| BitVec.ofInt IntKind.u64.bits b).toNat
def nt (a : Int) : Int := xr IntKind.u64.max a
def sl (a n : Int) : Int := IntKind.u64.wrap (a * 2 ^ (min n.toNat IntKind.u64.bits))
def sr (a n : Int) : Int := a.fdiv (2 ^ (min n.toNat IntKind.u64.bits))
@[go_sem] theorem abits_xor (a b : Int) : abits .xor .u64 a b = some (xr a b) := rfl
@[go_sem] theorem abits_and (a b : Int) : abits .and .u64 a b = some (nd a b) := rfl
@[go_sem] theorem abits_or (a b : Int) : abits .or .u64 a b = some (orr a b) := rfl
theorem shl_in {a b : Int} (h : 0 ≤ b) : ashift .shl .u64 a b = some (sl a b) := by
  unfold ashift
  rw [if_neg (by omega)]
  rfl
theorem shr_in {a b : Int} (h : 0 ≤ b) : ashift .shr .u64 a b = some (sr a b) := by
  unfold ashift
  rw [if_neg (by omega)]
  rfl
def rot (w n : Int) : Int := orr (sl w n) (sr w (64 - n))
noncomputable def g126 : List D → Option D := encSpec (fun x : Int × Int => [u64 x.1, i64 x.2]) (fun x => 0 ≤ x.2 ∧ x.2 ≤ 64) (fun x => u64 (rot x.1 x.2))
theorem g126_eq {w n : Int} (h0 : 0 ≤ n) (h1 : n ≤ 64) : g126 [.int .u64 w, .int .i64 n] = some (.int .u64 (rot w n)) := encSpec_eq (x := (w, n)) ⟨h0, h1⟩ fun y hy => by
  obtain ⟨y1, y2⟩ := y
  simp only [List.cons.injEq, and_true] at hy
  rw [u64_inj _ _ hy.1, i64_inj _ _ hy.2]
theorem f126_ok : PureOK Try.prog 126 true g126 := by
  have hΓ := Γ0_ok
  refine pure_enc (n := 15) (rs := [.tmp 4]) Try.func126 (by kernel_rfl) rfl (by kernel_rfl) (by kernel_rfl) ?_
  rintro ⟨w, n⟩ ⟨h0, h1⟩
  dsimp only at h0 h1
  refine ⟨fun _ => .int _ _, fun c hz0 => ?_⟩
  rw [start_frame (by simp)]; simp only [enumV, go_sem, emptyH]
  repeat (first
    | (apply axJ; (focus ((with_reducible constructor) <;> rfl)))
    | (apply awT mixedOK hΓ (by kernel_rfl); (simp (disch := omega) only [go_sem, ↓reduceIte, dk, wrapu_in, ↓shl_in, ↓shr_in] <;> with_reducible rfl))
    | ((first | apply awR hΓ | apply awG | apply awH mixedOK hΓ rfl (by kernel_rfl) | apply ovE rfl); (simp (disch := omega) only [go_sem, ↓reduceIte, dk, wrapu_in, ↓shl_in, ↓shr_in] <;> with_reducible rfl); exact trivial)
    | rfl)
def offs : List Int := [0, 1, 62, 28, 27, 36, 44, 6, 55, 20, 3, 10, 43, 25, 39, 41, 45, 15, 21, 8, 18, 2, 61, 56, 14]
def offAt (x y : Nat) : Int := offs.getD (x + 5 * y) 0
noncomputable def g127 : List D → Option D := encSpec (fun x : Nat × Nat => [i64 x.1, i64 x.2]) (fun x => x.1 < 5 ∧ x.2 < 5) (fun x => i64 (offAt x.1 x.2))
theorem g127_eq {x y : Nat} (h0 : x < 5) (h1 : y < 5) : g127 [.int .i64 x, .int .i64 y] = some (.int .i64 (offAt x y)) := encSpec_eq (x := (x, y)) ⟨h0, h1⟩ fun z hz => by
  obtain ⟨z1, z2⟩ := z
  simp only [List.cons.injEq, and_true] at hz
  have h1 := i64_inj _ _ hz.1
  have h2 := i64_inj _ _ hz.2
  obtain rfl : z1 = x := by omega
  obtain rfl : z2 = y := by omega
  rfl
theorem row_getD {L : List Int} {k : Nat} (h : k < L.length) : (L.map i64)[k]? = some (i64 (L.getD k 0)) := by
  simp [h]
theorem f127_ok : PureOK Try.prog 127 true g127 := by
  have hΓ := Γ0_ok
  refine pure_enc (n := 14) (rs := [.tmp 4]) Try.func127 (by kernel_rfl) rfl (by kernel_rfl) (by kernel_rfl) ?_
  rintro ⟨x, y⟩ ⟨h0, h1⟩
  dsimp only at h0 h1
  refine ⟨fun _ => .int _ _, fun c hz0 => ?_⟩
  have ho : ([.int .i64 0, .int .i64 1, .int .i64 62, .int .i64 28, .int .i64 27, .int .i64 36, .int .i64 44, .int .i64 6, .int .i64 55, .int .i64 20, .int .i64 3, .int .i64 10, .int .i64 43, .int .i64 25, .int .i64 39, .int .i64 41, .int .i64 45, .int .i64 15, .int .i64 21, .int .i64 8, .int .i64 18, .int .i64 2, .int .i64 61, .int .i64 56, .int .i64 14] : List D) = offs.map i64 := rfl
  have hl : offs.length = 25 := rfl
  have hr : (offs.map i64)[((x : Int) + 5 * (y : Int)).toNat]? = some (i64 (offAt x y)) := by
    rw [show ((x : Int) + 5 * (y : Int)).toNat = x + 5 * y by omega]
    exact row_getD (by omega)
  rw [start_frame (by simp)]; simp only [enumV, go_sem, emptyH]
  repeat (first
    | (apply axJ; (focus ((with_reducible constructor) <;> rfl)))
    | (apply awT mixedOK hΓ (by kernel_rfl); (simp (disch := omega) only [go_sem, ↓reduceIte, ↓lk, dk, ho, hl, ↓hr] <;> with_reducible rfl))
    | ((first | apply awR hΓ | apply awG | apply awH mixedOK hΓ rfl (by kernel_rfl) | apply ovE rfl); (simp (disch := omega) only [go_sem, ↓reduceIte, ↓lk, dk, ho, hl, ↓hr] <;> with_reducible rfl); exact trivial)
    | rfl)
def consts : List Int := [0x0000000000000001, 0x0000000000008082, 0x800000000000808a, 0x8000000080008000, 0x000000000000808b, 0x0000000080000001, 0x8000000080008081, 0x8000000000008009, 0x000000000000008a, 0x0000000000000088, 0x0000000080008009, 0x000000008000000a, 0x000000008000808b, 0x800000000000008b, 0x8000000000008089, 0x8000000000008003, 0x8000000000008002, 0x8000000000000080, 0x000000000000800a, 0x800000008000000a, 0x8000000080008081, 0x8000000000008080, 0x0000000080000001, 0x8000000080008008]
def constAt (i : Nat) : Int := consts.getD i 0
noncomputable def g108 : List D → Option D := encSpec (fun x : Nat => [i64 x]) (fun x => x < 24) (fun x => u64 (constAt x))
theorem g108_eq {x : Nat} (h0 : x < 24) : g108 [.int .i64 x] = some (.int .u64 (constAt x)) := encSpec_eq (x := x) h0 fun z hz => by
  simp only [List.cons.injEq, and_true] at hz
  have h1 := i64_inj _ _ hz
  obtain rfl : z = x := by omega
  rfl
theorem row_getDu {L : List Int} {k : Nat} (h : k < L.length) : (L.map u64)[k]? = some (u64 (L.getD k 0)) := by
  simp [h]
theorem f108_ok : PureOK Try.prog 108 true g108 := by
  have hΓ := Γ0_ok
  refine pure_enc (n := 9) (rs := [.tmp 2]) Try.func108 (by kernel_rfl) rfl (by kernel_rfl) (by kernel_rfl) ?_
  intro x h0
  refine ⟨fun _ => .int _ _, fun c hz0 => ?_⟩
  have ho : ([.int .u64 1, .int .u64 32898, .int .u64 9223372036854808714, .int .u64 9223372039002292224, .int .u64 32907, .int .u64 2147483649, .int .u64 9223372039002292353, .int .u64 9223372036854808585, .int .u64 138, .int .u64 136, .int .u64 2147516425, .int .u64 2147483658, .int .u64 2147516555, .int .u64 9223372036854775947, .int .u64 9223372036854808713, .int .u64 9223372036854808579, .int .u64 9223372036854808578, .int .u64 9223372036854775936, .int .u64 32778, .int .u64 9223372039002259466, .int .u64 9223372039002292353, .int .u64 9223372036854808704, .int .u64 2147483649, .int .u64 9223372039002292232] : List D) = consts.map u64 := rfl
  have hl : consts.length = 24 := rfl
  have hr : (consts.map u64)[(x : Int).toNat]? = some (u64 (constAt x)) := by
    rw [Int.toNat_natCast]
    exact row_getDu (by omega)
  rw [start_frame (by simp)]; simp only [enumV, go_sem, emptyH]
  repeat (first
    | (apply axJ; (focus ((with_reducible constructor) <;> rfl)))
    | (apply awT mixedOK hΓ (by kernel_rfl); (simp (disch := omega) only [go_sem, ↓reduceIte, ↓lk, dk, ho, hl, ↓hr] <;> with_reducible rfl))
    | ((first | apply awR hΓ | apply awG | apply awH mixedOK hΓ rfl (by kernel_rfl) | apply ovE rfl); (simp (disch := omega) only [go_sem, ↓reduceIte, ↓lk, dk, ho, hl, ↓hr] <;> with_reducible rfl); exact trivial)
    | rfl)
  simp [constAt, hl, h0]
end Go.Ab
