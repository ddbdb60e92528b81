/-
  One text of the proof (own work): contracts of functions of the program, by the abstract machine.
-/
import Derived.Test.YtlfmbcjjojedgaaGreatDoorX16
set_option linter.unusedVariables false
set_option linter.unusedSimpArgs false
namespace Go.Ab
open Go Go.RowKit
def Rd (P : Program) (t : TypeId) (R : Nat → D → Prop) : Prop :=
  ∀ (H : Type) (enc : TypeId × Value → H) (W : World) (base n : Nat) (v : Value) (d : DataW H) (ps : List MemPlace), DataW.Trod enc P W 0 (fun _ => true) true t v d ps → Value.okWide P W .any base t v → bulk d ≤ n → ∃ x, R n x ∧ DR W (belowSz W) x v
theorem rd_ty {P : Program} {ty : Ty} {t : TypeId} (hf : ty.fits P t = true) : Rd P t (fun n x => ∃ cs, HasTy n ty cs ∧ x = ty.pack cs) := fun H enc W base n v d ps h hv hb => by
  obtain ⟨cs, h1, h2⟩ := arg_read hf h hv hb
  exact ⟨_, ⟨cs, h1, rfl⟩, h2⟩
def RdAll (P : Program) : List TypeId → List (Nat → D → Prop) → Prop
  | [], [] => True
  | t :: ts, R :: Rs => Rd P t R ∧ RdAll P ts Rs
  | _, _ => False
def HasRs (n : Nat) : List (Nat → D → Prop) → List D → Prop
  | [], xs => xs = []
  | R :: Rs, xs => ∃ x ys, R n x ∧ HasRs n Rs ys ∧ xs = x :: ys
section
variable {H : Type} {enc : TypeId × Value → H} {P : Program} {W W' : World}
theorem args_rd {n base : Nat} : ∀ (Rs : List (Nat → D → Prop)) (ts : List TypeId) (vs : List Value) (ds : List (DataW H)) (ps : List MemPlace), RdAll P ts Rs → DataW.TrodAll enc P W 0 (fun _ => true) true ts vs ds ps →
    (∀ (j : Nat) t v, ts[j]? = some t → vs[j]? = some v → Value.okWide P W .any base t v) → bulkAll ds ≤ n → ∃ xs, HasRs n Rs xs ∧ vs.length = xs.length ∧ ∀ i (hi : i < xs.length) u, vs[i]? = some u → DR W (belowSz W) (xs[i]) u
  | [], [], vs, ds, ps, hf, h, hv, hb => by
    obtain ⟨rfl, rfl, rfl⟩ := ChangeShapes.trodAll_nil h
    exact ⟨[], rfl, rfl, fun i hi => by simp at hi⟩
  | [], t :: ts, vs, ds, ps, hf, h, hv, hb => by simp [RdAll] at hf
  | R :: r, [], vs, ds, ps, hf, h, hv, hb => by simp [RdAll] at hf
  | R :: r, t :: ts, vs, ds, ps, hf, h, hv, hb => by
    obtain ⟨v, vs', d, ds', p, q, rfl, rfl, rfl, h1, h2⟩ := ChangeShapes.trodAll_cons h
    simp only [bulkAll] at hb
    obtain ⟨x, g1, g2⟩ := hf.1 H enc W base n v d p h1 (hv 0 t v rfl rfl) (by omega)
    obtain ⟨xs, g3, g4, g5⟩ := args_rd (n := n) (base := base) r ts vs' ds' q hf.2 h2 (fun j t' v' hj hj' => hv (j + 1) t' v' (by simpa using hj) (by simpa using hj')) (by omega)
    refine ⟨x :: xs, ⟨x, xs, g1, g3, rfl⟩, by simp [g4], fun i hi u hu => ?_⟩
    cases i with
    | zero => simp at hu; subst hu; exact g2
    | succ i => exact g5 i (by simpa using hi) u (by simpa using hu)
theorem law_callsR {f : FuncId} {fn : Func} {s : ChangeSpec} {g : List D → Option D} {fl apart : Bool} {Rs : List (Nat → D → Prop)} {n base : Nat} {tb : TypeId} (hok : PureOK P f fl g) (hl : laidOutB P = true) (hr : fn.params.toList.all (fun t => P.readableRec t && decide (t < P.types.size)) = true)
    (hres : fn.resultTypes.toList = [tb]) (htb : P.underlying tb = some .bool) (hfit : RdAll P fn.params.toList Rs) (hg : ∀ xs, HasRs n Rs xs → g xs = some (.bool true)) (hs : s.vars = []) {args : Array Value} {ds gs : List (DataW H)} {before : List MemPlace}
    (hval : ∀ (j : Nat) t v, fn.params[j]? = some t → args[j]? = some v → Value.okWide P W .any base t v) (hW : DataW.Whole enc P fn.params.toList s.vars apart W args.toList ds gs before)
    (hspec : s.fn H (ds ++ gs) = { results := [.lit (.bool true)], args := ds }) (hbulk : bulkAll ds ≤ n) :
    Calls P f args W fun e W' => ∃ v, e = .returned v ∧ s.post enc P fn apart true false false W args v W' := by
  have hW' := hW
  have hlt := hW.lt
  obtain ⟨p, q, hA, hV, rfl, hfz, hnd⟩ := hW
  rw [hs] at hV
  obtain ⟨rfl, rfl⟩ := ChangeShapes.trodVars_none hV
  obtain ⟨xs, h1, h2, h3⟩ := args_rd (n := n) Rs _ _ _ _ hfit hA (fun j t v hj hv => hval j t v (by simpa using hj) (by simpa using hv)) hbulk
  obtain ⟨_, hcall⟩ := hok xs _ (hg xs h1)
  obtain ⟨_, hc⟩ := hcall W (belowSz W) args (fun b hb => hb) (by simpa using h2) (fun i hi u hu => h3 i hi u (by simpa using hu))
  refine hc.mono ?_
  rintro e W' ⟨v, rfl, hdr, hbel⟩
  have hv := hdr.bool_eq
  subst hv
  have hrs : fn.resultTypes.size = 1 := by
    have := congrArg List.length hres
    simpa using this
  refine ⟨_, rfl, ds, [], p ++ [], [], p, [], hW', ?_, ?_, ?_, ?_, fun h => (by cases h)⟩
  · rw [hspec, hres]
    have : (Value.bool true).resultList fn.resultTypes.size = [.bool true] := by rw [hrs]; rfl
    rw [this]
    exact trodAll_cons_mk (shut_bool htb _) ChangeShapes.trodAll_mk0
  · rw [hspec]
    exact args_stay hl hbel _ _ _ _ hr hA (fun x hx => hlt x (by simp [hx]))
  · rw [hs, hspec]
    rfl
  · exact hbel.frame _
end
end Go.Ab
namespace Go.Ab
open Go Go.RowKit
def lookV : List (Nat × AV) → Nat → AV
  | [], _ => .junk
  | (k, x) :: r, i => if i = k then x else lookV r i
attribute [go_sem] lookV
def frame (n : Nat) (t : List (Nat × AV)) : List AV := (List.range n).map (lookV t)
theorem frame_len (n : Nat) (t : List (Nat × AV)) : (frame n t).length = n := by simp [frame]
@[go_sem] theorem frame_at (n : Nat) (t : List (Nat × AV)) (i : Nat) : (frame n t)[i]? = if i < n then some (lookV t i) else none := by
  unfold frame
  rw [List.getElem?_map]
  by_cases h : i < n
  · rw [List.getElem?_range h, if_pos h]; rfl
  · rw [List.getElem?_eq_none (by simpa using h), if_neg h]; rfl
@[go_sem] theorem frame_get (n : Nat) (t : List (Nat × AV)) (i : Nat) : (frame n t).getD i .junk = if i < n then lookV t i else .junk := by
  rw [List.getD_eq_getElem?_getD, frame_at]
  split <;> rfl
@[go_sem] theorem frame_set (n : Nat) (t : List (Nat × AV)) (i : Nat) (x : AV) : (frame n t).set i x = if i < n then frame n ((i, x) :: t) else frame n t := by
  apply List.ext_getElem?
  intro j
  rw [List.getElem?_set, frame_len]
  split
  · rename_i h
    subst h
    split <;> simp [frame_at, lookV, *]
  · rename_i h
    by_cases h2 : i < n
    · have h3 : ¬ j = i := fun e => h e.symm
      rw [if_pos h2, frame_at, frame_at]
      simp [lookV, h3]
    · rw [if_neg h2]
def enumV : Nat → List D → List (Nat × AV)
  | _, [] => []
  | i, d :: r => (i, .data d) :: enumV (i + 1) r
theorem lookV_enum : ∀ (l : List D) (i j : Nat), lookV (enumV i l) j = if i ≤ j then (match l[j - i]? with | some d => .data d | none => .junk) else .junk
  | [], i, j => by simp [enumV, lookV]
  | d :: r, i, j => by
    simp only [enumV, lookV, lookV_enum r (i + 1) j]
    by_cases h : j = i
    · subst h; simp
    · rw [if_neg h]
      by_cases h2 : i ≤ j
      · rw [if_pos h2, if_pos (by omega), show j - i = (j - (i + 1)) + 1 from by omega, List.getElem?_cons_succ]
      · rw [if_neg h2, if_neg (by omega)]
theorem start_frame {n : Nat} {ds : List D} (h : ds.length ≤ n) : start n ds = frame n (enumV 0 ds) := by
  apply List.ext_getElem?
  intro j
  rw [frame_at, lookV_enum, if_pos (Nat.zero_le _), Nat.sub_zero, start]
  by_cases h1 : j < ds.length
  · rw [List.getElem?_append_left (by simpa using h1), if_pos (by omega), List.getElem?_map, List.getElem?_eq_getElem h1]
    rfl
  · rw [List.getElem?_append_right (by simpa using h1), List.getElem?_replicate, List.getElem?_eq_none (by omega)]
    simp only [List.length_map]
    by_cases h2 : j < n
    · rw [if_pos (by omega), if_pos h2]
    · rw [if_neg (by omega), if_neg h2]
def ConvF (H : Heap) (t : List (Nat × AV)) : List (Nat × AV) → Prop
  | [] => True
  | (i, x) :: r => Conv H (lookV t i) x ∧ ConvF H t r
theorem ConvF.at {H : Heap} {t : List (Nat × AV)} : ∀ {t' : List (Nat × AV)}, ConvF H t t' → ∀ i, Conv H (lookV t i) (lookV t' i)
  | [], _, i => trivial
  | (k, x) :: r, h, i => by
    simp only [lookV]
    split
    · rename_i hk; subst hk; exact h.1
    · exact ConvF.at h.2 i
theorem ConvL_map {H : Heap} {f g : Nat → AV} (h : ∀ i, Conv H (f i) (g i)) : ∀ l : List Nat, ConvL H (l.map f) (l.map g)
  | [] => trivial
  | i :: r => ⟨h i, ConvL_map h r⟩
def refsF (n : Nat) : List (Nat × AV) → Bool
  | [] => true
  | (_, x) :: r => x.refsOK n && refsF n r
theorem refsF_at {n : Nat} : ∀ {t : List (Nat × AV)}, refsF n t = true → ∀ i, (lookV t i).refsOK n = true
  | [], _, i => rfl
  | (k, x) :: r, h, i => by
    simp only [refsF, Bool.and_eq_true] at h
    simp only [lookV]
    split
    · exact h.1
    · exact refsF_at h.2 i
theorem refsOKs_map {n : Nat} {f : Nat → AV} (h : ∀ i, (f i).refsOK n = true) : ∀ l : List Nat, refsOKs n (l.map f) = true
  | [] => rfl
  | i :: r => by simp only [List.map_cons, refsOKs, h i, refsOKs_map h r, Bool.and_self]
theorem Weak.ofF {b m : Nat} {t t' : List (Nat × AV)} {tab tab' : List (Nat × Obj)} {n n' : Nat} (hb : b ≤ n') (h1 : ConvF ⟨tab, n⟩ t t') (h2 : TabSub n' tab tab') (h3 : refsF n' t' = true) : Weak b (frame m t) ⟨tab, n⟩ (frame m t') ⟨tab', n'⟩ :=
  Weak.of hb (ConvL_map h1.at _) h2 (refsOKs_map (refsF_at h3) _)
theorem Weak.nilrowF {b m i n : Nat} {t : List (Nat × AV)} {tab : List (Nat × Obj)} (e : TypeId) {sz : Nat} (hsz : 0 < sz) (him : i < m) (hi : lookV t i = .nils) : Weak b (frame m t) ⟨tab, n⟩ (frame m ((i, .row n 0) :: t)) ⟨upd tab n (.row e sz []), n + 1⟩ := by
  have h := Weak.nilrow (b := b) (sl := frame m t) (H := ⟨tab, n⟩) (i := i) e hsz (by rw [frame_at, if_pos him, hi])
  rw [frame_set, if_pos him] at h
  exact h
end Go.Ab
namespace Go.Ab
open Go Go.RowKit
theorem ConvL.at {H : Heap} : ∀ {l r : List AV}, ConvL H l r → r.length = l.length ∧ ∀ (i : Nat) (hi : i < r.length) (hj : i < l.length), Conv H (l[i]) (r[i])
  | [], [], _ => ⟨rfl, fun i hi => by simp at hi⟩
  | x :: l, y :: r, h => by
    obtain ⟨h1, h2⟩ := ConvL.at h.2
    refine ⟨by simp [h1], fun i hi hj => ?_⟩
    cases i with
    | zero => exact h.1
    | succ i => exact h2 i (by simpa using hi) (by simpa using hj)
  | [], _ :: _, h => h.elim
  | _ :: _, [], h => h.elim
section
variable {P : Program} {Γ : FuncId → Option CSpec} {c : Ctx} {nst : Bool} {ops : Array Oper}
end
end Go.Ab
namespace Go.Ab
open Go Go.RowKit
section
variable {P : Program} {c : Ctx} {H H' : Heap} {θ θ' : Nat → Value} {w w' : World} {sl : List AV} {a : Act} {o : Oper} {r : AV} {Γ : FuncId → Option CSpec}
end
end Go.Ab
namespace Go.Ab
open Go Go.RowKit
def Keep (H H' : Heap) : Prop := ∀ o x, H.get o = some x → H'.get o = some x
def KeepT (tab' : List (Nat × Obj)) : List (Nat × Obj) → Prop
  | [] => True
  | (o, x) :: r => look tab' o = some x ∧ KeepT tab' r
theorem KeepT.keep {tab' : List (Nat × Obj)} : ∀ {tab : List (Nat × Obj)}, KeepT tab' tab → ∀ (o : Nat) (x : Obj), look tab o = some x → look tab' o = some x
  | [], _, o, x, h => by simp [look] at h
  | (p, y) :: r, ht, o, x, h => by
    simp only [KeepT] at ht
    simp only [look] at h
    split at h
    · rename_i hp
      simp only [Option.some.injEq] at h
      subst h
      subst hp
      exact ht.1
    · exact KeepT.keep ht.2 o x h
section
variable {P : Program} {Γ : FuncId → Option CSpec} {c : Ctx} {H H' : Heap} {θ θ' : Nat → Value} {w w' : World} {sl : List AV} {a : Act} {o : Oper} {r : AV}
def laneOrd (ops : Array Oper) (n1 : Nat) (bs : List Bool) : Bool := (List.range n1).all fun j => !bs.getD j false || (List.range j).all fun i => !bs.getD i false || beforeB ops 8 j i
theorem laneOrd_spec {ops : Array Oper} {n1 : Nat} {bs : List Bool} (h : laneOrd ops n1 bs = true) {i j : Nat} (hj : j < n1) (hij : i < j) (hbj : bs.getD j false = true) (hbi : bs.getD i false = true) : beforeB ops 8 j i = true := by
  simp only [laneOrd, List.all_eq_true, List.mem_range, Bool.or_eq_true, Bool.not_eq_true'] at h
  rcases h j hj with h1 | h1
  · rw [h1] at hbj; cases hbj
  rcases h1 i hij with h2 | h2
  · rw [h2] at hbi; cases hbi
  exact h2
variable {ops : Array Oper} {n1 : Nat} {L : Nat → List AV} {Hs : Nat → Heap}
theorem Keep.bump {n : Nat} (h : Keep H H') : Keep H (H'.bump n) := h
end
end Go.Ab
namespace Go.Ab
open Go Go.RowKit
def AtS (e : Exit) (sl : List AV) (H : Heap) : Exit → List AV → Heap → Prop := fun e2 s2 H2 => e2 = e ∧ s2 = sl ∧ H2 = H
def axp (P : Program) (b : Nat) (code : Code) (Q : Exit → List AV → Heap → Prop) (sl : List AV) (H : Heap) : Prop :=
  ∃ e sl' H', Q e sl' H' ∧ ∀ c : Ctx, c.base = b → awp P c code (AtS e sl' H') sl H
section
variable {P : Program} {b : Nat} {Q Q' : Exit → List AV → Heap → Prop} {sl sl' : List AV} {H H' : Heap}
theorem axp_skip (h : Q .normal sl H) : axp P b .skip Q sl H := ⟨_, _, _, h, fun _ _ => awp_skip ⟨rfl, rfl, rfl⟩⟩
theorem axp_label {l : Nat} (h : Q .normal sl H) : axp P b (.label l) Q sl H := ⟨_, _, _, h, fun _ _ => awp_label ⟨rfl, rfl, rfl⟩⟩
theorem axp_exit {id : Nat} (h : Q (.exit id) sl H) : axp P b (.exit id) Q sl H := ⟨_, _, _, h, fun _ _ => awp_exit ⟨rfl, rfl, rfl⟩⟩
theorem axp_ret (h : Q .ret sl H) : axp P b .ret Q sl H := ⟨_, _, _, h, fun _ _ => awp_ret ⟨rfl, rfl, rfl⟩⟩
theorem axp_seq {x y : Code} (h : axp P b x (thenA (axp P b y Q) Q) sl H) : axp P b (.seq x y) Q sl H := by
  obtain ⟨e, s1, H1, hq, hx⟩ := h
  cases e with
  | normal =>
    obtain ⟨e2, s2, H2, hq2, hy⟩ := hq
    refine ⟨e2, s2, H2, hq2, fun c hb => awp_seq (awp_mono (hx c hb) ?_)⟩
    rintro _ _ _ ⟨rfl, rfl, rfl⟩
    exact hy c hb
  | exit id => exact ⟨_, s1, H1, hq, fun c hb => awp_seq (awp_mono (hx c hb) (by rintro _ _ _ ⟨rfl, rfl, rfl⟩; exact ⟨rfl, rfl, rfl⟩))⟩
  | goto l => exact ⟨_, s1, H1, hq, fun c hb => awp_seq (awp_mono (hx c hb) (by rintro _ _ _ ⟨rfl, rfl, rfl⟩; exact ⟨rfl, rfl, rfl⟩))⟩
  | ret => exact ⟨_, s1, H1, hq, fun c hb => awp_seq (awp_mono (hx c hb) (by rintro _ _ _ ⟨rfl, rfl, rfl⟩; exact ⟨rfl, rfl, rfl⟩))⟩
  | panic ch => exact ⟨_, s1, H1, hq, fun c hb => awp_seq (awp_mono (hx c hb) (by rintro _ _ _ ⟨rfl, rfl, rfl⟩; exact ⟨rfl, rfl, rfl⟩))⟩
  | outgrown => exact ⟨_, s1, H1, hq, fun c hb => awp_seq (awp_mono (hx c hb) (by rintro _ _ _ ⟨rfl, rfl, rfl⟩; exact ⟨rfl, rfl, rfl⟩))⟩
theorem axp_block {id : Nat} {x : Code} (h : axp P b x (inBlockA id Q) sl H) : axp P b (.block id x) Q sl H := by
  obtain ⟨e, s1, H1, hq, hx⟩ := h
  cases e with
  | exit id' =>
    by_cases he : id' = id
    · simp only [inBlockA, if_pos he] at hq
      refine ⟨.normal, s1, H1, hq, fun c hb => awp_block (awp_mono (hx c hb) ?_)⟩
      rintro _ _ _ ⟨rfl, rfl, rfl⟩
      simp only [inBlockA, if_pos he]
      exact ⟨rfl, rfl, rfl⟩
    · simp only [inBlockA, if_neg he] at hq
      refine ⟨_, s1, H1, hq, fun c hb => awp_block (awp_mono (hx c hb) ?_)⟩
      rintro _ _ _ ⟨rfl, rfl, rfl⟩
      simp only [inBlockA, if_neg he]
      exact ⟨rfl, rfl, rfl⟩
  | normal => exact ⟨_, s1, H1, hq, fun c hb => awp_block (awp_mono (hx c hb) (by rintro _ _ _ ⟨rfl, rfl, rfl⟩; exact ⟨rfl, rfl, rfl⟩))⟩
  | goto l => exact ⟨_, s1, H1, hq, fun c hb => awp_block (awp_mono (hx c hb) (by rintro _ _ _ ⟨rfl, rfl, rfl⟩; exact ⟨rfl, rfl, rfl⟩))⟩
  | ret => exact ⟨_, s1, H1, hq, fun c hb => awp_block (awp_mono (hx c hb) (by rintro _ _ _ ⟨rfl, rfl, rfl⟩; exact ⟨rfl, rfl, rfl⟩))⟩
  | panic ch => exact ⟨_, s1, H1, hq, fun c hb => awp_block (awp_mono (hx c hb) (by rintro _ _ _ ⟨rfl, rfl, rfl⟩; exact ⟨rfl, rfl, rfl⟩))⟩
  | outgrown => exact ⟨_, s1, H1, hq, fun c hb => awp_block (awp_mono (hx c hb) (by rintro _ _ _ ⟨rfl, rfl, rfl⟩; exact ⟨rfl, rfl, rfl⟩))⟩
inductive Path (P : Program) (b : Nat) (x : Code) {X : Type} (S : X → List AV) (T : X → List (Nat × Obj)) (N : X → Nat) (μ : X → Nat) (E : Exit × List AV × Heap) : X → Prop where
  | out (y : X) (hne : E.1 ≠ .normal) (h : ∀ c : Ctx, c.base = b → awp P c x (AtS E.1 E.2.1 E.2.2) (S y) ⟨T y, N y⟩) : Path P b x S T N μ E y
  | next (y z : X) (s : List AV) (H : Heap) (h : ∀ c : Ctx, c.base = b → awp P c x (AtS .normal s H) (S y) ⟨T y, N y⟩) (hlt : μ z < μ y) (hw : Weak b s H (S z) ⟨T z, N z⟩) (hz : Path P b x S T N μ E z) : Path P b x S T N μ E y
end
section
variable {P : Program} {Γ : FuncId → Option CSpec} {b : Nat} {sl sl1 sl2 sl' : List AV} {tab tab1 tab2 tab' : List (Nat × Obj)} {n n' n1 n2 m k k1 : Nat} {ops : Array Oper} {Q : Exit → List AV → Heap → Prop} {id : Nat} {om : Oper}
end
end Go.Ab
namespace Go.Ab
open Go Go.RowKit
theorem conv_agg {c : Ctx} {H : Heap} {θ : Nat → Value} {w : World} (hs : HSim c H θ w) {l : List AV} {ds : List D} (h : ConvL H l (ds.map .data)) (ho : ds.all D.one = true) {v : Value} (hx : VR H θ w (vis c H θ w) (.agg l) v) : VR H θ w (vis c H θ w) (.data (.agg ds)) v := by
  obtain ⟨hl, hat⟩ := h.at
  simp only [List.length_map] at hl
  cases hx with
  | agg _ vs u hz hv hh =>
    refine .data _ _ (.agg ds vs u (by rw [hz, hl]) (fun d hd => List.all_eq_true.1 ho d hd) (fun i hi => (hv i (by omega)).1) fun i hi => ?_)
    have h1 := (hat i (by simpa using hi) (by omega)).sound hs (hh i (by omega))
    simp only [List.getElem_map] at h1
    cases h1 with
    | data _ _ hd => exact hd
theorem Weak.agg1 {b : Nat} {l : List AV} {ds : List D} {H : Heap} (h : ConvL H l (ds.map .data)) (ho : ds.all D.one = true) : Weak b [.agg l] H [.data (.agg ds)] H := fun c θ w a hb hs => by
  refine ⟨θ, ⟨⟨hs.st.sim, hs.st.defers, hs.st.size, fun i x v hx hv => ?_⟩, hs.wf, hs.base⟩, Evo.refl _ _ _⟩
  match i, hx with
  | 0, hx =>
    simp only [List.getElem?_cons_zero, Option.some.injEq] at hx
    subst hx
    exact conv_agg hs.st.sim h ho (hs.st.vals 0 _ v rfl hv)
  | i + 1, hx => simp at hx
def enumA : Nat → List AV → List (Nat × AV)
  | _, [] => []
  | i, x :: r => (i, x) :: enumA (i + 1) r
theorem lookV_enumA : ∀ (l : List AV) (i j : Nat), lookV (enumA i l) j = if i ≤ j then (match l[j - i]? with | some x => x | none => .junk) else .junk
  | [], i, j => by simp [enumA, lookV]
  | x :: r, i, j => by
    simp only [enumA, lookV, lookV_enumA r (i + 1) j]
    by_cases h : j = i
    · subst h; simp
    · rw [if_neg h]
      by_cases h2 : i ≤ j
      · rw [if_pos h2, if_pos (by omega), show j - i = (j - (i + 1)) + 1 from by omega, List.getElem?_cons_succ]
      · rw [if_neg h2, if_neg (by omega)]
theorem start_frameA {n : Nat} {xs : List AV} (h : xs.length ≤ n) : xs ++ List.replicate (n - xs.length) .junk = frame n (enumA 0 xs) := by
  apply List.ext_getElem?
  intro j
  rw [frame_at, lookV_enumA, if_pos (Nat.zero_le _), Nat.sub_zero]
  by_cases h1 : j < xs.length
  · rw [List.getElem?_append_left h1, if_pos (by omega), List.getElem?_eq_getElem h1]
  · rw [List.getElem?_append_right (by omega), List.getElem?_replicate, List.getElem?_eq_none (by omega)]
    by_cases h2 : j < n
    · rw [if_pos (by omega), if_pos h2]
    · rw [if_neg (by omega), if_neg h2]
end Go.Ab
namespace Go.Ab
open Go Go.RowKit
section
variable {P : Program} {Γ : FuncId → Option CSpec} {c : Ctx} {H H' : Heap} {θ θ' : Nat → Value} {w w' : World} {sl : List AV} {a : Act} {o : Oper} {r : AV}
variable {ops : Array Oper} {n1 : Nat} {L : Nat → List AV} {Hs : Nat → Heap}
def allQ1 (P : Program) (Γ : FuncId → Option CSpec) (ops : Array Oper) (H : Heap) : List (List AV × Oper × AV) → Prop
  | [] => True
  | q :: qs => qval P Γ ops H q.1 q.2.1 = some q.2.2 ∧ allQ1 P Γ ops H qs
def allQ (P : Program) (Γ : FuncId → Option CSpec) (ops : Array Oper) : List Heap → List (List AV × Oper × AV) → Prop
  | [], _ => True
  | H :: hs, qs => allQ1 P Γ ops H qs ∧ allQ P Γ ops hs qs
theorem allQ1.at {ops : Array Oper} {H : Heap} : ∀ {qs : List (List AV × Oper × AV)}, allQ1 P Γ ops H qs → ∀ q ∈ qs, qval P Γ ops H q.1 q.2.1 = some q.2.2
  | [], _, q, h => by cases h
  | q' :: qs, h, q, hq => by
    rcases List.mem_cons.1 hq with rfl | hq
    · exact h.1
    · exact allQ1.at h.2 q hq
theorem allQ.at {ops : Array Oper} {qs : List (List AV × Oper × AV)} : ∀ {hs : List Heap}, allQ P Γ ops hs qs → ∀ H ∈ hs, ∀ q ∈ qs, qval P Γ ops H q.1 q.2.1 = some q.2.2
  | [], _, H, h => by cases h
  | H' :: hs, h, H, hH => by
    rcases List.mem_cons.1 hH with rfl | hH
    · exact h.1.at
    · exact allQ.at h.2 H hH
end
end Go.Ab
namespace Go.Ab
open Go Go.RowKit
end Go.Ab
