/-
  One text of the proof (own work): contracts of functions of the program, by the abstract machine.
-/
import Derived.Test.YtlfmbcjjojedgaaGreatDoorX16
set_option linter.unusedVariables false
set_option linter.unusedSimpArgs false
namespace Go.Ab
open Go Go.RowKit
def lookV : List (Nat × AV) → Nat → AV
  | [], _ => .junk
  | (k, x) :: r, i => if i = k then x else lookV r i
attribute [go_sem] lookV
def frame (n : Nat) (t : List (Nat × AV)) : List AV := (List.range n).map (lookV t)
theorem frame_len (n : Nat) (t : List (Nat × AV)) : (frame n t).length = n := by simp [frame]
@[go_sem] theorem frame_at (n : Nat) (t : List (Nat × AV)) (i : Nat) : (frame n t)[i]? = if i < n then some (lookV t i) else none := by
  unfold frame
  rw [List.getElem?_map]
  by_cases h : i < n
  · rw [List.getElem?_range h, if_pos h]; rfl
  · rw [List.getElem?_eq_none (by simpa using h), if_neg h]; rfl
@[go_sem] theorem frame_get (n : Nat) (t : List (Nat × AV)) (i : Nat) : (frame n t).getD i .junk = if i < n then lookV t i else .junk := by
  rw [List.getD_eq_getElem?_getD, frame_at]
  split <;> rfl
@[go_sem] theorem frame_set (n : Nat) (t : List (Nat × AV)) (i : Nat) (x : AV) : (frame n t).set i x = if i < n then frame n ((i, x) :: t) else frame n t := by
  apply List.ext_getElem?
  intro j
  rw [List.getElem?_set, frame_len]
  split
  · rename_i h
    subst h
    split <;> simp [frame_at, lookV, *]
  · rename_i h
    by_cases h2 : i < n
    · have h3 : ¬ j = i := fun e => h e.symm
      rw [if_pos h2, frame_at, frame_at]
      simp [lookV, h3]
    · rw [if_neg h2]
def enumV : Nat → List D → List (Nat × AV)
  | _, [] => []
  | i, d :: r => (i, .data d) :: enumV (i + 1) r
theorem lookV_enum : ∀ (l : List D) (i j : Nat), lookV (enumV i l) j = if i ≤ j then (match l[j - i]? with | some d => .data d | none => .junk) else .junk
  | [], i, j => by simp [enumV, lookV]
  | d :: r, i, j => by
    simp only [enumV, lookV, lookV_enum r (i + 1) j]
    by_cases h : j = i
    · subst h; simp
    · rw [if_neg h]
      by_cases h2 : i ≤ j
      · rw [if_pos h2, if_pos (by omega), show j - i = (j - (i + 1)) + 1 from by omega, List.getElem?_cons_succ]
      · rw [if_neg h2, if_neg (by omega)]
theorem start_frame {n : Nat} {ds : List D} (h : ds.length ≤ n) : start n ds = frame n (enumV 0 ds) := by
  apply List.ext_getElem?
  intro j
  rw [frame_at, lookV_enum, if_pos (Nat.zero_le _), Nat.sub_zero, start]
  by_cases h1 : j < ds.length
  · rw [List.getElem?_append_left (by simpa using h1), if_pos (by omega), List.getElem?_map, List.getElem?_eq_getElem h1]
    rfl
  · rw [List.getElem?_append_right (by simpa using h1), List.getElem?_replicate, List.getElem?_eq_none (by omega)]
    simp only [List.length_map]
    by_cases h2 : j < n
    · rw [if_pos (by omega), if_pos h2]
    · rw [if_neg (by omega), if_neg h2]
def ConvF (H : Heap) (t : List (Nat × AV)) : List (Nat × AV) → Prop
  | [] => True
  | (i, x) :: r => Conv H (lookV t i) x ∧ ConvF H t r
theorem ConvF.at {H : Heap} {t : List (Nat × AV)} : ∀ {t' : List (Nat × AV)}, ConvF H t t' → ∀ i, Conv H (lookV t i) (lookV t' i)
  | [], _, i => trivial
  | (k, x) :: r, h, i => by
    simp only [lookV]
    split
    · rename_i hk; subst hk; exact h.1
    · exact ConvF.at h.2 i
theorem ConvL_map {H : Heap} {f g : Nat → AV} (h : ∀ i, Conv H (f i) (g i)) : ∀ l : List Nat, ConvL H (l.map f) (l.map g)
  | [] => trivial
  | i :: r => ⟨h i, ConvL_map h r⟩
def refsF (n : Nat) : List (Nat × AV) → Bool
  | [] => true
  | (_, x) :: r => x.refsOK n && refsF n r
theorem refsF_at {n : Nat} : ∀ {t : List (Nat × AV)}, refsF n t = true → ∀ i, (lookV t i).refsOK n = true
  | [], _, i => rfl
  | (k, x) :: r, h, i => by
    simp only [refsF, Bool.and_eq_true] at h
    simp only [lookV]
    split
    · exact h.1
    · exact refsF_at h.2 i
theorem refsOKs_map {n : Nat} {f : Nat → AV} (h : ∀ i, (f i).refsOK n = true) : ∀ l : List Nat, refsOKs n (l.map f) = true
  | [] => rfl
  | i :: r => by simp only [List.map_cons, refsOKs, h i, refsOKs_map h r, Bool.and_self]
theorem Weak.ofF {b m : Nat} {t t' : List (Nat × AV)} {tab tab' : List (Nat × Obj)} {n n' : Nat} (hb : b ≤ n') (h1 : ConvF ⟨tab, n⟩ t t') (h2 : TabSub n' tab tab') (h3 : refsF n' t' = true) : Weak b (frame m t) ⟨tab, n⟩ (frame m t') ⟨tab', n'⟩ :=
  Weak.of hb (ConvL_map h1.at _) h2 (refsOKs_map (refsF_at h3) _)
theorem Weak.nilrowF {b m i n : Nat} {t : List (Nat × AV)} {tab : List (Nat × Obj)} (e : TypeId) {sz : Nat} (hsz : 0 < sz) (him : i < m) (hi : lookV t i = .nils) : Weak b (frame m t) ⟨tab, n⟩ (frame m ((i, .row n 0) :: t)) ⟨upd tab n (.row e sz []), n + 1⟩ := by
  have h := Weak.nilrow (b := b) (sl := frame m t) (H := ⟨tab, n⟩) (i := i) e hsz (by rw [frame_at, if_pos him, hi])
  rw [frame_set, if_pos him] at h
  exact h
end Go.Ab
namespace Go.Ab
open Go Go.RowKit
theorem ConvL.at {H : Heap} : ∀ {l r : List AV}, ConvL H l r → r.length = l.length ∧ ∀ (i : Nat) (hi : i < r.length) (hj : i < l.length), Conv H (l[i]) (r[i])
  | [], [], _ => ⟨rfl, fun i hi => by simp at hi⟩
  | x :: l, y :: r, h => by
    obtain ⟨h1, h2⟩ := ConvL.at h.2
    refine ⟨by simp [h1], fun i hi hj => ?_⟩
    cases i with
    | zero => exact h.1
    | succ i => exact h2 i (by simpa using hi) (by simpa using hj)
  | [], _ :: _, h => h.elim
  | _ :: _, [], h => h.elim
section
variable {P : Program} {Γ : FuncId → Option CSpec} {c : Ctx} {nst : Bool} {ops : Array Oper}
end
end Go.Ab
namespace Go.Ab
open Go Go.RowKit
section
variable {P : Program} {c : Ctx} {H H' : Heap} {θ θ' : Nat → Value} {w w' : World} {sl : List AV} {a : Act} {o : Oper} {r : AV} {Γ : FuncId → Option CSpec}
end
end Go.Ab
namespace Go.Ab
open Go Go.RowKit
def Keep (H H' : Heap) : Prop := ∀ o x, H.get o = some x → H'.get o = some x
def KeepT (tab' : List (Nat × Obj)) : List (Nat × Obj) → Prop
  | [] => True
  | (o, x) :: r => look tab' o = some x ∧ KeepT tab' r
theorem KeepT.keep {tab' : List (Nat × Obj)} : ∀ {tab : List (Nat × Obj)}, KeepT tab' tab → ∀ (o : Nat) (x : Obj), look tab o = some x → look tab' o = some x
  | [], _, o, x, h => by simp [look] at h
  | (p, y) :: r, ht, o, x, h => by
    simp only [KeepT] at ht
    simp only [look] at h
    split at h
    · rename_i hp
      simp only [Option.some.injEq] at h
      subst h
      subst hp
      exact ht.1
    · exact KeepT.keep ht.2 o x h
section
variable {P : Program} {Γ : FuncId → Option CSpec} {c : Ctx} {H H' : Heap} {θ θ' : Nat → Value} {w w' : World} {sl : List AV} {a : Act} {o : Oper} {r : AV}
def laneOrd (ops : Array Oper) (n1 : Nat) (bs : List Bool) : Bool := (List.range n1).all fun j => !bs.getD j false || (List.range j).all fun i => !bs.getD i false || beforeB ops 8 j i
theorem laneOrd_spec {ops : Array Oper} {n1 : Nat} {bs : List Bool} (h : laneOrd ops n1 bs = true) {i j : Nat} (hj : j < n1) (hij : i < j) (hbj : bs.getD j false = true) (hbi : bs.getD i false = true) : beforeB ops 8 j i = true := by
  simp only [laneOrd, List.all_eq_true, List.mem_range, Bool.or_eq_true, Bool.not_eq_true'] at h
  rcases h j hj with h1 | h1
  · rw [h1] at hbj; cases hbj
  rcases h1 i hij with h2 | h2
  · rw [h2] at hbi; cases hbi
  exact h2
variable {ops : Array Oper} {n1 : Nat} {L : Nat → List AV} {Hs : Nat → Heap}
theorem Keep.bump {n : Nat} (h : Keep H H') : Keep H (H'.bump n) := h
end
end Go.Ab
namespace Go.Ab
open Go Go.RowKit
def AtS (e : Exit) (sl : List AV) (H : Heap) : Exit → List AV → Heap → Prop := fun e2 s2 H2 => e2 = e ∧ s2 = sl ∧ H2 = H
def axp (P : Program) (b : Nat) (code : Code) (Q : Exit → List AV → Heap → Prop) (sl : List AV) (H : Heap) : Prop :=
  ∃ e sl' H', Q e sl' H' ∧ ∀ c : Ctx, c.base = b → awp P c code (AtS e sl' H') sl H
section
variable {P : Program} {b : Nat} {Q Q' : Exit → List AV → Heap → Prop} {sl sl' : List AV} {H H' : Heap}
theorem axp_skip (h : Q .normal sl H) : axp P b .skip Q sl H := ⟨_, _, _, h, fun _ _ => awp_skip ⟨rfl, rfl, rfl⟩⟩
theorem axp_label {l : Nat} (h : Q .normal sl H) : axp P b (.label l) Q sl H := ⟨_, _, _, h, fun _ _ => awp_label ⟨rfl, rfl, rfl⟩⟩
theorem axp_exit {id : Nat} (h : Q (.exit id) sl H) : axp P b (.exit id) Q sl H := ⟨_, _, _, h, fun _ _ => awp_exit ⟨rfl, rfl, rfl⟩⟩
theorem axp_ret (h : Q .ret sl H) : axp P b .ret Q sl H := ⟨_, _, _, h, fun _ _ => awp_ret ⟨rfl, rfl, rfl⟩⟩
theorem axp_seq {x y : Code} (h : axp P b x (thenA (axp P b y Q) Q) sl H) : axp P b (.seq x y) Q sl H := by
  obtain ⟨e, s1, H1, hq, hx⟩ := h
  cases e with
  | normal =>
    obtain ⟨e2, s2, H2, hq2, hy⟩ := hq
    refine ⟨e2, s2, H2, hq2, fun c hb => awp_seq (awp_mono (hx c hb) ?_)⟩
    rintro _ _ _ ⟨rfl, rfl, rfl⟩
    exact hy c hb
  | exit id => exact ⟨_, s1, H1, hq, fun c hb => awp_seq (awp_mono (hx c hb) (by rintro _ _ _ ⟨rfl, rfl, rfl⟩; exact ⟨rfl, rfl, rfl⟩))⟩
  | goto l => exact ⟨_, s1, H1, hq, fun c hb => awp_seq (awp_mono (hx c hb) (by rintro _ _ _ ⟨rfl, rfl, rfl⟩; exact ⟨rfl, rfl, rfl⟩))⟩
  | ret => exact ⟨_, s1, H1, hq, fun c hb => awp_seq (awp_mono (hx c hb) (by rintro _ _ _ ⟨rfl, rfl, rfl⟩; exact ⟨rfl, rfl, rfl⟩))⟩
  | panic ch => exact ⟨_, s1, H1, hq, fun c hb => awp_seq (awp_mono (hx c hb) (by rintro _ _ _ ⟨rfl, rfl, rfl⟩; exact ⟨rfl, rfl, rfl⟩))⟩
  | outgrown => exact ⟨_, s1, H1, hq, fun c hb => awp_seq (awp_mono (hx c hb) (by rintro _ _ _ ⟨rfl, rfl, rfl⟩; exact ⟨rfl, rfl, rfl⟩))⟩
theorem axp_block {id : Nat} {x : Code} (h : axp P b x (inBlockA id Q) sl H) : axp P b (.block id x) Q sl H := by
  obtain ⟨e, s1, H1, hq, hx⟩ := h
  cases e with
  | exit id' =>
    by_cases he : id' = id
    · simp only [inBlockA, if_pos he] at hq
      refine ⟨.normal, s1, H1, hq, fun c hb => awp_block (awp_mono (hx c hb) ?_)⟩
      rintro _ _ _ ⟨rfl, rfl, rfl⟩
      simp only [inBlockA, if_pos he]
      exact ⟨rfl, rfl, rfl⟩
    · simp only [inBlockA, if_neg he] at hq
      refine ⟨_, s1, H1, hq, fun c hb => awp_block (awp_mono (hx c hb) ?_)⟩
      rintro _ _ _ ⟨rfl, rfl, rfl⟩
      simp only [inBlockA, if_neg he]
      exact ⟨rfl, rfl, rfl⟩
  | normal => exact ⟨_, s1, H1, hq, fun c hb => awp_block (awp_mono (hx c hb) (by rintro _ _ _ ⟨rfl, rfl, rfl⟩; exact ⟨rfl, rfl, rfl⟩))⟩
  | goto l => exact ⟨_, s1, H1, hq, fun c hb => awp_block (awp_mono (hx c hb) (by rintro _ _ _ ⟨rfl, rfl, rfl⟩; exact ⟨rfl, rfl, rfl⟩))⟩
  | ret => exact ⟨_, s1, H1, hq, fun c hb => awp_block (awp_mono (hx c hb) (by rintro _ _ _ ⟨rfl, rfl, rfl⟩; exact ⟨rfl, rfl, rfl⟩))⟩
  | panic ch => exact ⟨_, s1, H1, hq, fun c hb => awp_block (awp_mono (hx c hb) (by rintro _ _ _ ⟨rfl, rfl, rfl⟩; exact ⟨rfl, rfl, rfl⟩))⟩
  | outgrown => exact ⟨_, s1, H1, hq, fun c hb => awp_block (awp_mono (hx c hb) (by rintro _ _ _ ⟨rfl, rfl, rfl⟩; exact ⟨rfl, rfl, rfl⟩))⟩
inductive Path (P : Program) (b : Nat) (x : Code) {X : Type} (S : X → List AV) (T : X → List (Nat × Obj)) (N : X → Nat) (μ : X → Nat) (E : Exit × List AV × Heap) : X → Prop where
  | out (y : X) (hne : E.1 ≠ .normal) (h : ∀ c : Ctx, c.base = b → awp P c x (AtS E.1 E.2.1 E.2.2) (S y) ⟨T y, N y⟩) : Path P b x S T N μ E y
  | next (y z : X) (s : List AV) (H : Heap) (h : ∀ c : Ctx, c.base = b → awp P c x (AtS .normal s H) (S y) ⟨T y, N y⟩) (hlt : μ z < μ y) (hw : Weak b s H (S z) ⟨T z, N z⟩) (hz : Path P b x S T N μ E z) : Path P b x S T N μ E y
end
section
variable {P : Program} {Γ : FuncId → Option CSpec} {b : Nat} {sl sl1 sl2 sl' : List AV} {tab tab1 tab2 tab' : List (Nat × Obj)} {n n' n1 n2 m k k1 : Nat} {ops : Array Oper} {Q : Exit → List AV → Heap → Prop} {id : Nat} {om : Oper}
end
end Go.Ab
namespace Go.Ab
open Go Go.RowKit
theorem conv_agg {c : Ctx} {H : Heap} {θ : Nat → Value} {w : World} (hs : HSim c H θ w) {l : List AV} {ds : List D} (h : ConvL H l (ds.map .data)) (ho : ds.all D.one = true) {v : Value} (hx : VR H θ w (vis c H θ w) (.agg l) v) : VR H θ w (vis c H θ w) (.data (.agg ds)) v := by
  obtain ⟨hl, hat⟩ := h.at
  simp only [List.length_map] at hl
  cases hx with
  | agg _ vs u hz hv hh =>
    refine .data _ _ (.agg ds vs u (by rw [hz, hl]) (fun d hd => List.all_eq_true.1 ho d hd) (fun i hi => (hv i (by omega)).1) fun i hi => ?_)
    have h1 := (hat i (by simpa using hi) (by omega)).sound hs (hh i (by omega))
    simp only [List.getElem_map] at h1
    cases h1 with
    | data _ _ hd => exact hd
theorem Weak.agg1 {b : Nat} {l : List AV} {ds : List D} {H : Heap} (h : ConvL H l (ds.map .data)) (ho : ds.all D.one = true) : Weak b [.agg l] H [.data (.agg ds)] H := fun c θ w a hb hs => by
  refine ⟨θ, ⟨⟨hs.st.sim, hs.st.defers, hs.st.size, fun i x v hx hv => ?_⟩, hs.wf, hs.base⟩, Evo.refl _ _ _⟩
  match i, hx with
  | 0, hx =>
    simp only [List.getElem?_cons_zero, Option.some.injEq] at hx
    subst hx
    exact conv_agg hs.st.sim h ho (hs.st.vals 0 _ v rfl hv)
  | i + 1, hx => simp at hx
theorem Weak.boxnil {b o i : Nat} {sl : List AV} {H : Heap} {cs : List AV} (e : TypeId) {sz : Nat} (hsz : 0 < sz) (hg : H.get o = some (.box cs)) (hi : cs[i]? = some .nils) :
    Weak b sl H sl ⟨upd (upd H.tab H.next (.row e sz [])) o (.box (cs.set i (.row H.next 0))), H.next + 1⟩ := fun c θ w a hb hs => by
  have hk := hs.fresh
  have hne : o ≠ H.next := fun h => hk (.inr (by rw [← h, hg]; rfl))
  have hrow : ownsM w w.heap.size e sz (.slice none 0 0) ([] : List D).length [] := ⟨by simp, .inl ⟨rfl, rfl⟩⟩
  obtain ⟨s1, m1, l1⟩ := hs.st.sim.add (w' := w) (k := H.next) (x := .row e sz []) (val := .slice none 0 0) hk (fun _ _ => rfl) (Nat.le_refl _) (fun b hb => by simp [blk] at hb)
    (fun hvr => ⟨hsz, by simp, by simp [flat], [], ownsRow_base hrow (Nat.zero_le _), fun b hb => by simp [blk] at hb, fun i hi => by simp [flat] at hi⟩)
  have hg1 : (H.set H.next (.row e sz [])).get o = some (.box cs) := by rw [Heap.get_set, if_neg hne]; exact hg
  obtain ⟨hlt, hii⟩ := List.getElem?_eq_some_iff.1 hi
  obtain ⟨s2, m2, l2⟩ := s1.turn (w' := w) (k := o) (x0 := .box cs) (x := .box (cs.set i (.row H.next 0))) (val := updθ θ H.next (.slice none 0 0) o) hg1 rfl rfl (fun b _ _ => rfl) (Nat.le_refl _) (fun b hb => .inl hb) trivial (fun _ => rfl)
    (fun hvr => by
      obtain ⟨bk, e2, vs, h1, h2, h3, h4, h5⟩ := s1.objs o _ hg1
      refine ⟨bk, e2, vs, h1, h2, by rw [h3]; simp, h4, fun j hj u hu => ?_⟩
      have hj' : j < cs.length := by simpa using hj
      obtain ⟨h6, h7⟩ := h5 j hj' u hu
      by_cases hji : i = j
      · subst hji
        rw [hii] at h6
        cases h6
        rw [List.getElem_set_self]
        refine ⟨.row _ _ _ rfl (.inr ?_) (fun x' m' hx' hm' => ?_), rfl⟩
        · rw [Heap.get_set, if_neg (Ne.symm hne), Heap.get_set, if_pos rfl]; rfl
        · rw [Heap.get_set, if_neg (Ne.symm hne), Heap.get_set, if_pos rfl] at hx'
          cases hx'
          cases hm'
          exact ⟨Nat.le_refl _, fun _ => by simp [updθ, Ne.symm hne]⟩
      · rw [List.getElem_set_ne hji]
        exact ⟨hvr _ _ h6, h7⟩)
  have hbase := hs.base
  have hst : St c ((H.set H.next (.row e sz [])).set o (.box (cs.set i (.row H.next 0)))) (updθ (updθ θ H.next (.slice none 0 0)) o (updθ θ H.next (.slice none 0 0) o)) w sl a :=
    ⟨s2, hs.st.defers, hs.st.size, fun j y u h1 h2 => m2 y u (m1 y u (hs.st.vals j y u h1 h2))⟩
  refine ⟨_, ⟨hst.bump (n := H.next + 1) (by simp [Heap.set]), fun p hp => ?_, Nat.le_succ_of_le hbase⟩, ((l1.trans l2).trans (HLe.bump (n := H.next + 1) (by simp [Heap.set]))).evo (by rw [← hb]; exact hbase)⟩
  have hp' : (((H.set H.next (.row e sz [])).set o (.box (cs.set i (.row H.next 0)))).get p).isSome := hp
  rw [Heap.get_set] at hp'
  by_cases h : p = o
  · subst h
    exact Nat.lt_succ_of_lt (hs.wf p (by rw [hg]; rfl))
  · rw [if_neg h, Heap.get_set] at hp'
    by_cases h2 : p = H.next
    · subst h2; exact Nat.lt_succ_self _
    · rw [if_neg h2] at hp'
      exact Nat.lt_succ_of_lt (hs.wf p hp')
def enumA : Nat → List AV → List (Nat × AV)
  | _, [] => []
  | i, x :: r => (i, x) :: enumA (i + 1) r
theorem lookV_enumA : ∀ (l : List AV) (i j : Nat), lookV (enumA i l) j = if i ≤ j then (match l[j - i]? with | some x => x | none => .junk) else .junk
  | [], i, j => by simp [enumA, lookV]
  | x :: r, i, j => by
    simp only [enumA, lookV, lookV_enumA r (i + 1) j]
    by_cases h : j = i
    · subst h; simp
    · rw [if_neg h]
      by_cases h2 : i ≤ j
      · rw [if_pos h2, if_pos (by omega), show j - i = (j - (i + 1)) + 1 from by omega, List.getElem?_cons_succ]
      · rw [if_neg h2, if_neg (by omega)]
theorem start_frameA {n : Nat} {xs : List AV} (h : xs.length ≤ n) : xs ++ List.replicate (n - xs.length) .junk = frame n (enumA 0 xs) := by
  apply List.ext_getElem?
  intro j
  rw [frame_at, lookV_enumA, if_pos (Nat.zero_le _), Nat.sub_zero]
  by_cases h1 : j < xs.length
  · rw [List.getElem?_append_left h1, if_pos (by omega), List.getElem?_eq_getElem h1]
  · rw [List.getElem?_append_right (by omega), List.getElem?_replicate, List.getElem?_eq_none (by omega)]
    by_cases h2 : j < n
    · rw [if_pos (by omega), if_pos h2]
    · rw [if_neg (by omega), if_neg h2]
end Go.Ab
namespace Go.Ab
open Go Go.RowKit
section
variable {P : Program} {Γ : FuncId → Option CSpec} {c : Ctx} {H H' : Heap} {θ θ' : Nat → Value} {w w' : World} {sl : List AV} {a : Act} {o : Oper} {r : AV}
variable {ops : Array Oper} {n1 : Nat} {L : Nat → List AV} {Hs : Nat → Heap}
def allQ1 (P : Program) (Γ : FuncId → Option CSpec) (ops : Array Oper) (H : Heap) : List (List AV × Oper × AV) → Prop
  | [] => True
  | q :: qs => qval P Γ ops H q.1 q.2.1 = some q.2.2 ∧ allQ1 P Γ ops H qs
def allQ (P : Program) (Γ : FuncId → Option CSpec) (ops : Array Oper) : List Heap → List (List AV × Oper × AV) → Prop
  | [], _ => True
  | H :: hs, qs => allQ1 P Γ ops H qs ∧ allQ P Γ ops hs qs
theorem allQ1.at {ops : Array Oper} {H : Heap} : ∀ {qs : List (List AV × Oper × AV)}, allQ1 P Γ ops H qs → ∀ q ∈ qs, qval P Γ ops H q.1 q.2.1 = some q.2.2
  | [], _, q, h => by cases h
  | q' :: qs, h, q, hq => by
    rcases List.mem_cons.1 hq with rfl | hq
    · exact h.1
    · exact allQ1.at h.2 q hq
theorem allQ.at {ops : Array Oper} {qs : List (List AV × Oper × AV)} : ∀ {hs : List Heap}, allQ P Γ ops hs qs → ∀ H ∈ hs, ∀ q ∈ qs, qval P Γ ops H q.1 q.2.1 = some q.2.2
  | [], _, H, h => by cases h
  | H' :: hs, h, H, hH => by
    rcases List.mem_cons.1 hH with rfl | hH
    · exact h.1.at
    · exact allQ.at h.2 H hH
end
end Go.Ab
namespace Go.Ab
open Go Go.RowKit
end Go.Ab
