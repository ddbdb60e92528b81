/-
  One text of the proof (own work): contracts of functions of the program, by the abstract machine.
-/
import Derived.Test.YtmcgfohokniepaaRows
import Derived.Test.YtmcgfohokniepaaX19
import Derived.Test.YtmcgfohokniepaaX22
import Derived.Test.YtmcgfohokniepaaX21
set_option linter.unusedVariables false
set_option linter.unusedSimpArgs false
namespace Go.Ab
open Go Go.RowKit
def lookV : List (Nat × AV) → Nat → AV
  | [], _ => .junk
  | (k, x) :: r, i => if i = k then x else lookV r i
attribute [go_sem] lookV
def frame (n : Nat) (t : List (Nat × AV)) : List AV := (List.range n).map (lookV t)
theorem frame_len (n : Nat) (t : List (Nat × AV)) : (frame n t).length = n := by simp [frame]
@[go_sem] theorem frame_at (n : Nat) (t : List (Nat × AV)) (i : Nat) : (frame n t)[i]? = if i < n then some (lookV t i) else none := by
  unfold frame
  rw [List.getElem?_map]
  by_cases h : i < n
  · rw [List.getElem?_range h, if_pos h]; rfl
  · rw [List.getElem?_eq_none (by simpa using h), if_neg h]; rfl
@[go_sem] theorem frame_get (n : Nat) (t : List (Nat × AV)) (i : Nat) : (frame n t).getD i .junk = if i < n then lookV t i else .junk := by
  rw [List.getD_eq_getElem?_getD, frame_at]
  split <;> rfl
@[go_sem] theorem frame_set (n : Nat) (t : List (Nat × AV)) (i : Nat) (x : AV) : (frame n t).set i x = if i < n then frame n ((i, x) :: t) else frame n t := by
  apply List.ext_getElem?
  intro j
  rw [List.getElem?_set, frame_len]
  split
  · rename_i h
    subst h
    split <;> simp [frame_at, lookV, *]
  · rename_i h
    by_cases h2 : i < n
    · have h3 : ¬ j = i := fun e => h e.symm
      rw [if_pos h2, frame_at, frame_at]
      simp [lookV, h3]
    · rw [if_neg h2]
def enumV : Nat → List D → List (Nat × AV)
  | _, [] => []
  | i, d :: r => (i, .data d) :: enumV (i + 1) r
theorem lookV_enum : ∀ (l : List D) (i j : Nat), lookV (enumV i l) j = if i ≤ j then (match l[j - i]? with | some d => .data d | none => .junk) else .junk
  | [], i, j => by simp [enumV, lookV]
  | d :: r, i, j => by
    simp only [enumV, lookV, lookV_enum r (i + 1) j]
    by_cases h : j = i
    · subst h; simp
    · rw [if_neg h]
      by_cases h2 : i ≤ j
      · rw [if_pos h2, if_pos (by omega), show j - i = (j - (i + 1)) + 1 from by omega, List.getElem?_cons_succ]
      · rw [if_neg h2, if_neg (by omega)]
theorem start_frame {n : Nat} {ds : List D} (h : ds.length ≤ n) : start n ds = frame n (enumV 0 ds) := by
  apply List.ext_getElem?
  intro j
  rw [frame_at, lookV_enum, if_pos (Nat.zero_le _), Nat.sub_zero, start]
  by_cases h1 : j < ds.length
  · rw [List.getElem?_append_left (by simpa using h1), if_pos (by omega), List.getElem?_map, List.getElem?_eq_getElem h1]
    rfl
  · rw [List.getElem?_append_right (by simpa using h1), List.getElem?_replicate, List.getElem?_eq_none (by omega)]
    simp only [List.length_map]
    by_cases h2 : j < n
    · rw [if_pos (by omega), if_pos h2]
    · rw [if_neg (by omega), if_neg h2]
def ConvF (H : Heap) (t : List (Nat × AV)) : List (Nat × AV) → Prop
  | [] => True
  | (i, x) :: r => Conv H (lookV t i) x ∧ ConvF H t r
theorem ConvF.at {H : Heap} {t : List (Nat × AV)} : ∀ {t' : List (Nat × AV)}, ConvF H t t' → ∀ i, Conv H (lookV t i) (lookV t' i)
  | [], _, i => trivial
  | (k, x) :: r, h, i => by
    simp only [lookV]
    split
    · rename_i hk; subst hk; exact h.1
    · exact ConvF.at h.2 i
theorem ConvL_map {H : Heap} {f g : Nat → AV} (h : ∀ i, Conv H (f i) (g i)) : ∀ l : List Nat, ConvL H (l.map f) (l.map g)
  | [] => trivial
  | i :: r => ⟨h i, ConvL_map h r⟩
def refsF (n : Nat) : List (Nat × AV) → Bool
  | [] => true
  | (_, x) :: r => x.refsOK n && refsF n r
theorem refsF_at {n : Nat} : ∀ {t : List (Nat × AV)}, refsF n t = true → ∀ i, (lookV t i).refsOK n = true
  | [], _, i => rfl
  | (k, x) :: r, h, i => by
    simp only [refsF, Bool.and_eq_true] at h
    simp only [lookV]
    split
    · exact h.1
    · exact refsF_at h.2 i
theorem refsOKs_map {n : Nat} {f : Nat → AV} (h : ∀ i, (f i).refsOK n = true) : ∀ l : List Nat, refsOKs n (l.map f) = true
  | [] => rfl
  | i :: r => by simp only [List.map_cons, refsOKs, h i, refsOKs_map h r, Bool.and_self]
theorem Weak.ofF {b m : Nat} {t t' : List (Nat × AV)} {tab tab' : List (Nat × Obj)} {n n' : Nat} (hb : b ≤ n') (h1 : ConvF ⟨tab, n⟩ t t') (h2 : TabSub n' tab tab') (h3 : refsF n' t' = true) : Weak b (frame m t) ⟨tab, n⟩ (frame m t') ⟨tab', n'⟩ :=
  Weak.of hb (ConvL_map h1.at _) h2 (refsOKs_map (refsF_at h3) _)
theorem Weak.nilrowF {b m i n : Nat} {t : List (Nat × AV)} {tab : List (Nat × Obj)} (e : TypeId) {sz : Nat} (hsz : 0 < sz) (him : i < m) (hi : lookV t i = .nils) : Weak b (frame m t) ⟨tab, n⟩ (frame m ((i, .row n 0) :: t)) ⟨upd tab n (.row e sz []), n + 1⟩ := by
  have h := Weak.nilrow (b := b) (sl := frame m t) (H := ⟨tab, n⟩) (i := i) e hsz (by rw [frame_at, if_pos him, hi])
  rw [frame_set, if_pos him] at h
  exact h
end Go.Ab
namespace Go.Ab
open Go Go.RowKit
theorem ConvL.at {H : Heap} : ∀ {l r : List AV}, ConvL H l r → r.length = l.length ∧ ∀ (i : Nat) (hi : i < r.length) (hj : i < l.length), Conv H (l[i]) (r[i])
  | [], [], _ => ⟨rfl, fun i hi => by simp at hi⟩
  | x :: l, y :: r, h => by
    obtain ⟨h1, h2⟩ := ConvL.at h.2
    refine ⟨by simp [h1], fun i hi hj => ?_⟩
    cases i with
    | zero => exact h.1
    | succ i => exact h2 i (by simpa using hi) (by simpa using hj)
  | [], _ :: _, h => h.elim
  | _ :: _, [], h => h.elim
section
variable {P : Program} {Γ : FuncId → Option CSpec} {c : Ctx} {nst : Bool} {ops : Array Oper}
def runTill (P : Program) (Γ : FuncId → Option CSpec) (nst : Bool) (ops : Array Oper) : Nat → List Oper → List AV → Heap → Option (Nat × List AV × Heap)
  | k, [], sl, H => some (k, sl, H)
  | k, o :: l, sl, H => match runOp P Γ nst k ops o sl H with
    | some (sl', H') => runTill P Γ nst ops (nextK k H') l sl' H'
    | none => none
end
end Go.Ab
namespace Go.Ab
open Go Go.RowKit Go.Proofs
set_option maxRecDepth 4000
set_option maxHeartbeats 1000000
theorem mixedOK : Try.prog.follows .mixedOrders = true := by kernel_rfl
@[go_sem] abbrev i64 (n : Int) : D := .int .i64 n
@[go_sem] abbrev u64 (n : Int) : D := .int .u64 n
@[go_sem] abbrev u8 (n : Int) : D := .int .u8 n
abbrev ints (l : List Int) : D := .list (l.map i64)
theorem i64_inj (a b : Int) (h : i64 a = i64 b) : a = b := by simpa [i64] using h
theorem u64_inj (a b : Int) (h : u64 a = u64 b) : a = b := by simpa [u64] using h
def tab (n : Nat) (f : Nat → Int) : List Int := (List.range n).map f
def Γ0 : FuncId → Option CSpec := fun _ => none
theorem Γ0_ok : ∀ f s, Γ0 f = some s → SpecOK Try.prog f s := fun _ _ h => by cases h
@[go_sem] theorem dec_true {h : Decidable True} : @decide True h = true := by simp
theorem wrapu_in {n : Int} (h : 0 ≤ n) (h' : n < 18446744073709551616) : IntKind.wrap .u64 n = n := by
  simp only [IntKind.wrap, IntKind.bits, IntKind.signed, Bool.false_and, Bool.false_eq_true, if_false]
  exact Int.emod_eq_of_lt h (by simpa using h')
end Go.Ab
namespace Go.Ab
open Go Go.RowKit Go.Proofs
open Go.Proofs.Ytmcgfohokniepaa
set_option maxRecDepth 4000
mutual
theorem bulk_le {H : Type} : ∀ d : DataW H, bulk d ≤ Rows.uptoBulk d
  | .lit l => by cases l <;> simp [bulk, Rows.uptoBulk]
  | .nil => by simp [bulk, Rows.uptoBulk]
  | .ptr d => by have := bulk_le d; simp only [bulk, Rows.uptoBulk]; omega
  | .slice a b => by have := bulkAll_le a; have := bulkAll_le b; simp only [bulk, Rows.uptoBulk]; omega
  | .agg a => by have := bulkAll_le a; simp only [bulk, Rows.uptoBulk]; omega
  | .iface _ d => by have := bulk_le d; simp only [bulk, Rows.uptoBulk]; omega
  | .map es => by simp [bulk, Rows.uptoBulk]
  | .held _ => by simp [bulk, Rows.uptoBulk]
theorem bulkAll_le {H : Type} : ∀ l : List (DataW H), bulkAll l ≤ Rows.uptoBulkAll l
  | [] => by simp [bulkAll, Rows.uptoBulkAll]
  | d :: r => by have := bulk_le d; have := bulkAll_le r; simp only [bulkAll, Rows.uptoBulkAll]; omega
end
theorem trodAll_len {H : Type} {enc : TypeId × Value → H} {P : Program} {W : World} : ∀ (ts : List TypeId) (vs : List Value) (ds : List (DataW H)) (ps : List MemPlace), DataW.TrodAll enc P W 0 (fun _ => true) true ts vs ds ps → ds.length = ts.length
  | [], vs, ds, ps, h => by
    obtain ⟨rfl, rfl, rfl⟩ := ChangeShapes.trodAll_nil h
    rfl
  | t :: ts, vs, ds, ps, h => by
    obtain ⟨v, vs', d, ds', p, q, rfl, rfl, rfl, h1, h2⟩ := ChangeShapes.trodAll_cons h
    simp [trodAll_len ts vs' ds' q h2]
theorem has_str {n : Nat} {cs : List D} (h : HasTy n .str cs) : ∃ s : List UInt8, s.length ≤ n ∧ Ty.str.pack cs = .str s := by
  obtain ⟨s, hl, rfl⟩ := h
  exact ⟨s, hl, rfl⟩
theorem laid51 : laidOutB Try.prog = true := by kernel_rfl
theorem own51 : ownKnob Try.prog.godebug = none := by kernel_rfl
end Go.Ab
namespace Go.Ab
open Go Go.RowKit
def RetX (P : Program) (rs : List ResultVar) (good : D → Prop) (e : Exit) (sl : List AV) (H : Heap) : Prop := ∃ d, good d ∧ RetD P rs d e sl H
section
variable {P : Program} {c : Ctx} {H H' : Heap} {θ θ' : Nat → Value} {w w' : World} {sl : List AV} {a : Act} {o : Oper} {r : AV} {Γ : FuncId → Option CSpec}
theorem runTill_sound {ops : Array Oper} {nst : Bool} (hΓ : ∀ f s, Γ f = some s → SpecOK P f s) {Q : Exit → Act → World → Prop} {rest : List Oper} : ∀ (l : List Oper) (k k1 : Nat) (sl : List AV) (H : Heap) (θ : Nat → Value) (w : World) (a : Act) (sl' : List AV) (H' : Heap),
    runTill P Γ nst ops k l sl H = some (k1, sl', H') → St c H θ w sl a → H.bnd k → H.next ≤ k → (∀ a' w' θ', St c H' θ' w' sl' a' → H'.bnd k1 → H'.next ≤ k1 → k ≤ k1 → Kept c w w' → HLe H θ H' θ' → wpList P ops Q rest a' w') → wpList P ops Q (l ++ rest) a w
  | [], k, k1, sl, H, θ, w, a, sl', H', h, hs, hb, hn, hQ => by
    simp only [runTill, Option.some.injEq, Prod.mk.injEq] at h
    obtain ⟨rfl, rfl, rfl⟩ := h
    exact hQ a w θ hs hb hn (Nat.le_refl _) (Kept.refl c w) (HLe.refl _ _)
  | o :: l, k, k1, sl, H, θ, w, a, sl', H', h, hs, hb, hn, hQ => by
    simp only [runTill] at h
    split at h
    · rename_i sl1 H1 h1
      unfold runOp at h1
      rw [List.cons_append]
      split at h1
      · rename_i hw
        have hwant := wanted_sound hs hw
        split at h1
        · rename_i r H2 hstep
          simp only [Option.some.injEq, Prod.mk.injEq] at h1
          obtain ⟨rfl, rfl⟩ := h1
          obtain ⟨hy, hkey⟩ := astep_sound hΓ hs hb hn hstep
          refine wpList_step fun K hK => ?_
          rw [if_pos hwant]
          refine hy K Q fun v w' θ' hv hs' hk' hl' => hK _ _ ?_
          refine runTill_sound hΓ l (nextK k H2) k1 _ _ θ' w' _ sl' H' h (hs'.putA hv _) hkey.2 (nextK_ge _ _) fun a' w2 θ2 hs2 hb2 hn2 hk3 hk2 hl2 => hQ a' w2 θ2 hs2 hb2 hn2 (by have := nextK_gt k H2; omega) (hk'.trans hk2) (hl'.trans hl2)
        · cases h1
      · rename_i hw
        have hwant := wanted_sound hs hw
        simp only [Option.some.injEq, Prod.mk.injEq] at h1
        obtain ⟨rfl, rfl⟩ := h1
        refine wpList_step fun K hK => ?_
        rw [if_neg (by rw [hwant]; simp)]
        refine hK _ _ ?_
        exact runTill_sound hΓ l (nextK k H) k1 _ _ θ w _ sl' H' h (hs.putA vr_undef _) (fun p hp => by have := hb p hp; have := nextK_gt k H; omega) (nextK_ge _ _) fun a' w2 θ2 hs2 hb2 hn2 hk3 hk2 hl2 => hQ a' w2 θ2 hs2 hb2 hn2 (by have := nextK_gt k H; omega) hk2 hl2
      · cases h1
    · cases h
end
end Go.Ab
namespace Go.Ab
open Go Go.RowKit
def Keep (H H' : Heap) : Prop := ∀ o x, H.get o = some x → H'.get o = some x
def KeepT (tab' : List (Nat × Obj)) : List (Nat × Obj) → Prop
  | [] => True
  | (o, x) :: r => look tab' o = some x ∧ KeepT tab' r
theorem KeepT.keep {tab' : List (Nat × Obj)} : ∀ {tab : List (Nat × Obj)}, KeepT tab' tab → ∀ (o : Nat) (x : Obj), look tab o = some x → look tab' o = some x
  | [], _, o, x, h => by simp [look] at h
  | (p, y) :: r, ht, o, x, h => by
    simp only [KeepT] at ht
    simp only [look] at h
    split at h
    · rename_i hp
      simp only [Option.some.injEq] at h
      subst h
      subst hp
      exact ht.1
    · exact KeepT.keep ht.2 o x h
section
variable {P : Program} {Γ : FuncId → Option CSpec} {c : Ctx} {H H' : Heap} {θ θ' : Nat → Value} {w w' : World} {sl : List AV} {a : Act} {o : Oper} {r : AV}
def laneOrd (ops : Array Oper) (n1 : Nat) (bs : List Bool) : Bool := (List.range n1).all fun j => !bs.getD j false || (List.range j).all fun i => !bs.getD i false || beforeB ops 8 j i
theorem laneOrd_spec {ops : Array Oper} {n1 : Nat} {bs : List Bool} (h : laneOrd ops n1 bs = true) {i j : Nat} (hj : j < n1) (hij : i < j) (hbj : bs.getD j false = true) (hbi : bs.getD i false = true) : beforeB ops 8 j i = true := by
  simp only [laneOrd, List.all_eq_true, List.mem_range, Bool.or_eq_true, Bool.not_eq_true'] at h
  rcases h j hj with h1 | h1
  · rw [h1] at hbj; cases hbj
  rcases h1 i hij with h2 | h2
  · rw [h2] at hbi; cases hbi
  exact h2
variable {ops : Array Oper} {n1 : Nat} {L : Nat → List AV} {Hs : Nat → Heap}
theorem Keep.bump {n : Nat} (h : Keep H H') : Keep H (H'.bump n) := h
end
end Go.Ab
namespace Go.Ab
open Go Go.RowKit
def AtS (e : Exit) (sl : List AV) (H : Heap) : Exit → List AV → Heap → Prop := fun e2 s2 H2 => e2 = e ∧ s2 = sl ∧ H2 = H
def axp (P : Program) (b : Nat) (code : Code) (Q : Exit → List AV → Heap → Prop) (sl : List AV) (H : Heap) : Prop :=
  ∃ e sl' H', Q e sl' H' ∧ ∀ c : Ctx, c.base = b → awp P c code (AtS e sl' H') sl H
section
variable {P : Program} {b : Nat} {Q Q' : Exit → List AV → Heap → Prop} {sl sl' : List AV} {H H' : Heap}
theorem axp_skip (h : Q .normal sl H) : axp P b .skip Q sl H := ⟨_, _, _, h, fun _ _ => awp_skip ⟨rfl, rfl, rfl⟩⟩
theorem axp_label {l : Nat} (h : Q .normal sl H) : axp P b (.label l) Q sl H := ⟨_, _, _, h, fun _ _ => awp_label ⟨rfl, rfl, rfl⟩⟩
theorem axp_exit {id : Nat} (h : Q (.exit id) sl H) : axp P b (.exit id) Q sl H := ⟨_, _, _, h, fun _ _ => awp_exit ⟨rfl, rfl, rfl⟩⟩
theorem axp_ret (h : Q .ret sl H) : axp P b .ret Q sl H := ⟨_, _, _, h, fun _ _ => awp_ret ⟨rfl, rfl, rfl⟩⟩
theorem axp_seq {x y : Code} (h : axp P b x (thenA (axp P b y Q) Q) sl H) : axp P b (.seq x y) Q sl H := by
  obtain ⟨e, s1, H1, hq, hx⟩ := h
  cases e with
  | normal =>
    obtain ⟨e2, s2, H2, hq2, hy⟩ := hq
    refine ⟨e2, s2, H2, hq2, fun c hb => awp_seq (awp_mono (hx c hb) ?_)⟩
    rintro _ _ _ ⟨rfl, rfl, rfl⟩
    exact hy c hb
  | exit id => exact ⟨_, s1, H1, hq, fun c hb => awp_seq (awp_mono (hx c hb) (by rintro _ _ _ ⟨rfl, rfl, rfl⟩; exact ⟨rfl, rfl, rfl⟩))⟩
  | goto l => exact ⟨_, s1, H1, hq, fun c hb => awp_seq (awp_mono (hx c hb) (by rintro _ _ _ ⟨rfl, rfl, rfl⟩; exact ⟨rfl, rfl, rfl⟩))⟩
  | ret => exact ⟨_, s1, H1, hq, fun c hb => awp_seq (awp_mono (hx c hb) (by rintro _ _ _ ⟨rfl, rfl, rfl⟩; exact ⟨rfl, rfl, rfl⟩))⟩
  | panic ch => exact ⟨_, s1, H1, hq, fun c hb => awp_seq (awp_mono (hx c hb) (by rintro _ _ _ ⟨rfl, rfl, rfl⟩; exact ⟨rfl, rfl, rfl⟩))⟩
  | outgrown => exact ⟨_, s1, H1, hq, fun c hb => awp_seq (awp_mono (hx c hb) (by rintro _ _ _ ⟨rfl, rfl, rfl⟩; exact ⟨rfl, rfl, rfl⟩))⟩
theorem axp_block {id : Nat} {x : Code} (h : axp P b x (inBlockA id Q) sl H) : axp P b (.block id x) Q sl H := by
  obtain ⟨e, s1, H1, hq, hx⟩ := h
  cases e with
  | exit id' =>
    by_cases he : id' = id
    · simp only [inBlockA, if_pos he] at hq
      refine ⟨.normal, s1, H1, hq, fun c hb => awp_block (awp_mono (hx c hb) ?_)⟩
      rintro _ _ _ ⟨rfl, rfl, rfl⟩
      simp only [inBlockA, if_pos he]
      exact ⟨rfl, rfl, rfl⟩
    · simp only [inBlockA, if_neg he] at hq
      refine ⟨_, s1, H1, hq, fun c hb => awp_block (awp_mono (hx c hb) ?_)⟩
      rintro _ _ _ ⟨rfl, rfl, rfl⟩
      simp only [inBlockA, if_neg he]
      exact ⟨rfl, rfl, rfl⟩
  | normal => exact ⟨_, s1, H1, hq, fun c hb => awp_block (awp_mono (hx c hb) (by rintro _ _ _ ⟨rfl, rfl, rfl⟩; exact ⟨rfl, rfl, rfl⟩))⟩
  | goto l => exact ⟨_, s1, H1, hq, fun c hb => awp_block (awp_mono (hx c hb) (by rintro _ _ _ ⟨rfl, rfl, rfl⟩; exact ⟨rfl, rfl, rfl⟩))⟩
  | ret => exact ⟨_, s1, H1, hq, fun c hb => awp_block (awp_mono (hx c hb) (by rintro _ _ _ ⟨rfl, rfl, rfl⟩; exact ⟨rfl, rfl, rfl⟩))⟩
  | panic ch => exact ⟨_, s1, H1, hq, fun c hb => awp_block (awp_mono (hx c hb) (by rintro _ _ _ ⟨rfl, rfl, rfl⟩; exact ⟨rfl, rfl, rfl⟩))⟩
  | outgrown => exact ⟨_, s1, H1, hq, fun c hb => awp_block (awp_mono (hx c hb) (by rintro _ _ _ ⟨rfl, rfl, rfl⟩; exact ⟨rfl, rfl, rfl⟩))⟩
theorem axp_cond {cond : Operand} {tc ec : Code} {v : Bool} (hc : aev sl cond = .data (.bool v)) (ht : v = true → axp P b tc Q sl H) (he : v = false → axp P b ec Q sl H) : axp P b (.cond cond tc ec) Q sl H := by
  cases v with
  | true =>
    obtain ⟨e, s1, H1, hq, h⟩ := ht rfl
    exact ⟨e, s1, H1, hq, fun c hb => awp_cond_t hc (h c hb)⟩
  | false =>
    obtain ⟨e, s1, H1, hq, h⟩ := he rfl
    exact ⟨e, s1, H1, hq, fun c hb => awp_cond_f hc (h c hb)⟩
theorem axp_cond_t {cond : Operand} {tc ec : Code} (hc : aev sl cond = .data (.bool true)) (ht : axp P b tc Q sl H) : axp P b (.cond cond tc ec) Q sl H := axp_cond hc (fun _ => ht) (fun h => by cases h)
theorem axp_cond_f {cond : Operand} {tc ec : Code} (hc : aev sl cond = .data (.bool false)) (he : axp P b ec Q sl H) : axp P b (.cond cond tc ec) Q sl H := axp_cond hc (fun h => by cases h) (fun _ => he)
theorem axp_weak {code : Code} (h : Weak b sl H sl' H') (k : axp P b code Q sl' H') : axp P b code Q sl H := by
  obtain ⟨e, s1, H1, hq, k⟩ := k
  exact ⟨e, s1, H1, hq, fun c hb => awp_weak (by rw [hb]; exact h) (k c hb)⟩
inductive Path (P : Program) (b : Nat) (x : Code) {X : Type} (S : X → List AV) (T : X → List (Nat × Obj)) (N : X → Nat) (μ : X → Nat) (E : Exit × List AV × Heap) : X → Prop where
  | out (y : X) (hne : E.1 ≠ .normal) (h : ∀ c : Ctx, c.base = b → awp P c x (AtS E.1 E.2.1 E.2.2) (S y) ⟨T y, N y⟩) : Path P b x S T N μ E y
  | next (y z : X) (s : List AV) (H : Heap) (h : ∀ c : Ctx, c.base = b → awp P c x (AtS .normal s H) (S y) ⟨T y, N y⟩) (hlt : μ z < μ y) (hw : Weak b s H (S z) ⟨T z, N z⟩) (hz : Path P b x S T N μ E z) : Path P b x S T N μ E y
theorem axp_loop_atN {X : Type} {x : Code} (S : X → List AV) (T : X → List (Nat × Obj)) (N : X → Nat) (I : X → Prop) (μ : X → Nat) (x0 : X) (hI : I x0) (h0 : Weak b sl H (S x0) ⟨T x0, N x0⟩)
    (round : ∀ y, I y → axp P b x (thenA (fun sl' H' => ∃ z, I z ∧ μ z < μ y ∧ Weak b sl' H' (S z) ⟨T z, N z⟩) Q) (S y) ⟨T y, N y⟩) : axp P b (.loop x) Q sl H := by
  have key : ∀ n y, I y → μ y = n → ∃ E : Exit × List AV × Heap, Q E.1 E.2.1 E.2.2 ∧ Path P b x S T N μ E y := by
    intro n
    induction n using Nat.strongRecOn with
    | _ n ih =>
      intro y hy hn
      obtain ⟨e, s1, H1, hq, h⟩ := round y hy
      cases e with
      | normal =>
        obtain ⟨z, hz, hlt, hw⟩ := hq
        obtain ⟨E, hE, hp⟩ := ih _ (hn ▸ hlt) z hz rfl
        exact ⟨E, hE, .next y z s1 H1 h hlt hw hp⟩
      | exit id => exact ⟨(.exit id, s1, H1), hq, .out y (by simp) h⟩
      | goto l => exact ⟨(.goto l, s1, H1), hq, .out y (by simp) h⟩
      | ret => exact ⟨(.ret, s1, H1), hq, .out y (by simp) h⟩
      | panic ch => exact ⟨(.panic ch, s1, H1), hq, .out y (by simp) h⟩
      | outgrown => exact ⟨(.outgrown, s1, H1), hq, .out y (by simp) h⟩
  obtain ⟨⟨e, s1, H1⟩, hE, hp⟩ := key _ x0 hI rfl
  refine ⟨e, s1, H1, hE, fun c hb => ?_⟩
  refine awp_loop_atN (c := c) S T N (Path P b x S T N μ (e, s1, H1)) μ x0 hp (by rw [hb]; exact h0) fun y hy => ?_
  cases hy with
  | out _ hne h =>
    refine awp_mono (h c hb) fun e' s' H' he => ?_
    obtain ⟨he1, he2, he3⟩ := he
    rw [he1, he2, he3]
    dsimp only at hne ⊢
    cases e with
    | normal => exact absurd rfl hne
    | exit id => exact ⟨rfl, rfl, rfl⟩
    | goto l => exact ⟨rfl, rfl, rfl⟩
    | ret => exact ⟨rfl, rfl, rfl⟩
    | panic ch => exact ⟨rfl, rfl, rfl⟩
    | outgrown => exact ⟨rfl, rfl, rfl⟩
  | next _ z s H h hlt hw hz =>
    refine awp_mono (h c hb) ?_
    rintro _ _ _ ⟨rfl, rfl, rfl⟩
    exact ⟨z, hz, hlt, by rw [hb]; exact hw⟩
theorem axp_loop_at {X : Type} {x : Code} (S : X → List AV) (T : X → List (Nat × Obj)) (N : Nat) (I : X → Prop) (μ : X → Nat) (x0 : X) (hI : I x0) (h0 : Weak b sl H (S x0) ⟨T x0, N⟩)
    (round : ∀ y, I y → axp P b x (thenA (fun sl' H' => ∃ z, I z ∧ μ z < μ y ∧ Weak b sl' H' (S z) ⟨T z, N⟩) Q) (S y) ⟨T y, N⟩) : axp P b (.loop x) Q sl H := axp_loop_atN S T (fun _ => N) I μ x0 hI h0 round
end
section
variable {P : Program} {Γ : FuncId → Option CSpec} {b : Nat} {sl sl1 sl2 sl' : List AV} {tab tab1 tab2 tab' : List (Nat × Obj)} {n n' n1 n2 m k k1 : Nat} {ops : Array Oper} {Q : Exit → List AV → Heap → Prop} {id : Nat} {om : Oper}
theorem axp_reg (hΓ : ∀ f s, Γ f = some s → SpecOK P f s) (h : runOps P Γ false ops n ops.toList sl ⟨tab, n⟩ = some (sl', ⟨tab', m⟩)) (hQ : Q .normal sl' ⟨tab', m⟩) : axp P b (.region id ops false) Q sl ⟨tab, n⟩ :=
  ⟨_, _, _, hQ, fun _ _ => awp_reg hΓ h ⟨rfl, rfl, rfl⟩⟩
theorem axp_regf (hmix : P.follows .mixedOrders = true) (hΓ : ∀ f s, Γ f = some s → SpecOK P f s) (hd : drawOK ops ops.size = true) (h1 : qruns P Γ ops ⟨tab, n⟩ ops.toList sl = some sl')
    (hn : n + ops.size = m) (hQ : Q .normal sl' ⟨tab, m⟩) : axp P b (.region id ops true) Q sl ⟨tab, n⟩ :=
  ⟨_, _, _, hQ, fun _ _ => awp_regf hmix hΓ hd h1 hn ⟨rfl, rfl, rfl⟩⟩
end
theorem pure_ex {P : Program} {X : Type} {enc : X → List D} {dom : X → Prop} {good : X → D → Prop} {f : FuncId} {fn : Func} {code : Code} {n : Nat} {rs : List ResultVar} {fl : Bool} (hf : P.funcs[f]? = some fn) (hname : (fn.name == "runtime.NumGoroutine") = false)
    (hb : fn.body = some code) (hn : fn.ntmps = n) (hrs : fn.results.toList = rs) (inj : ∀ x y, enc x = enc y → x = y)
    (h : ∀ x, dom x → (fl = true → ∀ d, good x d → d.Flat) ∧ axp P 0 code (RetX P rs (good x)) (start n (enc x)) emptyH) : ∃ g : List D → Option D, PureOK P f fl g ∧ ∀ x, dom x → ∃ d, good x d ∧ g (enc x) = some d := by
  have h1 : ∀ x : X, ∃ d : D, dom x → good x d ∧ ∀ c : Ctx, c.base = 0 → awp P c code (RetD P rs d) (start n (enc x)) emptyH := fun x => by
    by_cases hx : dom x
    · obtain ⟨_, e, s1, H1, ⟨d, hg, hr⟩, hc⟩ := h x hx
      refine ⟨d, fun _ => ⟨hg, fun c hcb => awp_mono (hc c hcb) ?_⟩⟩
      rintro _ _ _ ⟨rfl, rfl, rfl⟩
      exact hr
    · exact ⟨default, fun hx' => absurd hx' hx⟩
  obtain ⟨out, hout⟩ := Classical.axiomOfChoice h1
  refine ⟨encSpec enc dom out, pure_enc hf hname hb hn hrs fun x hx => ⟨fun hfl => (h x hx).1 hfl _ (hout x hx).1, (hout x hx).2⟩, fun x hx => ⟨out x, (hout x hx).1, encSpec_eq hx fun y hy => by rw [inj _ _ hy]⟩⟩
def RetLX (P : Program) (rs : List ResultVar) (b : Nat) (good : AV → List Obj → Prop) (e : Exit) (sl : List AV) (H : Heap) : Prop := ∃ r os, good r os ∧ RetL P rs b r os e sl H
theorem loc_ex {P : Program} {X : Type} {enc : X → List AV} {eno : X → List Obj} {dom : X → Prop} {good : X → AV → List Obj → Prop} {f : FuncId} {fn : Func} {code : Code} {n : Nat} {rs : List ResultVar} (hf : P.funcs[f]? = some fn) (hname : (fn.name == "runtime.NumGoroutine") = false)
    (hb : fn.body = some code) (hn : fn.ntmps = n) (hrs : fn.results.toList = rs) (inj : ∀ x y, enc x = enc y → eno x = eno y → x = y)
    (h : ∀ x, dom x → axp P (eno x).length code (RetLX P rs (eno x).length (good x)) (enc x ++ List.replicate (n - (enc x).length) .junk) ⟨enumO 0 (eno x), (eno x).length⟩) :
    ∃ g : List AV → List Obj → Option (AV × List Obj), LocOK P f g ∧ ∀ x, dom x → ∃ r os, good x r os ∧ g (enc x) (eno x) = some (r, os) := by
  have h1 : ∀ x : X, ∃ p : AV × List Obj, dom x → good x p.1 p.2 ∧ ∀ c : Ctx, c.base = (eno x).length → awp P c code (RetL P rs (eno x).length p.1 p.2) (enc x ++ List.replicate (n - (enc x).length) .junk) ⟨enumO 0 (eno x), (eno x).length⟩ := fun x => by
    by_cases hx : dom x
    · obtain ⟨e, s1, H1, ⟨r, os, hg, hr⟩, hc⟩ := h x hx
      refine ⟨(r, os), fun _ => ⟨hg, fun c hcb => awp_mono (hc c hcb) ?_⟩⟩
      rintro _ _ _ ⟨rfl, rfl, rfl⟩
      exact hr
    · exact ⟨(.junk, []), fun hx' => absurd hx' hx⟩
  obtain ⟨out, hout⟩ := Classical.axiomOfChoice h1
  classical
  refine ⟨fun xs os => if h : ∃ x, enc x = xs ∧ eno x = os ∧ dom x then some (out h.choose) else none, loc_of_awp hf hname hb hn hrs fun xs os r os' hg _ c hcb => ?_, fun x hx => ⟨(out x).1, (out x).2, (hout x hx).1, ?_⟩⟩
  · split at hg
    · rename_i hh
      obtain ⟨e1, e2, hd⟩ := hh.choose_spec
      simp only [Option.some.injEq] at hg
      have h2 := (hout _ hd).2 c (by rw [e2]; exact hcb)
      rw [e1, e2, hg] at h2
      exact h2
    · cases hg
  · have hh : ∃ y, enc y = enc x ∧ eno y = eno x ∧ dom y := ⟨x, rfl, rfl, hx⟩
    dsimp only
    rw [dif_pos hh]
    obtain ⟨e1, e2, _⟩ := hh.choose_spec
    rw [inj _ _ e1 e2]
end Go.Ab
namespace Go.Ab
open Go Go.RowKit
def enumA : Nat → List AV → List (Nat × AV)
  | _, [] => []
  | i, x :: r => (i, x) :: enumA (i + 1) r
theorem lookV_enumA : ∀ (l : List AV) (i j : Nat), lookV (enumA i l) j = if i ≤ j then (match l[j - i]? with | some x => x | none => .junk) else .junk
  | [], i, j => by simp [enumA, lookV]
  | x :: r, i, j => by
    simp only [enumA, lookV, lookV_enumA r (i + 1) j]
    by_cases h : j = i
    · subst h; simp
    · rw [if_neg h]
      by_cases h2 : i ≤ j
      · rw [if_pos h2, if_pos (by omega), show j - i = (j - (i + 1)) + 1 from by omega, List.getElem?_cons_succ]
      · rw [if_neg h2, if_neg (by omega)]
theorem start_frameA {n : Nat} {xs : List AV} (h : xs.length ≤ n) : xs ++ List.replicate (n - xs.length) .junk = frame n (enumA 0 xs) := by
  apply List.ext_getElem?
  intro j
  rw [frame_at, lookV_enumA, if_pos (Nat.zero_le _), Nat.sub_zero]
  by_cases h1 : j < xs.length
  · rw [List.getElem?_append_left h1, if_pos (by omega), List.getElem?_eq_getElem h1]
  · rw [List.getElem?_append_right (by omega), List.getElem?_replicate, List.getElem?_eq_none (by omega)]
    by_cases h2 : j < n
    · rw [if_pos (by omega), if_pos h2]
    · rw [if_neg (by omega), if_neg h2]
theorem retl_x {P : Program} {rs : List ResultVar} {b : Nat} {good : AV → List Obj → Prop} {e : Exit} {sl : List AV} {H : Heap} {r x : AV} {os : List Obj} (he : Exit.over e = true) (hx : resA P rs sl H = some x) (hw : Weak b [x] H [r] ⟨enumO 0 os, os.length⟩) (hg : good r os) : RetLX P rs b good e sl H := ⟨r, os, hg, he, x, hx, hw⟩
end Go.Ab
