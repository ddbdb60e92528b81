/-
  One text of the proof (own work): contracts of functions of the program, by the abstract machine.
-/
import Derived.RangeFuncNested
import Derived.RangeFuncBound
import Derived.RangeFuncCalls
import Derived.RangeFuncLeaves
import Derived.RangeFuncBox
import Derived.Shelf.Abstract
import Derived.WalkKit
import Derived.OwnWalkIn
import Derived.TacticsInMore
import Derived.LoopNIn
import Derived.LoopIn
import Derived.Lib.Join
import Derived.Lib.SlTrimSet
import Derived.Test.YtlfmbcjjojedgaaGreatDoorX21
import Derived.Test.YtlfmbcjjojedgaaGreatDoorX19
set_option linter.unusedVariables false
set_option linter.unusedSimpArgs false
namespace Go.Ab
open Go Go.RowKit Go.Proofs
set_option maxRecDepth 4000
set_option maxHeartbeats 1000000
theorem mixedOK : Tryz.prog.follows .mixedOrders = true := by kernel_rfl
@[go_sem] abbrev i64 (n : Int) : D := .int .i64 n
@[go_sem] abbrev u8 (n : Int) : D := .int .u8 n
abbrev ints (l : List Int) : D := .list (l.map i64)
def Γ0 : FuncId → Option CSpec := fun _ => none
theorem Γ0_ok : ∀ f s, Γ0 f = some s → SpecOK Tryz.prog f s := fun _ _ h => by cases h
def Γl : List (FuncId × CSpec) → FuncId → Option CSpec
  | [], _ => none
  | (k, s) :: r, f => if f = k then some s else Γl r f
attribute [go_sem] Γl
theorem Γn : ∀ f s, Γl [] f = some s → SpecOK Tryz.prog f s := fun _ _ h => by cases h
theorem Γcons {k : FuncId} {s : CSpec} {r : List (FuncId × CSpec)} (h : SpecOK Tryz.prog k s) (hr : ∀ f s, Γl r f = some s → SpecOK Tryz.prog f s) : ∀ f s', Γl ((k, s) :: r) f = some s' → SpecOK Tryz.prog f s' := fun f s' hf => by
  simp only [Γl] at hf
  split at hf
  · rename_i hk; subst hk; cases hf; exact h
  · exact hr f s' hf
theorem Γp {k : FuncId} {fl : Bool} {g : List D → Option D} {r : List (FuncId × CSpec)} (h : PureOK Tryz.prog k fl g) (hr : ∀ f s, Γl r f = some s → SpecOK Tryz.prog f s) : ∀ f s', Γl ((k, .pure fl g) :: r) f = some s' → SpecOK Tryz.prog f s' := Γcons h hr
theorem Γo {k : FuncId} {g : List D → Option (TypeId × Nat × List D)} {r : List (FuncId × CSpec)} (h : OwnOK Tryz.prog k g) (hr : ∀ f s, Γl r f = some s → SpecOK Tryz.prog f s) : ∀ f s', Γl ((k, .own g) :: r) f = some s' → SpecOK Tryz.prog f s' := Γcons h hr
theorem Γq {k : FuncId} {g : List AV → List Obj → Option (AV × List Obj)} {r : List (FuncId × CSpec)} (h : LocOK Tryz.prog k g) (hr : ∀ f s, Γl r f = some s → SpecOK Tryz.prog f s) : ∀ f s', Γl ((k, .loc g) :: r) f = some s' → SpecOK Tryz.prog f s' := Γcons h hr
theorem pure_void {X : Type} {enc : X → List D} {dom : X → Prop} {out : X → D} {P : Program} {f : FuncId} {fl : Bool} (h : ∀ x, ¬ dom x) : PureOK P f fl (encSpec enc dom out) := fun ds d hd => by
  obtain ⟨x, _, hx, _⟩ := encSpec_some hd
  exact absurd hx (h x)
@[go_sem] theorem dec_true {h : Decidable True} : @decide True h = true := by simp
theorem map_ie {α : Type} {e : α → D} (he : ∀ a b, e a = e b → a = b) (l m : List α) : (l.map e = m.map e) = (l = m) := propext ⟨fun h => List.map_inj_right he |>.1 h, fun h => by rw [h]⟩
theorem strs_ie (a b : List (List UInt8)) : (a.map D.str = b.map D.str) = (a = b) := map_ie (fun x y h => by simpa using h) a b
theorem inj_ie (a b : List (List UInt8)) : (a.map D.str = b.map D.str) = (a = b) := strs_ie a b
abbrev Bs := List UInt8
@[go_sem] theorem elemsOK_str (l : List (List UInt8)) : elemsOK 1 (l.map D.str) = true := elemsOK_map (f := D.str) (fun _ => ⟨by rfl, by rfl⟩) l
theorem bound_int {k : IntKind} {n d top : Nat} (h : n ≤ top) : bound (some (.data (.int k (n : Int)))) d top = some n := by
  simp only [bound]
  rw [if_pos ⟨by omega, by omega⟩, Int.toNat_natCast]
theorem cutS_from {k : IntKind} {s : List UInt8} {a : Nat} (h1 : a ≤ s.length) : cutS s (some (.data (.int k a))) none = some (s.drop a) := by
  unfold cutS
  simp only [bound]
  rw [if_pos ⟨by omega, by omega⟩, Int.toNat_natCast]
  dsimp only
  rw [List.take_of_length_le (by simp)]
theorem cutS_to {k : IntKind} {s : List UInt8} {b : Nat} (h2 : b ≤ s.length) : cutS s none (some (.data (.int k b))) = some (s.take b) := by
  unfold cutS
  rw [bound_int h2]
  simp only [bound, Nat.sub_zero, List.drop_zero]
end Go.Ab
namespace Go.Ab
open Go Go.RowKit
def D.val : D → Value
  | .int k n => .int k n
  | .bool b => .bool b
  | .str s => .string ⟨s.toArray⟩
  | _ => undef
def D.scalar : D → Bool
  | .int _ _ => true
  | .bool _ => true
  | .str _ => true
  | _ => false
theorem scalar_val {w : World} {B : Nat → Prop} {d : D} {v : Value} (hs : d.scalar = true) (h : DR w B d v) : v = d.val := by
  cases h <;> first | rfl | cases hs
theorem scalar_reads {w : World} {B : Nat → Prop} {d : D} (hs : d.scalar = true) : DR w B d d.val := by
  cases d <;> first | exact .int _ _ | exact .bool _ | exact .str _ | cases hs
theorem scalar_flat {d : D} (hs : d.scalar = true) : d.Flat := by
  cases d <;> first | exact .int _ _ | exact .bool _ | exact .str _ | cases hs
theorem pure_calls {P : Program} {f : FuncId} {fn : Func} {X : Type} {enc : X → List D} {dom : X → Prop} {out : X → D} {fl : Bool} (hf : P.funcs[f]? = some fn) (hname : (fn.name == "runtime.NumGoroutine") = false) (hb : fn.body.isNone = false)
    (hsc : ∀ x, (enc x).all D.scalar = true ∧ (out x).scalar = true) (h : ∀ x, dom x → ∀ w : World, Calls P f ((enc x).map D.val).toArray w fun e w' => e = .returned (out x).val ∧ Below w.heap.size w w') : PureOK P f fl (encSpec enc dom out) := by
  intro ds d hd
  obtain ⟨x, rfl, hx, rfl⟩ := encSpec_some hd
  obtain ⟨h1, h2⟩ := hsc x
  refine ⟨fun _ => scalar_flat h2, fun w B vs hB hz hvs => ⟨⟨fn, hf, hname, hb⟩, ?_⟩⟩
  have hvs2 : vs = ((enc x).map D.val).toArray := by
    apply Array.ext_getElem?
    intro i
    by_cases hi : i < (enc x).length
    · have hi2 : i < vs.size := by omega
      have h3 := hvs i hi vs[i] (Array.getElem?_eq_getElem hi2)
      rw [Array.getElem?_eq_getElem hi2, scalar_val (List.all_eq_true.1 h1 _ (List.getElem_mem hi)) h3]
      simp [hi]
    · rw [Array.getElem?_eq_none (by omega), Array.getElem?_eq_none (by simp; omega)]
  rw [hvs2]
  refine (h x hx w).mono ?_
  rintro e w' ⟨rfl, hbl⟩
  exact ⟨_, rfl, scalar_reads h2, hbl⟩
end Go.Ab
namespace Go.Ab
open Go Go.RowKit Go.Proofs
set_option maxRecDepth 10000
set_option maxHeartbeats 4000000
def D.valT : D → Value
  | .agg cs => .agg (cs.map D.val).toArray
  | d => d.val
def D.flatT : D → Bool
  | .agg cs => cs.all D.scalar
  | d => d.scalar
theorem flatT_ne {d : D} (h : ∀ cs, d ≠ .agg cs) : d.flatT = d.scalar ∧ d.valT = d.val := by
  cases d with
  | agg cs => exact absurd rfl (h cs)
  | _ => exact ⟨rfl, rfl⟩
theorem valT_eq {w : World} {B : Nat → Prop} {d : D} {v : Value} (hs : d.flatT = true) (h : DR w B d v) : v = d.valT := by
  by_cases hd : ∀ cs, d ≠ .agg cs
  · obtain ⟨h1, h2⟩ := flatT_ne hd
    rw [h1] at hs
    rw [h2]
    exact scalar_val hs h
  · simp only [ne_eq, Classical.not_forall, Classical.not_not] at hd
    obtain ⟨cs, rfl⟩ := hd
    obtain ⟨vs, u, rfl, hz, _, hv, hh⟩ := h.agg_inv
    show Value.agg vs = .agg (cs.map D.val).toArray
    congr 1
    apply Array.ext_getElem?
    intro i
    by_cases hi : i < cs.length
    · rw [hv i hi, scalar_val (List.all_eq_true.1 hs _ (List.getElem_mem hi)) (hh i hi)]
      simp [hi]
    · rw [Array.getElem?_eq_none (by omega), Array.getElem?_eq_none (by simp; omega)]
theorem tup_val {w : World} {B : Nat → Prop} {ds : List D} {v : Value} (hs : ds.all D.flatT = true) (h : DR w B (.tup ds) v) : v = .tuple (ds.map D.valT).toArray := by
  cases h with
  | tup _ vs u hz hv hh =>
    congr 1
    apply Array.ext_getElem?
    intro i
    by_cases hi : i < ds.length
    · rw [hv i hi, valT_eq (List.all_eq_true.1 hs _ (List.getElem_mem hi)) (hh i hi)]
      simp [hi]
    · rw [Array.getElem?_eq_none (by omega), Array.getElem?_eq_none (by simp; omega)]
theorem PureOK.vals {P : Program} {f : FuncId} {fl : Bool} {g : List D → Option D} (h : PureOK P f fl g) {ds : List D} {d : D} (hg : g ds = some d) (hs : ds.all D.scalar = true) (w : World) :
    Calls P f (ds.map D.val).toArray w fun e w' => ∃ v, e = .returned v ∧ DR w' (fun b => w.heap.size ≤ b ∧ b < w'.heap.size) d v ∧ Below w.heap.size w w' := by
  refine ((h _ _ hg).2 w (fun _ => False) (ds.map D.val).toArray (fun _ hb => hb.elim) (by simp) (fun i hi u hu => ?_)).2.mono ?_
  · have : u = (ds[i]).val := by
      simp [hi] at hu
      exact hu.symm
    rw [this]
    exact scalar_reads (List.all_eq_true.1 hs _ (List.getElem_mem hi))
  · rintro e w' ⟨v, rfl, hv, hb⟩
    refine ⟨v, rfl, hv.mono fun b hb2 => ⟨?_, rfl⟩, hb⟩
    rcases hb2 with hb2 | hb2
    · exact hb2.elim
    · exact hb2
theorem PureOK.valsT {P : Program} {f : FuncId} {fl : Bool} {g : List D → Option D} (h : PureOK P f fl g) {ds es : List D} (hg : g ds = some (.tup es)) (hs : ds.all D.scalar = true) (he : es.all D.flatT = true) (w : World) :
    Calls P f (ds.map D.val).toArray w fun e w' => e = .returned (.tuple (es.map D.valT).toArray) ∧ Below w.heap.size w w' := by
  refine (h.vals hg hs w).mono ?_
  rintro e w' ⟨v, rfl, hv, hb⟩
  exact ⟨by rw [tup_val he hv], hb⟩
end Go.Ab
namespace Go.Ab
open Go Go.RowKit Go.Proofs Go.Shelf
set_option maxRecDepth 100000
set_option maxHeartbeats 4000000
section
variable {F : Fence} {n : Nat} {P : Program}
def Gives {α : Type} (F : Fence) (n : Nat) (P : Program) (gf : Nat) (lb : Array Value) (encs : α → Array Value) (Kp : World → World → Prop) (cb : Nat) (S : List α → Prop) (Px : α → Prop) (N : Nat) (w0 : World) : Prop :=
  ∀ (l : Nat) (J : List α → World → Prop) (W : World), Below w0.heap.size w0 W → (∀ s A v, J s A → J s (A.setCell ⟨cb, 0, none⟩ v)) → (∀ s A B, J s A → A.grownBy B none → J s B) →
    (∀ pre x A, J pre A → pre.length < N → Px x → YieldAt F (n - 1) P l (encs x) A fun e B => e = .returned (.bool true) ∧ J (pre ++ [x]) B ∧ Kp A B) → J [] W →
    CallsIn F n P gf (#[.func (.yield l) #[] #[]] ++ lb) W fun e B => (∃ v, e = .returned v) ∧ ∃ xs, S xs ∧ J xs B
theorem wpIn_range {α : Type} {g : Operand} {ps : Array Tmp} {assign body : Code} {Q : Exit → Act → World → Prop} {a : Act} {w : World}
    (hro : F.round = none) (h1 : 1 ≤ n) {gf : Nat} {lb : Array Value} (hg : a.eval g = .func (.func gf) #[] lb) (hFg : F.fn gf) (eg : ∀ args w, (callFunc gf args).run P w = .ok (.enter gf args) w)
    {encs : α → Array Value} {Kp : World → World → Prop} {cb : Nat} {S : List α → Prop} {Px : α → Prop} {N : Nat} {w0 : World} (hseq : Gives F (n - 1) P gf lb encs Kp cb S Px N w0) (hcb : cb < w.heap.size)
    (hKt : ∀ {A B C : World}, Kp A B → Kp B C → Kp A C) (hKb : ∀ (W : World) (l : Nat) (o o' : Go.Obj), w.heap.size ≤ l → W.heap[l]? = some o → o.isCells = false → o.isWalk = false → Kp W (W.putObj l o'))
    (hb0 : Below w0.heap.size w0 w) (hps : ∀ x, (encs x).size = ps.size)
    (I : List α → World → Prop) (hI : OwnFrom w.heap.size I) (hIc : ∀ s A v, I s A → I s (A.setCell ⟨cb, 0, none⟩ v)) (h0 : I [] w) (a1 : α → Act)
    (hassign : ∀ (l : Nat) (x : α) (W : World) (K : Act → World → Prop), K (a1 x) W →
      assign.wpIn (F.inRound l) (n - 1 - 1) P (Exit.then K (fun _ _ _ => False)) { tmps := (ps.zip (encs x)).foldl (fun t (p, v) => t.setIfInBounds p v) a.tmps, defers := [] } W)
    (hbody : ∀ (l : Nat) (pre : List α) (x : α) (W : World), I pre W → pre.length < N → Px x → body.wpIn (F.inRound l) (n - 1 - 1) P (fun e _ W' => e = .normal ∧ KeepsFrom w.heap.size W W' ∧ Kp W W' ∧ I (pre ++ [x]) W') (a1 x) W)
    (hdone : ∀ (D : Nat) (xs : List α) (W : World), w.heap.size ≤ D → S xs → I xs W → W.heap[D]? = some (.deferred (some [])) → Q .normal { a with defers := { target := .collected D, args := #[] } :: a.defers } W) :
    (Code.rangeFunc g ps assign body).wpIn F n P Q a w := by
  refine wpIn_rangeFunc ?_
  intro fn hfn
  rw [hro]
  let R : LoopState → Loop := fun st => { state := st, pending := none, fn, tmps := a.tmps, params := ps, assign, body, defers := w.heap.size }
  obtain ⟨W1, hW1⟩ : ∃ W1, (w.alloc (.deferred (some []))).alloc (.loop (R .ready)) = W1 := ⟨_, rfl⟩
  have hl0 : W1.heap[w.heap.size + 1]? = some (.loop (R .ready)) := by
    rw [← hW1]
    have := World.alloc_heap_new (w.alloc (.deferred (some []))) (.loop (R .ready))
    rwa [World.size_alloc] at this
  have hd0 : W1.heap[w.heap.size]? = some (.deferred (some [])) := by
    rw [← hW1]
    exact (Below.heap_alloc _ _ _ (by simp)).trans (World.alloc_heap_new w _)
  have hI1 : I [] W1 := by
    rw [← hW1]
    exact hI.alloc _ (hI.alloc _ h0)
  have hb1 : Below w0.heap.size w0 W1 := by
    rw [← hW1]
    exact (hb0.alloc hb0.size _).alloc (by rw [World.size_alloc]; exact Nat.le_trans hb0.size (Nat.le_succ _)) _
  refine ⟨w.heap.size + 1, [{ target := .collected w.heap.size, args := #[] }], W1, { target := .fn (.func gf) lb, args := #[.func (.yield (w.heap.size + 1)) #[] #[]] }, W1, gf,
    #[.func (.yield (w.heap.size + 1)) #[] #[]] ++ lb, W1, ?_, ?_, ?_, ?_, fun _ => h1, ?_⟩
  · rw [← hW1]
    exact run_enterLoop_outer _ _ _ _ _
  · simp only [resolve, hg]
    simp [go_sem]
  · intro f' hf'
    simp [Target.leads] at hf'
    subst hf'
    exact hFg
  · simp [invoke, go_sem, eg]
  refine (hseq (w.heap.size + 1) (fun pre W => I pre W ∧ W.heap[w.heap.size + 1]? = some (.loop (R .ready)) ∧ W.heap[w.heap.size]? = some (.deferred (some []))) W1 hb1 ?c ?al ?y ⟨hI1, hl0, hd0⟩).mono ?e
  case c =>
    rintro s A v ⟨k1, k2, k3⟩
    exact ⟨hIc _ _ _ k1, (Below.heap_setCell _ _ _ _ (by simp; omega)).trans k2, (Below.heap_setCell _ _ _ _ (by simp; omega)).trans k3⟩
  case al =>
    rintro s A B ⟨k1, k2, k3⟩ hg
    exact ⟨hI s A B none k1 hg (fun r e => by cases e), (hg.block _ (Array.getElem?_eq_some_iff.1 k2).1 (by simp)).trans k2, (hg.block _ (Array.getElem?_eq_some_iff.1 k3).1 (by simp)).trans k3⟩
  case y =>
    rintro pre x A ⟨k1, k2, k3⟩ hlen hpx
    have hlt := (Array.getElem?_eq_some_iff.1 k2).1
    refine ⟨fn, _, assign, body, run_yield (P := P) (args := encs x) k2 (hps x), roundIn_of_wpIn hfn (hassign _ x A _ ?_)⟩
    refine ⟨_, run_beginRound k2 rfl, ?_⟩
    have b2 : (A.putObj (w.heap.size + 1) (.loop { R .ready with state := .busy })).heap[w.heap.size + 1]? = some (.loop { R .ready with state := .busy }) := World.putObj_heap_same hlt
    have b3 : (A.putObj (w.heap.size + 1) (.loop { R .ready with state := .busy })).heap[w.heap.size]? = some (.deferred (some [])) := (World.putObj_heap_other (by omega)).trans k3
    have bk : Kp A (A.putObj (w.heap.size + 1) (.loop { R .ready with state := .busy })) := hKb _ _ _ _ (by omega) k2 rfl rfl
    refine wpIn_mono (hbody _ pre x _ (hI.putObj _ k1 (by omega) k2 rfl) hlen hpx) ?_
    rintro e a3 B ⟨rfl, hk3, hkp, hi3⟩
    have c2 := hk3.same _ _ (by omega) b2 rfl
    have c3 := hk3.same _ _ (Nat.le_refl _) b3 rfl
    have hr := run_endRound (P := P) none c2
    exact ⟨_, _, hr, rfl, ⟨hI.putObj _ hi3 (by omega) c2 rfl, World.putObj_heap_same (Array.getElem?_eq_some_iff.1 c2).1, (World.putObj_heap_other (by omega)).trans c3⟩, hKt bk (hKt hkp (hKb _ _ _ _ (by omega) c2 rfl rfl))⟩
  case e =>
    rintro e B ⟨⟨v, rfl⟩, xs, hS, k1, k2, k3⟩
    exact ⟨none, _, run_endLoop (P := P) k2 (by simp [R]), hdone _ xs _ (Nat.le_refl _) hS (hI.putObj _ k1 (by omega) k2 rfl) ((World.putObj_heap_other (by omega)).trans k3)⟩
end
end Go.Ab
namespace Go.Ab
open Go Go.RowKit Go.Proofs
set_option maxRecDepth 10000
set_option maxHeartbeats 4000000
def cons1 (p : Bs) : List Bs → List Bs
  | [] => [p]
  | w :: r => (p ++ w) :: r
def splitB (c : UInt8) : Bs → List Bs
  | [] => [[]]
  | x :: r => if x == c then [] :: splitB c r else cons1 [x] (splitB c r)
theorem cons1_ne (p : Bs) (l : List Bs) : cons1 p l ≠ [] := by cases l <;> simp [cons1]
theorem splitB_ne (c : UInt8) (s : Bs) : splitB c s ≠ [] := by
  cases s with
  | nil => simp [splitB]
  | cons x r => rw [splitB]; split <;> simp [cons1_ne]
theorem cons1_len {p : Bs} {l : List Bs} (h : l ≠ []) : (cons1 p l).length = l.length := by cases l with
  | nil => exact absurd rfl h
  | cons x r => rfl
theorem splitB_len (c : UInt8) (s : Bs) : (splitB c s).length ≤ s.length + 1 := by
  induction s with
  | nil => simp [splitB]
  | cons x r ih =>
    rw [splitB]
    split
    · simp only [List.length_cons]; omega
    · rw [cons1_len (splitB_ne c r)]; simp only [List.length_cons]; omega
end Go.Ab
namespace Go.Ab
open Go Go.RowKit Go.Proofs
set_option maxRecDepth 10000
set_option maxHeartbeats 8000000
theorem jn_cons (c : Bs) (w : Bs) (l : List Bs) (h : l ≠ []) : Lib.join (w :: l) c = w ++ c ++ Lib.join l c := by
  cases l with
  | nil => exact absurd rfl h
  | cons v r => simp [Lib.join]
theorem sp_join (c : UInt8) (s : Bs) : Lib.join (splitB c s) [c] = s := by
  induction s with
  | nil => rfl
  | cons x r ih =>
    rw [splitB]
    split
    · rename_i h
      rw [jn_cons _ _ _ (splitB_ne c r), ih, eq_of_beq h]
      rfl
    · cases hs : splitB c r with
      | nil => exact absurd hs (splitB_ne c r)
      | cons w l =>
        rw [hs] at ih
        show Lib.join (([x] ++ w) :: l) [c] = _
        cases l with
        | nil => simp [Lib.join] at ih ⊢; exact ih
        | cons v q =>
          rw [jn_cons _ _ _ (by simp)] at ih ⊢
          rw [List.append_assoc, List.append_assoc, ← List.append_assoc w, ih]
          rfl
theorem sp_app (c : UInt8) : ∀ a b : Bs, splitB c (a ++ c :: b) = splitB c a ++ splitB c b
  | [], b => by
    show splitB c (c :: b) = [] :: splitB c b
    rw [splitB, if_pos (by simp)]
  | x :: a, b => by
    rw [List.cons_append, splitB, splitB, sp_app c a b]
    split
    · rfl
    · cases h : splitB c a with
      | nil => exact absurd h (splitB_ne c a)
      | cons w r => rfl
theorem sp_no {c : UInt8} : ∀ {s : Bs}, (∀ b ∈ s, b ≠ c) → splitB c s = [s]
  | [], _ => rfl
  | b :: r, h => by
    rw [splitB, if_neg (by simpa using h b (by simp)), sp_no fun d hd => h d (by simp [hd])]
    rfl
theorem sp_mem (c : UInt8) : ∀ (s : Bs), ∀ w ∈ splitB c s, ∀ b ∈ w, b ≠ c
  | [], w, hw, b, hb => by
    rw [splitB, List.mem_singleton] at hw
    subst hw
    cases hb
  | x :: r, w, hw, b, hb => by
    have ih := sp_mem c r
    rw [splitB] at hw
    split at hw
    · rcases List.mem_cons.1 hw with rfl | hw
      · cases hb
      · exact ih w hw b hb
    · rename_i hx
      cases hs : splitB c r with
      | nil => exact absurd hs (splitB_ne c r)
      | cons v q =>
        rw [hs] at hw ih
        rcases List.mem_cons.1 (show w ∈ ([x] ++ v) :: q from hw) with rfl | hw
        · rcases List.mem_append.1 hb with hb | hb
          · rw [List.mem_singleton.1 hb]; simpa using hx
          · exact ih v (by simp) b hb
        · exact ih w (by simp [hw]) b hb
theorem join_sp {c : UInt8} : ∀ {l : List Bs}, l ≠ [] → (∀ w ∈ l, ∀ b ∈ w, b ≠ c) → splitB c (Lib.join l [c]) = l
  | [], h, _ => absurd rfl h
  | [w], _, h => by rw [show Lib.join [w] [c] = w by simp [Lib.join], sp_no (h w (by simp))]
  | w :: v :: r, _, h => by
    rw [jn_cons _ _ _ (by simp), List.append_assoc, List.singleton_append, sp_app, sp_no (h w (by simp)), join_sp (by simp) (fun u hu => h u (by simp [hu]))]
    rfl
def edgeB (b : UInt8) : Bool := b == 32 || (b == 9 || (b == 42 || b == 47))
def preB (b : UInt8) : Bool := edgeB b || (b == 35 || (b == 59 || b == 45))
def trimE (s : Bs) : Bs := ((s.dropWhile edgeB).reverse.dropWhile edgeB).reverse
def okT (b : UInt8) : Bool := decide (32 ≤ b.toNat) && decide (b.toNat ≤ 126)
def isT (s : Bs) : Bool := decide (1 ≤ s.length) && (decide (s.length ≤ 200) && (trimE s == s && s.all okT))
def kLic : Bs := [76, 105, 99, 101, 110, 115, 101, 58]
def kCop : Bs := [67, 111, 112, 121, 114, 105, 103, 104, 116, 58]
def wordH (k : Int) : Bs := if k == 0 then kLic else kCop
structure Hd where
  kind : Int
  line : Int
  text : Bs
  deriving DecidableEq
def zHd : Hd := ⟨0, 0, []⟩
def hdT (n : Int) (t : Bs) : Hd × Bool :=
  if kLic.isPrefixOf t then (⟨0, n, trimE (t.drop 8)⟩, isT (trimE (t.drop 8)))
  else if kCop.isPrefixOf t then (⟨1, n, trimE (t.drop 10)⟩, isT (trimE (t.drop 10)))
  else (zHd, false)
def hdB (n : Int) (s : Bs) : Hd × Bool := hdT n (s.dropWhile preB)
def at0 (n : Int) (h : Hd) : Hd := ⟨h.kind, n, h.text⟩
theorem hdB_line (n : Int) (s : Bs) : (hdB n s).2 = (hdB 0 s).2 ∧ ((hdB 0 s).2 = true → (hdB n s).1 = at0 n (hdB 0 s).1) := by
  unfold hdB hdT
  split
  · exact ⟨rfl, fun _ => rfl⟩
  · split
    · exact ⟨rfl, fun _ => rfl⟩
    · exact ⟨rfl, fun h => by cases h⟩
theorem hdB_ok {n : Int} {s : Bs} (h : (hdB n s).2 = true) : ((hdB n s).1.kind = 0 ∨ (hdB n s).1.kind = 1) ∧ isT (hdB n s).1.text = true := by
  unfold hdB hdT at h ⊢
  split at h
  · rename_i h1; rw [if_pos h1]; exact ⟨.inl rfl, h⟩
  · rename_i h1
    rw [if_neg h1]
    split at h
    · rename_i h2; rw [if_pos h2]; exact ⟨.inr rfl, h⟩
    · cases h
def scanGo : Nat → List Bs → List Hd
  | _, [] => []
  | n, s :: r => if (hdB n s).2 then (hdB n s).1 :: scanGo (n + 1) r else scanGo (n + 1) r
def scanB (s : Bs) : List Hd := scanGo 0 (splitB 10 s)
def isK (k : Int) (h : Hd) : Bool := h.kind == k
def anyK (_ : Hd) : Bool := true
def keepB (d : Hd → Bool) (s : Bs) : Bool := !((hdB 0 s).2 && d (hdB 0 s).1)
def withoutB (d : Hd → Bool) (s : Bs) : List Bs := (splitB 10 s).filter (keepB d)
def joinB (l : List Bs) : Bs := Lib.join l [10]
def stripB (s : Bs) : Bs := joinB (withoutB anyK s)
def lineB (k : Int) (t : Bs) : Bs := [35, 32] ++ (wordH k ++ ([32] ++ t))
def writeB (k : Int) (t : Bs) : Bs × Int := if k == 0 || k == 1 then (if isT t then (lineB k t, 0) else ([], 4)) else ([], 1)
def putB (s : Bs) (k : Int) (t : Bs) : Bs × Int := if (writeB k t).2 == 0 then (joinB ((writeB k t).1 :: withoutB (isK k) s), 0) else ([], (writeB k t).2)
theorem scanGo_app : ∀ (a b : List Bs) (n : Nat), scanGo n (a ++ b) = scanGo n a ++ scanGo (n + a.length) b
  | [], b, n => rfl
  | s :: a, b, n => by
    rw [List.cons_append, scanGo, scanGo, scanGo_app a b (n + 1), List.length_cons, show n + 1 + a.length = n + (a.length + 1) by omega]
    split <;> rfl
theorem scanGo_ok : ∀ (l : List Bs) (n : Nat), ∀ h ∈ scanGo n l, (h.kind = 0 ∨ h.kind = 1) ∧ isT h.text = true ∧ (n : Int) ≤ h.line ∧ h.line < (n : Int) + l.length
  | [], _, h, hh => by cases hh
  | s :: l, n, h, hh => by
    rw [scanGo] at hh
    have ih := scanGo_ok l (n + 1) h
    split at hh
    · rename_i hs
      rcases List.mem_cons.1 hh with rfl | hh
      · obtain ⟨h1, h2⟩ := hdB_ok hs
        obtain ⟨h3, h4⟩ := hdB_line (n : Int) s
        refine ⟨h1, h2, ?_, ?_⟩
        · rw [h4 (by rw [← h3]; exact hs)]; exact Int.le_refl _
        · rw [h4 (by rw [← h3]; exact hs), List.length_cons]; show (n : Int) < _; omega
      · obtain ⟨h1, h2, h3, h4⟩ := ih hh
        rw [List.length_cons]
        exact ⟨h1, h2, by omega, by omega⟩
    · obtain ⟨h1, h2, h3, h4⟩ := ih hh
      rw [List.length_cons]
      exact ⟨h1, h2, by omega, by omega⟩
theorem isT_trim {t : Bs} (h : isT t = true) : trimE t = t ∧ t.length ≤ 200 ∧ 1 ≤ t.length ∧ ∀ b ∈ t, b ≠ 10 := by
  unfold isT at h
  simp only [Bool.and_eq_true, decide_eq_true_eq, beq_iff_eq, List.all_eq_true] at h
  obtain ⟨h1, h2, h3, h4⟩ := h
  refine ⟨h3, h2, h1, fun b hb e => ?_⟩
  subst e
  exact absurd (h4 _ hb) (by decide)
theorem keep_any {s : Bs} : keepB anyK s = !(hdB 0 s).2 := by
  unfold keepB anyK
  rw [Bool.and_true]
theorem scan_kept : ∀ (l : List Bs) (n : Nat), (∀ s ∈ l, keepB anyK s = true) → scanGo n l = []
  | [], _, _ => rfl
  | s :: l, n, h => by
    have h1 := h s (by simp)
    rw [keep_any] at h1
    rw [scanGo, if_neg (by rw [(hdB_line _ s).1]; simpa using h1), scan_kept l (n + 1) fun v hv => h v (by simp [hv])]
theorem keep_nil (d : Hd → Bool) : keepB d [] = true := by
  have : (hdB 0 []).2 = false := by decide
  unfold keepB
  rw [this]
  rfl
theorem split_filter {s : Bs} (q : Bs → Bool) (hq : q [] = true) : ∃ l, splitB 10 (joinB ((splitB 10 s).filter q)) = l ∧ l.filter q = l ∧ joinB l = joinB ((splitB 10 s).filter q) ∧ (∀ w ∈ l, q w = true) ∧ ((splitB 10 s).filter q ≠ [] → l = (splitB 10 s).filter q) ∧ ((splitB 10 s).filter q = [] → l = [[]]) := by
  by_cases h : (splitB 10 s).filter q = []
  · rw [h]
    refine ⟨[[]], rfl, ?_, rfl, ?_, fun hn => absurd rfl hn, fun _ => rfl⟩
    · rw [List.filter_cons_of_pos hq]; rfl
    · intro w hw
      rw [List.mem_singleton.1 hw]
      exact hq
  · refine ⟨(splitB 10 s).filter q, join_sp h fun w hw b hb => sp_mem 10 s w (List.mem_filter.1 hw).1 b hb, ?_, rfl, fun w hw => (List.mem_filter.1 hw).2, fun _ => rfl, fun e => absurd e h⟩
    rw [List.filter_filter]
    simp
theorem strip_scan (s : Bs) : scanB (stripB s) = [] := by
  obtain ⟨l, h1, _, _, h2, _⟩ := split_filter (s := s) (keepB anyK) (keep_nil _)
  unfold scanB stripB withoutB
  rw [h1]
  exact scan_kept l 0 h2
theorem strip_strip (s : Bs) : stripB (stripB s) = stripB s := by
  obtain ⟨l, h1, h3, h4, _⟩ := split_filter (s := s) (keepB anyK) (keep_nil _)
  show joinB ((splitB 10 (joinB ((splitB 10 s).filter (keepB anyK)))).filter (keepB anyK)) = joinB ((splitB 10 s).filter (keepB anyK))
  rw [h1, h3, h4]
def delAll (hs : List Hd) (l : List Bs) : List Bs := hs.foldr (fun h l => l.eraseIdx h.line.toNat) l
theorem delAll_snoc (a : List Hd) (h : Hd) (l : List Bs) : delAll (a ++ [h]) l = delAll a (l.eraseIdx h.line.toNat) := by
  unfold delAll
  rw [List.foldr_append]
  rfl
theorem del_lines : ∀ (n : Nat) (ls : List Bs), ls.length = n → ∀ tail : List Bs, delAll (scanGo 0 ls) (ls ++ tail) = ls.filter (keepB anyK) ++ tail
  | 0, ls, h, tail => by rw [List.eq_nil_of_length_eq_zero h]; rfl
  | n + 1, ls, h, tail => by
    rcases List.eq_nil_or_concat ls with rfl | ⟨u, s, rfl⟩
    · cases h
    · rw [List.concat_eq_append] at h ⊢
      have hu : u.length = n := by simpa using h
      obtain ⟨q1, q2⟩ := hdB_line ((0 + u.length : Nat) : Int) s
      rw [scanGo_app, List.filter_append, List.append_assoc, List.singleton_append]
      rw [show scanGo (0 + u.length) [s] = if (hdB ((0 + u.length : Nat) : Int) s).2 then [(hdB ((0 + u.length : Nat) : Int) s).1] else [] by rw [scanGo]; rfl, q1]
      cases hs : (hdB 0 s).2 with
      | true =>
        rw [if_pos rfl, delAll_snoc, q2 hs]
        rw [show (at0 ((0 + u.length : Nat) : Int) (hdB 0 s).1).line.toNat = u.length by show Int.toNat ((0 + u.length : Nat) : Int) = _; simp]
        rw [List.eraseIdx_append_of_length_le (Nat.le_refl _), Nat.sub_self, List.eraseIdx_zero, List.tail_cons, del_lines n u hu tail]
        rw [List.filter_cons_of_neg (by rw [keep_any, hs]; decide)]
        simp
      | false =>
        rw [if_neg (by decide), List.append_nil, del_lines n u hu (s :: tail), List.filter_cons_of_pos (by rw [keep_any, hs]; rfl)]
        simp
theorem del_all (s : Bs) : joinB (delAll (scanB s) (splitB 10 s)) = stripB s := by
  have := del_lines _ (splitB 10 s) rfl []
  rw [List.append_nil, List.append_nil] at this
  unfold scanB stripB withoutB
  rw [this]
theorem scanGo_pw : ∀ (l : List Bs) (n : Nat), (scanGo n l).Pairwise (fun x y => x.line < y.line)
  | [], _ => List.Pairwise.nil
  | s :: l, n => by
    have ih := scanGo_pw l (n + 1)
    rw [scanGo]
    split
    · rename_i hs
      refine List.pairwise_cons.2 ⟨fun y hy => ?_, ih⟩
      obtain ⟨_, _, h1, _⟩ := scanGo_ok l (n + 1) y hy
      obtain ⟨h3, h4⟩ := hdB_line (n : Int) s
      rw [h4 (by rw [← h3]; exact hs)]
      show (n : Int) < y.line
      omega
    · exact ih
theorem del_len (hs : List Hd) (l : List Bs) : l.length ≤ (delAll hs l).length + hs.length := by
  induction hs with
  | nil => exact Nat.le_refl _
  | cons h hs ih =>
    show l.length ≤ ((delAll hs l).eraseIdx h.line.toNat).length + (hs.length + 1)
    rw [List.length_eraseIdx]
    split <;> omega
theorem pw_room : ∀ (hs : List Hd) (m : Int), hs.Pairwise (fun x y => x.line < y.line) → (∀ h ∈ hs, h.line < m) → ∀ (i : Nat) (hi : i < hs.length), (hs[i]).line + ((hs.length - i : Nat) : Int) ≤ m
  | [], _, _, _, i, hi => by cases hi
  | h :: hs, m, hp, hm, i, hi => by
    rw [List.pairwise_cons] at hp
    cases i with
    | succ i =>
      have := pw_room hs m hp.2 (fun g hg => hm g (by simp [hg])) i (by simpa using hi)
      simpa using this
    | zero =>
      cases hs with
      | nil =>
        have := hm h (by simp)
        simp
        omega
      | cons g hs =>
        have h1 := pw_room (g :: hs) m hp.2 (fun x hx => hm x (by simp [hx])) 0 (by simp)
        have h2 := hp.1 g (by simp)
        simp only [List.getElem_cons_zero, List.length_cons, Nat.sub_zero] at h1 ⊢
        omega
theorem del_room (s : Bs) (i : Nat) (hi : i < (scanB s).length) : 0 ≤ ((scanB s)[i]).line ∧ ((scanB s)[i]).line < ((delAll ((scanB s).drop (i + 1)) (splitB 10 s)).length : Int) := by
  have h1 := scanGo_ok (splitB 10 s) 0
  have h2 := pw_room (scanB s) ((splitB 10 s).length : Int) (scanGo_pw _ _) (fun h hh => by have := h1 h hh; omega) i hi
  have h3 := del_len ((scanB s).drop (i + 1)) (splitB 10 s)
  rw [List.length_drop] at h3
  have h4 := h1 _ (List.getElem_mem hi)
  refine ⟨by omega, by omega⟩
theorem del_step (s : Bs) (i : Nat) (hi : i < (scanB s).length) : delAll ((scanB s).drop i) (splitB 10 s) = (delAll ((scanB s).drop (i + 1)) (splitB 10 s)).eraseIdx ((scanB s)[i]).line.toNat := by
  rw [List.drop_eq_getElem_cons hi]
  rfl
end Go.Ab
namespace Go.Ab
open Go Go.RowKit Go.Proofs
set_option maxRecDepth 10000
set_option maxHeartbeats 8000000
theorem dw_len (p : UInt8 → Bool) (s : Bs) : (s.dropWhile p).length ≤ s.length := (List.dropWhile_suffix p).length_le
def rTrim (p : UInt8 → Bool) (s : Bs) : Bs := (s.reverse.dropWhile p).reverse
theorem rTrim_pre (p : UInt8 → Bool) : ∀ s : Bs, ∃ t, s = rTrim p s ++ t ∧ t.all p = true := fun s => by
  unfold rTrim
  have h := List.takeWhile_append_dropWhile (p := p) (l := s.reverse)
  refine ⟨(s.reverse.takeWhile p).reverse, ?_, ?_⟩
  · rw [← List.reverse_append, h, List.reverse_reverse]
  · rw [List.all_reverse]
    exact List.all_takeWhile
theorem rTrim_cons (p : UInt8 → Bool) (x : UInt8) (s : Bs) : rTrim p (x :: s) = if rTrim p s = [] ∧ p x = true then [] else x :: rTrim p s := by
  unfold rTrim
  rw [List.reverse_cons, List.dropWhile_append]
  by_cases h : s.reverse.dropWhile p = []
  · rw [h]
    by_cases hx : p x = true
    · simp [hx]
    · simp [hx]
  · rw [if_neg (by simpa using h)]
    rw [if_neg (by simpa using fun k => absurd k h)]
    simp
theorem trim_comm (p : UInt8 → Bool) : ∀ s : Bs, (rTrim p s).dropWhile p = rTrim p (s.dropWhile p)
  | [] => rfl
  | x :: s => by
    rw [rTrim_cons, List.dropWhile_cons]
    by_cases hx : p x = true
    · rw [if_pos hx, ← trim_comm p s]
      by_cases hr : rTrim p s = []
      · rw [if_pos ⟨hr, hx⟩, hr]
      · rw [if_neg (fun k => hr k.1), List.dropWhile_cons, if_pos hx]
    · rw [if_neg hx, if_neg (fun k => hx k.2), List.dropWhile_cons, if_neg hx, rTrim_cons, if_neg (fun k => hx k.2)]
theorem trimE_r (s : Bs) : trimE s = rTrim edgeB (s.dropWhile edgeB) := rfl
theorem dw_congr {p q : UInt8 → Bool} : ∀ {s : Bs}, (∀ b ∈ s, p b = q b) → s.dropWhile p = s.dropWhile q
  | [], _ => rfl
  | x :: s, h => by
    rw [List.dropWhile_cons, List.dropWhile_cons, h x (by simp), dw_congr fun b hb => h b (by simp [hb])]
theorem lib_trim {s c : Bs} {p : UInt8 → Bool} (h : ∀ b ∈ s, c.contains b = p b) : Lib.trimS s c = rTrim p (s.dropWhile p) := by
  rw [← trim_comm]
  unfold Lib.trimS Lib.trimLeftS Lib.trimRightS
  rw [dw_congr (s := s.reverse) (q := p) fun b hb => h b (by simpa using hb)]
  show List.dropWhile _ (rTrim p s) = _
  obtain ⟨t, ht, _⟩ := rTrim_pre p s
  exact dw_congr fun b hb => h b (by rw [ht]; simp [hb])
theorem cutE (b : UInt8) : ([32, 9, 42, 47] : Bs).contains b = edgeB b := by
  unfold edgeB
  simp only [List.contains_cons, List.contains_nil, Bool.or_false]
theorem trim_prog (s : Bs) : Lib.trimS s [32, 9, 42, 47] = trimE s := lib_trim fun b _ => cutE b
theorem pre_prog (s : Bs) : Lib.trimLeftS s [32, 9, 47, 42, 35, 59, 45] = s.dropWhile preB := by
  unfold Lib.trimLeftS
  refine dw_congr fun b _ => ?_
  unfold preB edgeB
  simp only [List.contains_cons, List.contains_nil, Bool.or_false]
  cases (b == 32) <;> cases (b == 9) <;> cases (b == 47) <;> cases (b == 42) <;> cases (b == 35) <;> cases (b == 59) <;> cases (b == 45) <;> rfl
theorem trim_ok {s : Bs} (h : s.all okT = true) : Lib.trimS s [32, 42, 47] = trimE s := lib_trim fun b hb => by
  have h1 := List.all_eq_true.1 h b hb
  have h9 : (b == 9) = false := by
    cases h2 : (b == 9) with
    | false => rfl
    | true =>
      rw [eq_of_beq h2] at h1
      exact absurd h1 (by decide)
  unfold edgeB
  rw [h9]
  simp only [List.contains_cons, List.contains_nil, Bool.or_false, Bool.false_or]
def isTP (s : Bs) : Bool := decide (1 ≤ s.length) && (decide (s.length ≤ 200) && ((Lib.trimS s [32, 42, 47] == s) && s.all okT))
theorem isT_prog (s : Bs) : isTP s = isT s := by
  unfold isTP isT
  cases h : s.all okT with
  | false => simp
  | true => rw [trim_ok h]
theorem trimE_len (s : Bs) : (trimE s).length ≤ s.length := by
  obtain ⟨t, ht, _⟩ := rTrim_pre edgeB (s.dropWhile edgeB)
  have h1 := congrArg List.length ht
  have h2 := dw_len edgeB s
  rw [List.length_append, ← trimE_r] at h1
  omega
end Go.Ab
namespace Go.Ab
open Go Go.RowKit Go.Proofs
set_option maxRecDepth 10000
set_option maxHeartbeats 8000000
def idx {α : Type} (p : α → Bool) (l : List α) : Int := match l.findIdx? p with
  | some i => i
  | none => -1
theorem idx_at {α : Type} {p : α → Bool} {l : List α} {i : Nat} (hi : i < l.length) (hp : p l[i] = true) (hb : (l.take i).any p = false) : idx p l = i := by
  have h : l.findIdx? p = some i := by
    rw [List.findIdx?_eq_some_iff_getElem]
    refine ⟨hi, hp, fun j hj => ?_⟩
    have hm : l[j] ∈ l.take i := List.mem_take_iff_getElem.2 ⟨j, by omega, rfl⟩
    simpa using List.any_eq_false.1 hb _ hm
  simp only [idx, h]
theorem idx_none {α : Type} {p : α → Bool} {l : List α} (hb : l.any p = false) : idx p l = -1 := by
  have h : l.findIdx? p = none := by
    rw [List.findIdx?_eq_none_iff]
    intro x hx
    simpa using List.any_eq_false.1 hb x hx
  simp only [idx, h]
theorem idx_nonneg {α : Type} (p : α → Bool) (l : List α) : decide (idx p l ≥ 0) = l.any p := by
  unfold idx
  cases h : l.findIdx? p with
  | none =>
    rw [List.findIdx?_eq_none_iff] at h
    have h2 : l.any p = false := List.any_eq_false.2 fun x hx => by simp [h x hx]
    rw [h2]; rfl
  | some i =>
    obtain ⟨h1, h2, _⟩ := List.findIdx?_eq_some_iff_getElem.1 h
    have h3 : l.any p = true := List.any_eq_true.2 ⟨_, List.getElem_mem h1, h2⟩
    rw [h3]
    simp
noncomputable def Γc (b : Bool) (f : FuncId) (g : List D → Option D) : FuncId → Option CSpec := fun f' => if f' = f then some (.pure b g) else none
theorem Γc_ok {b : Bool} {f : FuncId} {g : List D → Option D} (h : PureOK Tryz.prog f b g) : ∀ f' s, Γc b f g f' = some s → SpecOK Tryz.prog f' s := by
  intro f' s hs
  unfold Γc at hs
  split at hs
  · rename_i e; subst e; cases hs; exact h
  · cases hs
noncomputable def gIdxD {α : Type} (e : α → D) (dm : α → Prop) (f : FuncId) (caps : List D) (p : α → Bool) : List D → Option D := encSpec (fun l : List α => [.list (l.map e), .clo f caps]) (fun l => l.length ≤ 1099511627776 ∧ ∀ x ∈ l, dm x) (fun l => i64 (idx p l))
theorem gIdxD_eq {α : Type} {e : α → D} {dm : α → Prop} (he : ∀ a b, e a = e b → a = b) {f : FuncId} {caps : List D} {p : α → Bool} {l : List α} (h : l.length ≤ 1099511627776) (hd : ∀ x ∈ l, dm x) : gIdxD e dm f caps p [.list (l.map e), .clo f caps] = some (.int .i64 (idx p l)) :=
  encSpec_eq (x := l) ⟨h, hd⟩ fun y hy => by
    simp only [List.cons.injEq, D.list.injEq, and_true] at hy
    rw [List.map_inj_right he |>.1 hy]
noncomputable def gAnyD {α : Type} (e : α → D) (dm : α → Prop) (f : FuncId) (caps : List D) (p : α → Bool) : List D → Option D := encSpec (fun l : List α => [.list (l.map e), .clo f caps]) (fun l => l.length ≤ 1099511627776 ∧ ∀ x ∈ l, dm x) (fun l => .bool (l.any p))
theorem gAnyD_eq {α : Type} {e : α → D} {dm : α → Prop} (he : ∀ a b, e a = e b → a = b) {f : FuncId} {caps : List D} {p : α → Bool} {l : List α} (h : l.length ≤ 1099511627776) (hd : ∀ x ∈ l, dm x) : gAnyD e dm f caps p [.list (l.map e), .clo f caps] = some (.bool (l.any p)) :=
  encSpec_eq (x := l) ⟨h, hd⟩ fun y hy => by
    simp only [List.cons.injEq, D.list.injEq, and_true] at hy
    rw [List.map_inj_right he |>.1 hy]
theorem freeze_data (H : Heap) : ∀ l : List D, freeze H (l.map AV.data) = some H
  | [] => rfl
  | d :: l => by
    have ih := freeze_data H l
    rw [List.map_cons]
    cases d <;> first | exact ih | (unfold freeze; exact ih) | (simp [freeze, AV.closed, ih])
end Go.Ab
