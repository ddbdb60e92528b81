/-
  One text of the proof (own work): contracts of functions of the program, by the abstract machine.
-/
import Derived.Test.YtlfmbcjjojedgaaGreatDoorRows
import Derived.Lib.SlicesCompact
import Derived.Test.YtlfmbcjjojedgaaGreatDoorX16
import Derived.Test.YtlfmbcjjojedgaaGreatDoorX17
import Derived.Test.YtlfmbcjjojedgaaGreatDoorX26
import Derived.Test.YtlfmbcjjojedgaaGreatDoorX22
import Derived.Test.YtlfmbcjjojedgaaGreatDoorX19
set_option linter.unusedVariables false
set_option linter.unusedSimpArgs false
namespace Go.Ab
open Go Go.RowKit Go.Proofs
open Go.Proofs.YtlfmbcjjojedgaaGreatDoor
set_option maxRecDepth 4000
mutual
theorem bulk_le {H : Type} : ∀ d : DataW H, bulk d ≤ Rows.uptoBulk d
  | .lit l => by cases l <;> simp [bulk, Rows.uptoBulk]
  | .nil => by simp [bulk, Rows.uptoBulk]
  | .ptr d => by have := bulk_le d; simp only [bulk, Rows.uptoBulk]; omega
  | .slice a b => by have := bulkAll_le a; have := bulkAll_le b; simp only [bulk, Rows.uptoBulk]; omega
  | .agg a => by have := bulkAll_le a; simp only [bulk, Rows.uptoBulk]; omega
  | .iface _ d => by have := bulk_le d; simp only [bulk, Rows.uptoBulk]; omega
  | .map es => by simp [bulk, Rows.uptoBulk]
  | .held _ => by simp [bulk, Rows.uptoBulk]
theorem bulkAll_le {H : Type} : ∀ l : List (DataW H), bulkAll l ≤ Rows.uptoBulkAll l
  | [] => by simp [bulkAll, Rows.uptoBulkAll]
  | d :: r => by have := bulk_le d; have := bulkAll_le r; simp only [bulkAll, Rows.uptoBulkAll]; omega
end
theorem trodAll_len {H : Type} {enc : TypeId × Value → H} {P : Program} {W : World} : ∀ (ts : List TypeId) (vs : List Value) (ds : List (DataW H)) (ps : List MemPlace), DataW.TrodAll enc P W 0 (fun _ => true) true ts vs ds ps → ds.length = ts.length
  | [], vs, ds, ps, h => by
    obtain ⟨rfl, rfl, rfl⟩ := ChangeShapes.trodAll_nil h
    rfl
  | t :: ts, vs, ds, ps, h => by
    obtain ⟨v, vs', d, ds', p, q, rfl, rfl, rfl, h1, h2⟩ := ChangeShapes.trodAll_cons h
    simp [trodAll_len ts vs' ds' q h2]
theorem list_choose {α β γ : Type} {f : α → γ} {g : β → γ} : ∀ (ls : List α), (∀ c ∈ ls, ∃ x, f c = g x) → ∃ l : List β, ls.map f = l.map g ∧ l.length = ls.length
  | [], _ => ⟨[], rfl, rfl⟩
  | c :: ls, h => by
    obtain ⟨x, hx⟩ := h c List.mem_cons_self
    obtain ⟨l, h1, h2⟩ := list_choose ls fun c hc => h c (List.mem_cons_of_mem _ hc)
    exact ⟨x :: l, by simp [hx, h1], by simp [h2]⟩
theorem has_str {n : Nat} {cs : List D} (h : HasTy n .str cs) : ∃ s : List UInt8, s.length ≤ n ∧ Ty.str.pack cs = .str s := by
  obtain ⟨s, hl, rfl⟩ := h
  exact ⟨s, hl, rfl⟩
theorem laid36 : laidOutB Tryz.prog = true := by kernel_rfl
theorem own36 : ownKnob Tryz.prog.godebug = none := by kernel_rfl
def accCells : Array Value := #[.int .u8 128, .int .u8 191, .int .u8 160, .int .u8 191, .int .u8 128, .int .u8 159, .int .u8 144, .int .u8 191, .int .u8 128, .int .u8 143, .int .u8 0, .int .u8 0, .int .u8 0, .int .u8 0, .int .u8 0, .int .u8 0, .int .u8 0, .int .u8 0, .int .u8 0, .int .u8 0, .int .u8 0, .int .u8 0, .int .u8 0, .int .u8 0, .int .u8 0, .int .u8 0, .int .u8 0, .int .u8 0, .int .u8 0, .int .u8 0, .int .u8 0, .int .u8 0]
def firstCells : Array Value := (Go.Pinned.utf8FirstZ.map fun n : Nat => Value.int .u8 (n : Int)).toArray
def layCells (cs : Array Value) : Go.Obj → Go.Obj
  | .cells _ t frozen => .cells cs t frozen
  | o => o
noncomputable def laidWorld (os : Os) : World :=
  { World.holding Tryz.prog os ⟨#[], #[], []⟩ with heap := ((World.holding Tryz.prog os ⟨#[], #[], []⟩).heap.modify 1 (layCells firstCells)).modify 2 (layCells accCells) }
def RT (ty : Ty) (n : Nat) (d : D) : Prop := ∃ cs, HasTy n ty cs ∧ d = ty.pack cs
theorem rt_str {n : Nat} {d : D} (h : RT .str n d) : ∃ s : List UInt8, s.length ≤ n ∧ d = .str s := by
  obtain ⟨cs, h1, rfl⟩ := h
  obtain ⟨s, hl, e⟩ := has_str h1
  exact ⟨s, hl, e⟩
theorem u8_wf {x : Int} (h : (Lit.int .u8 x).wf = true) : ∃ b : UInt8, x = (b.toNat : Int) := by
  simp only [Lit.wf, Bool.and_eq_true, decide_eq_true_eq, IntKind.min, IntKind.max] at h
  have h1 : 0 ≤ x ∧ x ≤ 255 := by
    refine ⟨?_, ?_⟩ <;> simp_all [IntKind.signed, IntKind.bits] <;> omega
  refine ⟨UInt8.ofNat x.toNat, ?_⟩
  rw [UInt8.toNat_ofNat']
  omega
theorem rt_u8 {n : Nat} {d : D} (h : RT (.int .u8) n d) : ∃ b : UInt8, d = .int .u8 b.toNat := by
  obtain ⟨cs, ⟨x, hw, rfl⟩, rfl⟩ := h
  obtain ⟨b, rfl⟩ := u8_wf hw
  exact ⟨b, rfl⟩
theorem rt_u8s {n : Nat} {d : D} (h : RT (.slice (.int .u8)) n d) : ∃ l : List UInt8, l.length ≤ n ∧ d = .list (l.map fun b => .int .u8 b.toNat) := by
  obtain ⟨cs, ⟨ls, hl, hm, rfl⟩, rfl⟩ := h
  obtain ⟨l, e, k⟩ := list_choose (f := (Ty.int .u8).pack) (g := fun b : UInt8 => D.int .u8 b.toNat) ls fun c hc => by
    obtain ⟨x, hw, rfl⟩ := hm c hc
    obtain ⟨b, rfl⟩ := u8_wf hw
    exact ⟨b, rfl⟩
  exact ⟨l, by omega, by show D.list (ls.map (Ty.int .u8).pack) = _; rw [e]⟩
def lxsFits (P : Program) (t : TypeId) : Bool := match P.underlying t with
  | some (.slice e) => lxFits P e && (P.cellsOf e == 4)
  | _ => false
def RXs (n : Nat) (d : D) : Prop := ∃ l : List LX, l.length ≤ n ∧ (∀ x ∈ l, x.Bd n) ∧ d = .list (l.map eX)
end Go.Ab
namespace Go.Ab
open Go Go.RowKit Go.Proofs
set_option maxRecDepth 10000
set_option maxHeartbeats 8000000
def Strict (l : List Bs) : Prop := l.Pairwise fun a b => a < b
theorem lt_irr (a : Bs) : ¬ a < a := List.lt_irrefl a
theorem le_lt {a b : Bs} (h : a ≤ b) (k : a ≠ b) : a < b := by
  by_cases hl : a < b
  · exact hl
  · exact absurd (List.le_antisymm h (List.not_lt.1 hl)) k
theorem strict_eq : ∀ (a b : List Bs), Strict a → Strict b → (∀ x, x ∈ a ↔ x ∈ b) → a = b
  | [], [], _, _, _ => rfl
  | [], y :: b, _, _, h => absurd ((h y).2 (by simp)) (by simp)
  | x :: a, [], _, _, h => absurd ((h x).1 (by simp)) (by simp)
  | x :: a, y :: b, ha, hb, h => by
    obtain ⟨ha1, ha2⟩ := List.pairwise_cons.1 ha
    obtain ⟨hb1, hb2⟩ := List.pairwise_cons.1 hb
    have hxy : x = y := by
      rcases List.mem_cons.1 ((h x).1 (by simp)) with e | hx
      · exact e
      · rcases List.mem_cons.1 ((h y).2 (by simp)) with e | hy
        · exact e.symm
        · exact absurd (List.lt_trans (ha1 y hy) (hb1 x hx)) (lt_irr x)
    subst hxy
    rw [strict_eq a b ha2 hb2 fun z => ?_]
    constructor
    · intro hz
      rcases List.mem_cons.1 ((h z).1 (by simp [hz])) with e | k
      · subst e; exact absurd (ha1 z hz) (lt_irr z)
      · exact k
    · intro hz
      rcases List.mem_cons.1 ((h z).2 (by simp [hz])) with e | k
      · subst e; exact absurd (hb1 z hz) (lt_irr z)
      · exact k
def cpStep (acc : List Bs) (x : Bs) : List Bs := if acc.getLast? == some x then acc else acc ++ [x]
def compB (l : List Bs) : List Bs := l.foldl cpStep []
theorem comp_key : ∀ (r acc : List Bs), Strict acc → (∀ x ∈ acc, ∀ y ∈ r, x ≤ y) → r.Pairwise (fun a b => a ≤ b) → Strict (r.foldl cpStep acc) ∧ ∀ z, z ∈ r.foldl cpStep acc ↔ z ∈ acc ∨ z ∈ r
  | [], acc, h, _, _ => ⟨h, fun z => by simp⟩
  | y :: r, acc, h, hle, hr => by
    obtain ⟨hr1, hr2⟩ := List.pairwise_cons.1 hr
    rw [List.foldl_cons]
    by_cases hl : acc.getLast? = some y
    · have hm : y ∈ acc := List.mem_of_getLast? hl
      rw [show cpStep acc y = acc by unfold cpStep; rw [hl]; simp]
      obtain ⟨h1, h2⟩ := comp_key r acc h (fun x hx z hz => hle x hx z (by simp [hz])) hr2
      refine ⟨h1, fun z => ?_⟩
      rw [h2 z, List.mem_cons]
      constructor
      · rintro (k | k)
        · exact .inl k
        · exact .inr (.inr k)
      · rintro (k | rfl | k)
        · exact .inl k
        · exact .inl hm
        · exact .inr k
    · rw [show cpStep acc y = acc ++ [y] by unfold cpStep; rw [if_neg (by simpa using hl)]]
      have hs : Strict (acc ++ [y]) := by
        refine List.pairwise_append.2 ⟨h, List.pairwise_singleton _ _, fun x hx z hz => ?_⟩
        rw [List.mem_singleton.1 hz]
        refine le_lt (hle x hx y (by simp)) fun e => ?_
        subst e
        rcases List.eq_nil_or_concat acc with rfl | ⟨u, b, rfl⟩
        · cases hx
        · rw [List.concat_eq_append] at h hl hx
          rw [List.getLast?_concat] at hl
          have hb : b ≠ x := fun e => hl (by rw [e])
          rcases List.mem_append.1 hx with hx | hx
          · have h3 := (List.pairwise_append.1 h).2.2 x hx b (by simp)
            have h4 := hle b (by simp) x (by simp)
            exact h4 h3
          · exact hb (List.mem_singleton.1 hx).symm
      obtain ⟨h1, h2⟩ := comp_key r (acc ++ [y]) hs (fun x hx z hz => by
        rcases List.mem_append.1 hx with hx | hx
        · exact hle x hx z (by simp [hz])
        · rw [List.mem_singleton.1 hx]; exact hr1 z hz) hr2
      refine ⟨h1, fun z => ?_⟩
      rw [h2 z, List.mem_append, List.mem_singleton, List.mem_cons, or_assoc]
def sortB (l : List Bs) : List Bs := l.mergeSort fun x y => decide (x ≤ y)
theorem sortB_le (l : List Bs) : (sortB l).Pairwise (fun a b => a ≤ b) := by
  have := List.pairwise_mergeSort (le := fun x y : Bs => decide (x ≤ y)) (fun a b c h k => by simp only [decide_eq_true_eq] at *; exact List.le_trans h k) (fun a b => by simpa using List.le_total a b) l
  exact this.imp fun h => by simpa using h
theorem sortB_perm (l : List Bs) : (sortB l).Perm l := List.mergeSort_perm l _
def holdT (l : List Hd) : List Bs := (l.filter (isK 1)).map Hd.text
def holdP (l : List Hd) : List Bs := compB (sortB (holdT l))
theorem holdP_ok (l : List Hd) : Strict (holdP l) ∧ ∀ z, z ∈ holdP l ↔ z ∈ holdT l := by
  obtain ⟨h1, h2⟩ := comp_key (sortB (holdT l)) [] List.Pairwise.nil (fun x hx => by cases hx) (sortB_le _)
  refine ⟨h1, fun z => ?_⟩
  rw [show holdP l = (sortB (holdT l)).foldl cpStep [] from rfl, h2 z]
  simp [(sortB_perm (holdT l)).mem_iff]
end Go.Ab
namespace Go.Ab
open Go Go.RowKit Go.Proofs
set_option maxRecDepth 4000
set_option maxHeartbeats 4000000
def letterI (c : Int) : Bool := (decide (c ≥ 97) && decide (c ≤ 122)) || (decide (c ≥ 48) && decide (c ≤ 57)) || c == 45 || c == 46
def letter (b : UInt8) : Bool := letterI b.toNat
def isBl (b : UInt8) : Bool := (b.toNat : Int) == 32
def runN (p : UInt8 → Bool) (s : List UInt8) (a : Nat) : Nat := a + ((s.drop a).takeWhile p).length
theorem runN_yes {p : UInt8 → Bool} {s : List UInt8} {i : Nat} (hi : i < s.length) (hp : p s[i] = true) : runN p s i = runN p s (i + 1) := by
  unfold runN
  rw [List.drop_eq_getElem_cons hi, List.takeWhile_cons, if_pos hp, List.length_cons]
  omega
theorem runN_no {p : UInt8 → Bool} {s : List UInt8} {i : Nat} (hi : i < s.length) (hp : p s[i] = false) : runN p s i = i := by
  unfold runN
  rw [List.drop_eq_getElem_cons hi, List.takeWhile_cons, if_neg (by simp [hp])]
  simp
theorem runN_end {p : UInt8 → Bool} {s : List UInt8} {i : Nat} (hi : s.length ≤ i) : runN p s i = i := by
  unfold runN
  rw [List.drop_eq_nil_of_le hi]
  simp
theorem runN_le {p : UInt8 → Bool} {s : List UInt8} {i : Nat} (hi : i ≤ s.length) : i ≤ runN p s i ∧ runN p s i ≤ s.length := by
  unfold runN
  have h := List.IsPrefix.length_le (List.takeWhile_prefix p (l := s.drop i))
  rw [List.length_drop] at h
  omega
abbrev skipN := runN isBl
def wordN (s : List UInt8) (a : Nat) : List UInt8 := (s.drop a).takeWhile letter
end Go.Ab
namespace Go.Ab
open Go Go.RowKit Go.Proofs
set_option maxRecDepth 4000
set_option maxHeartbeats 8000000
def headOK (s : List UInt8) : Bool := match s with
  | [] => false
  | b :: _ => !(decide ((b.toNat : Int) < 97)) && !(decide ((b.toNat : Int) > 122))
def isNameB (s : List UInt8) : Bool := !(decide ((s.length : Int) > 32)) && (headOK s && (!(s == [97, 110, 100]) && (!(s == [111, 114]) && (!(s == [119, 105, 116, 104]) && s.all letter))))
end Go.Ab
namespace Go.Ab
open Go Go.RowKit Go.Proofs
set_option maxRecDepth 4000
set_option maxHeartbeats 4000000
theorem kid_at {x : LX} {i : Nat} (hi : i < x.kids.length) {h m : Nat} (hd : x.hgt ≤ h + 1 ∧ x.Bd m) : (x.kids[i]).hgt ≤ h ∧ (x.kids[i]).Bd m :=
  ⟨by have := LX.hgt_kid (List.getElem_mem hi); omega, hd.2.k (List.getElem_mem hi)⟩
theorem LX.hgts_take {l : List LX} {i : Nat} (h : i < l.length) : LX.hgt.hgts (l.take (i + 1)) = max (LX.hgt.hgts (l.take i)) (l[i]).hgt := by
  have happ : ∀ a b : List LX, LX.hgt.hgts (a ++ b) = max (LX.hgt.hgts a) (LX.hgt.hgts b) := by
    intro a b
    induction a with
    | nil => simp [LX.hgt.hgts]
    | cons x a ih => simp only [List.cons_append, LX.hgt.hgts, ih]; omega
  rw [List.take_add_one, List.getElem?_eq_getElem h, happ]
  simp [LX.hgt.hgts]
theorem LX.hgt_eq (x : LX) : x.hgt = LX.hgt.hgts x.kids + 1 := by cases x; simp [LX.hgt, LX.kids]
theorem hgts_lt {x : LX} {i : Nat} (h : i ≤ x.kids.length) : LX.hgt.hgts (x.kids.take i) < x.hgt := by
  induction i with
  | zero => have := x.hgt_pos; simp [LX.hgt.hgts]; omega
  | succ i ih =>
    have h1 := ih (by omega)
    rw [LX.hgts_take (by omega)]
    have := LX.hgt_kid (List.getElem_mem (show i < x.kids.length by omega))
    omega
noncomputable def g_depthP (h : Nat) : List D → Option D := encSpec (fun x : LX => [eX x]) (fun x : LX => x.hgt ≤ h ∧ x.Bd 1099511627776) (fun x : LX => i64 x.hgt)
theorem g_depthP_eq {h : Nat} {x : LX} (hd : x.hgt ≤ h ∧ x.Bd 1099511627776) : g_depthP h [.agg [.int .i64 x.kind, .str x.name, .str x.exc, .list (x.kids.map eX)]] = some (i64 x.hgt) := by
  have e : g_depthP h [eX x] = some (i64 x.hgt) := encSpec_eq (x := x) hd fun y hy => by
    simp only [List.cons.injEq, and_true, true_and, D.str.injEq, D.int.injEq, D.list.injEq, D.bool.injEq, D.agg.injEq, D.clo.injEq, Int.natCast_inj, inj_ie, lx_ie] at hy
    rw [hy]
  exact (congrArg (g_depthP h) (by rw [← eX_eq x])).trans e
theorem f_depthP_ok : ∀ h : Nat, PureOK Tryz.prog 70 true (g_depthP h)
 | 0 => pure_void (by
    rintro x ⟨hx, _⟩
    (try dsimp only at hx)
    have := x.hgt_pos
    omega)
 | h + 1 => by
  have ih := f_depthP_ok h
  have hΓ := Γp ih (Γn)
  refine pure_enc (n := 20) (rs := [.tmp 2]) Tryz.func70 (by kernel_rfl) rfl (by kernel_rfl) (by kernel_rfl) ?_
  rintro x hd
  (try dsimp only at hd ⊢)
  refine ⟨fun _ => by (repeat (first | exact .int _ _ | exact .bool _ | exact .str _ | (refine .tup _ (fun d hd => ?_); simp only [List.mem_cons, List.not_mem_nil, or_false] at hd; rcases hd with rfl | hd))), fun k hz0 => ?_⟩
  have hz := hd.2.z
  have hl := x.len_le
  have hle := x.hgt_le
  have hsz := x.hgt_eq
  rw [start_frame (by simp)]; simp only [enumV, go_sem, emptyH]
  repeat (first
    | (apply axJ; (focus ((with_reducible constructor) <;> rfl)))
    | (apply awT mixedOK hΓ (by kernel_rfl); (simp (disch := omega) only [go_sem, ↓reduceIte, dk] <;> with_reducible rfl))
    | ((first | apply awR hΓ | apply awG | apply awH mixedOK hΓ rfl (by kernel_rfl) | apply ovE rfl); (simp (disch := omega) only [go_sem, ↓reduceIte, dk] <;> with_reducible rfl); exact trivial)
    | rfl)
  refine awp_loop_at (X := Nat) (fun i => (frame 20 [(1, .ptr 0 0), (3, .data (i64 (LX.hgt.hgts (x.kids.take i)))), (7, .data (.list (x.kids.map eX))), (8, .data (i64 x.kids.length)), (9, .data (i64 i))])) (fun _ => []) 4
    (fun i => i ≤ x.kids.length) (fun i => x.kids.length - i) 0 (Nat.zero_le _) (Weak.v (by (simp [ConvF, lookV, Conv, ints, LX.hgt.hgts]; done)) (by (simp (disch := omega) only [TabSub, look, if_pos, if_neg, Obj.refsOK, refsOKs, AV.refsOK, decide_eq_true_eq, Bool.and_true, Bool.and_self, LX.hgt.hgts] ) <;> ((repeat' apply And.intro) <;> first | exact True.intro | omega | (simp; done) | rfl))) ?_
  intro i hi
  have hlt := hgts_lt hi
  by_cases hi2 : i < x.kids.length
  · have e := g_depthP_eq (kid_at hi2 hd)
    have h1 := LX.hgts_take hi2
    have h3 : (LX.hgt.hgts (x.kids.take (i + 1)) : Int) = max (LX.hgt.hgts (x.kids.take i) : Int) ((x.kids[i]).hgt : Int) := by omega
    generalize LX.hgt.hgts (x.kids.take i) = a at *
    generalize hy : x.kids[i] = y at *
    repeat (first
      | (apply axJ; (focus ((with_reducible constructor) <;> rfl)))
      | (apply awT mixedOK hΓ (by kernel_rfl); (simp (disch := omega) only [go_sem, ↓reduceIte, dk, hy, e] <;> with_reducible rfl))
      | ((first | apply awR hΓ | apply awG | apply awH mixedOK hΓ rfl (by kernel_rfl) | apply ovE rfl); (simp (disch := omega) only [go_sem, ↓reduceIte, dk, hy, e] <;> with_reducible rfl); exact trivial)
      | rfl)
    exact ⟨i + 1, by omega, by omega, Weak.v (by (simp [ConvF, lookV, Conv, ints, h3]; done)) (by (simp (disch := omega) only [TabSub, look, if_pos, if_neg, Obj.refsOK, refsOKs, AV.refsOK, decide_eq_true_eq, Bool.and_true, Bool.and_self, h3] ) <;> ((repeat' apply And.intro) <;> first | exact True.intro | omega | (simp; done) | rfl))⟩
  · have hi' : i = x.kids.length := by omega
    subst hi'
    rw [List.take_length] at hlt ⊢
    repeat (first
      | (apply axJ; (focus ((with_reducible constructor) <;> rfl)))
      | (apply awT mixedOK hΓ (by kernel_rfl); (simp (disch := omega) only [go_sem, ↓reduceIte, dk] <;> with_reducible rfl))
      | ((first | apply awR hΓ | apply awG | apply awH mixedOK hΓ rfl (by kernel_rfl) | apply ovE rfl); (simp (disch := omega) only [go_sem, ↓reduceIte, dk] <;> with_reducible rfl); exact trivial)
      | rfl)
    rw [hsz]; rfl
end Go.Ab
namespace Go.Ab
open Go Go.RowKit Go.Proofs
set_option maxRecDepth 4000
set_option maxHeartbeats 8000000
mutual
def eqX : LX → LX → Bool
  | .mk k n e l, .mk k' n' e' l' => (k == k') && ((n == n') && ((e == e') && eqXs l l'))
def eqXs : List LX → List LX → Bool
  | [], [] => true
  | x :: l, y :: r => eqX x y && eqXs l r
  | [], _ :: _ => false
  | _ :: _, [] => false
end
theorem eqX_eq (a b : LX) : eqX a b = ((a.kind == b.kind) && ((a.name == b.name) && ((a.exc == b.exc) && eqXs a.kids b.kids))) := by cases a; cases b; rw [eqX]; rfl
theorem eqXs_iff {l : List LX} (h : ∀ x ∈ l, ∀ y, eqX x y = true ↔ x = y) : ∀ r, eqXs l r = true ↔ l = r := by
  induction l with
  | nil => intro r; cases r <;> simp [eqXs]
  | cons x l ih =>
    intro r
    cases r with
    | nil => simp [eqXs]
    | cons y r =>
      have h1 := h x (by simp) y
      have h2 := ih (fun z hz => h z (by simp [hz])) r
      simp only [eqXs, Bool.and_eq_true, h1, h2, List.cons.injEq]
theorem eqX_iff (a : LX) : ∀ b, eqX a b = true ↔ a = b := by
  refine LX.ind (p := fun a => ∀ b, eqX a b = true ↔ a = b) (fun k n e l ih b => ?_) a
  cases b with
  | mk k' n' e' l' =>
    have h2 := eqXs_iff ih l'
    simp only [eqX, Bool.and_eq_true, beq_iff_eq, LX.mk.injEq, h2]
theorem eqXs_len {l r : List LX} (h : l.length ≠ r.length) : eqXs l r = false := by
  cases hh : eqXs l r with
  | false => rfl
  | true =>
    have := (eqXs_iff (fun x _ y => eqX_iff x y) r).1 hh
    exact absurd (congrArg List.length this) h
theorem eqXs_drop {l r : List LX} {i : Nat} (h1 : i < l.length) (h2 : i < r.length) : eqXs (l.drop i) (r.drop i) = (eqX l[i] r[i] && eqXs (l.drop (i + 1)) (r.drop (i + 1))) := by
  rw [List.drop_eq_getElem_cons h1, List.drop_eq_getElem_cons h2, eqXs]
noncomputable def g_equalP (h : Nat) : List D → Option D := encSpec (fun x : LX × LX => [eX x.1, eX x.2]) (fun x => x.1.hgt ≤ h ∧ x.1.Bd 1099511627776 ∧ x.2.Bd 1099511627776) (fun x => .bool (eqX x.1 x.2))
theorem g_equalP_eq {h : Nat} {a b : LX} (hd : a.hgt ≤ h ∧ a.Bd 1099511627776 ∧ b.Bd 1099511627776) : g_equalP h [.agg [.int .i64 a.kind, .str a.name, .str a.exc, .list (a.kids.map eX)], .agg [.int .i64 b.kind, .str b.name, .str b.exc, .list (b.kids.map eX)]] = some (.bool (eqX a b)) := by
  have e : g_equalP h [eX a, eX b] = some (.bool (eqX a b)) := encSpec_eq (x := (a, b)) hd fun y hy => by
    obtain ⟨y0, y1⟩ := y
    simp only [List.cons.injEq, and_true, lx_ie, inj_ie] at hy
    obtain ⟨rfl, rfl⟩ := hy
    (try rfl)
  exact (congrArg (g_equalP h) (by rw [← eX_eq a, ← eX_eq b])).trans e
def XsOK (h : Nat) (l r : List LX) : Prop := l.length ≤ 1099511627776 ∧ r.length ≤ 1099511627776 ∧ (∀ x ∈ l, x.hgt ≤ h ∧ x.Bd 1099511627776) ∧ ∀ x ∈ r, x.Bd 1099511627776
noncomputable def g_equalF (h : Nat) : List D → Option D := encSpec (fun x : List LX × List LX => [.list (x.1.map eX), .list (x.2.map eX), .clo 34 []]) (fun x => XsOK h x.1 x.2) (fun x => .bool (eqXs x.1 x.2))
theorem g_equalF_eq {h : Nat} {l r : List LX} (hd : XsOK h l r) : g_equalF h [.list (l.map eX), .list (r.map eX), .clo 34 []] = some (.bool (eqXs l r)) := encSpec_eq (x := (l, r)) hd fun y hy => by
  obtain ⟨y0, y1⟩ := y
  simp only [List.cons.injEq, and_true, D.list.injEq, lx_ie, inj_ie] at hy
  obtain ⟨rfl, rfl⟩ := hy
  (try rfl)
theorem f_equalF_ok (h : Nat) (ih : PureOK Tryz.prog 34 true (g_equalP h)) : PureOK Tryz.prog 69 true (g_equalF h) := by
  have hΓ := (Γp ih (Γn))
  refine pure_enc (n := 32) (rs := [.tmp 6]) Tryz.func69 (by kernel_rfl) rfl (by kernel_rfl) (by kernel_rfl) ?_
  rintro ⟨l, r⟩ ⟨hn1, hn2, hb1, hb2⟩
  dsimp only at hn1 hn2 hb1 hb2 ⊢
  refine ⟨fun _ => .bool _, fun k hz0 => ?_⟩
  have hne := fun h => eqXs_len (l := l) (r := r) h
  rw [start_frame (by simp)]; simp only [enumV, go_sem, emptyH]
  by_cases hlen : l.length = r.length
  case neg =>
    have hlb : ((l.length : Int) != (r.length : Int)) = true := by simp; omega
    rw [hne hlen]
    repeat (first
      | (apply axJ; (focus ((with_reducible constructor) <;> rfl)))
      | (apply awT mixedOK hΓ (by kernel_rfl); (simp (disch := omega) only [go_sem, ↓reduceIte, dk, hlb] <;> with_reducible rfl))
      | ((first | apply awR hΓ | apply awG | apply awH mixedOK hΓ rfl (by kernel_rfl) | apply ovE rfl); (simp (disch := omega) only [go_sem, ↓reduceIte, dk, hlb] <;> with_reducible rfl); exact trivial)
      | rfl)
  have hlb : ((l.length : Int) != (r.length : Int)) = false := by simp; omega
  repeat (first
    | (apply axJ; (focus ((with_reducible constructor) <;> rfl)))
    | (apply awT mixedOK hΓ (by kernel_rfl); (simp (disch := omega) only [go_sem, ↓reduceIte, dk, hlb] <;> with_reducible rfl))
    | ((first | apply awR hΓ | apply awG | apply awH mixedOK hΓ rfl (by kernel_rfl) | apply ovE rfl); (simp (disch := omega) only [go_sem, ↓reduceIte, dk, hlb] <;> with_reducible rfl); exact trivial)
    | rfl)
  refine awp_loop_at (X := Nat) (fun i => (frame 32 [(1, .data (.list (r.map eX))), (2, .data (.clo 34 [])), (15, .data (.list (l.map eX))), (16, .data (i64 l.length)), (17, .data (i64 i))])) (fun _ => []) 0
    (fun i => i ≤ l.length ∧ eqXs l r = eqXs (l.drop i) (r.drop i)) (fun i => l.length - i) 0 ⟨Nat.zero_le _, rfl⟩ (Weak.w) ?_
  rintro i ⟨hi, he⟩
  by_cases hi2 : i < l.length
  · have hi3 : i < r.length := by omega
    have e := g_equalP_eq (h := h) (a := l[i]) (b := r[i]) ⟨(hb1 _ (List.getElem_mem hi2)).1, (hb1 _ (List.getElem_mem hi2)).2, hb2 _ (List.getElem_mem hi3)⟩
    rw [eqXs_drop hi2 hi3] at he
    rw [he]
    generalize hx : l[i] = x at *
    generalize hy : r[i] = y at *
    cases hc : eqX x y with
    | true =>
      rw [hc] at e
      repeat (first
        | (apply axJ; (focus ((with_reducible constructor) <;> rfl)))
        | (apply awT mixedOK hΓ (by kernel_rfl); (simp (disch := omega) only [go_sem, ↓reduceIte, dk, hx, hy, e] <;> with_reducible rfl))
        | ((first | apply awR hΓ | apply awG | apply awH mixedOK hΓ rfl (by kernel_rfl) | apply ovE rfl); (simp (disch := omega) only [go_sem, ↓reduceIte, dk, hx, hy, e] <;> with_reducible rfl); exact trivial)
        | rfl)
      exact ⟨i + 1, ⟨by omega, rfl⟩, by omega, Weak.w⟩
    | false =>
      rw [hc] at e
      repeat (first
        | (apply axJ; (focus ((with_reducible constructor) <;> rfl)))
        | (apply awT mixedOK hΓ (by kernel_rfl); (simp (disch := omega) only [go_sem, ↓reduceIte, dk, hx, hy, e] <;> with_reducible rfl))
        | ((first | apply awR hΓ | apply awG | apply awH mixedOK hΓ rfl (by kernel_rfl) | apply ovE rfl); (simp (disch := omega) only [go_sem, ↓reduceIte, dk, hx, hy, e] <;> with_reducible rfl); exact trivial)
        | rfl)
      (try rfl)
  · have hi' : i = l.length := by omega
    subst hi'
    rw [he, List.drop_eq_nil_of_le (Nat.le_refl _), List.drop_eq_nil_of_le (by omega)]
    repeat (first
      | (apply axJ; (focus ((with_reducible constructor) <;> rfl)))
      | (apply awT mixedOK hΓ (by kernel_rfl); (simp (disch := omega) only [go_sem, ↓reduceIte, dk] <;> with_reducible rfl))
      | ((first | apply awR hΓ | apply awG | apply awH mixedOK hΓ rfl (by kernel_rfl) | apply ovE rfl); (simp (disch := omega) only [go_sem, ↓reduceIte, dk] <;> with_reducible rfl); exact trivial)
      | rfl)
    (try rfl)
theorem f_equalP_ok : ∀ h : Nat, PureOK Tryz.prog 34 true (g_equalP h)
 | 0 => pure_void (by
    rintro ⟨a, b⟩ ⟨hx, _⟩
    dsimp only at hx
    have := a.hgt_pos
    omega)
 | h + 1 => by
  have ih := f_equalF_ok h (f_equalP_ok h)
  have hΓ := (Γp ih (Γn))
  refine pure_enc (n := 31) (rs := [.tmp 4]) Tryz.func34 (by kernel_rfl) rfl (by kernel_rfl) (by kernel_rfl) ?_
  rintro ⟨a, b⟩ ⟨hh, ha, hb⟩
  dsimp only at hh ha hb ⊢
  refine ⟨fun _ => .bool _, fun k hz0 => ?_⟩
  have hz1 := ha.z
  have hl1 := a.len_le
  have hz2 := hb.z
  have hl2 := b.len_le
  have e := g_equalF_eq (h := h) (l := a.kids) (r := b.kids) ⟨by omega, by omega, fun x hx => ⟨by have := LX.hgt_kid hx; omega, ha.k hx⟩, fun x hx => hb.k hx⟩
  rw [eqX_eq]
  rw [start_frame (by simp)]; simp only [enumV, go_sem, emptyH]
  generalize hc1 : (a.kind == b.kind) = c1
  generalize hc2 : (a.name == b.name) = c2
  generalize hc3 : (a.exc == b.exc) = c3
  cases c1
  · repeat (first
    | (apply axJ; (focus ((with_reducible constructor) <;> rfl)))
    | (apply awT mixedOK hΓ (by kernel_rfl); (simp (disch := omega) only [go_sem, ↓reduceIte, dk, hc1, hc2, hc3] <;> with_reducible rfl))
    | ((first | apply awR hΓ | apply awG | apply awH mixedOK hΓ rfl (by kernel_rfl) | apply ovE rfl); (simp (disch := omega) only [go_sem, ↓reduceIte, dk, hc1, hc2, hc3] <;> with_reducible rfl); exact trivial)
    | rfl)
    (try rfl)
  cases c2
  · repeat (first
    | (apply axJ; (focus ((with_reducible constructor) <;> rfl)))
    | (apply awT mixedOK hΓ (by kernel_rfl); (simp (disch := omega) only [go_sem, ↓reduceIte, dk, hc1, hc2, hc3] <;> with_reducible rfl))
    | ((first | apply awR hΓ | apply awG | apply awH mixedOK hΓ rfl (by kernel_rfl) | apply ovE rfl); (simp (disch := omega) only [go_sem, ↓reduceIte, dk, hc1, hc2, hc3] <;> with_reducible rfl); exact trivial)
    | rfl)
    (try rfl)
  cases c3
  · repeat (first
    | (apply axJ; (focus ((with_reducible constructor) <;> rfl)))
    | (apply awT mixedOK hΓ (by kernel_rfl); (simp (disch := omega) only [go_sem, ↓reduceIte, dk, hc1, hc2, hc3] <;> with_reducible rfl))
    | ((first | apply awR hΓ | apply awG | apply awH mixedOK hΓ rfl (by kernel_rfl) | apply ovE rfl); (simp (disch := omega) only [go_sem, ↓reduceIte, dk, hc1, hc2, hc3] <;> with_reducible rfl); exact trivial)
    | rfl)
    (try rfl)
  repeat (first
    | (apply axJ; (focus ((with_reducible constructor) <;> rfl)))
    | (apply awT mixedOK hΓ (by kernel_rfl); (simp (disch := omega) only [go_sem, ↓reduceIte, dk, hc1, hc2, hc3, e] <;> with_reducible rfl))
    | ((first | apply awR hΓ | apply awG | apply awH mixedOK hΓ rfl (by kernel_rfl) | apply ovE rfl); (simp (disch := omega) only [go_sem, ↓reduceIte, dk, hc1, hc2, hc3, e] <;> with_reducible rfl); exact trivial)
    | rfl)
  (try rfl)
end Go.Ab
