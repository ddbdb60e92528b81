/-
  One text of the proof (own work): contracts of functions of the program, by the abstract machine.
-/
import Derived.Test.YtdodjhiofpiaaaaDoorX22
import Derived.Test.YtdodjhiofpiaaaaDoorX20
set_option linter.unusedVariables false
set_option linter.unusedSimpArgs false
namespace Go.Ab
open Go Go.RowKit Go.Proofs
set_option maxRecDepth 4000
set_option maxHeartbeats 1000000
theorem mixedOK : Tryd.prog.follows .mixedOrders = true := by kernel_rfl
@[go_sem] abbrev i64 (n : Int) : D := .int .i64 n
@[go_sem] abbrev u8 (n : Int) : D := .int .u8 n
abbrev ints (l : List Int) : D := .list (l.map i64)
def Γ0 : FuncId → Option CSpec := fun _ => none
theorem Γ0_ok : ∀ f s, Γ0 f = some s → SpecOK Tryd.prog f s := fun _ _ h => by cases h
def Γl : List (FuncId × CSpec) → FuncId → Option CSpec
  | [], _ => none
  | (k, s) :: r, f => if f = k then some s else Γl r f
attribute [go_sem] Γl
theorem Γn : ∀ f s, Γl [] f = some s → SpecOK Tryd.prog f s := fun _ _ h => by cases h
theorem Γcons {k : FuncId} {s : CSpec} {r : List (FuncId × CSpec)} (h : SpecOK Tryd.prog k s) (hr : ∀ f s, Γl r f = some s → SpecOK Tryd.prog f s) : ∀ f s', Γl ((k, s) :: r) f = some s' → SpecOK Tryd.prog f s' := fun f s' hf => by
  simp only [Γl] at hf
  split at hf
  · rename_i hk; subst hk; cases hf; exact h
  · exact hr f s' hf
theorem Γp {k : FuncId} {fl : Bool} {g : List D → Option D} {r : List (FuncId × CSpec)} (h : PureOK Tryd.prog k fl g) (hr : ∀ f s, Γl r f = some s → SpecOK Tryd.prog f s) : ∀ f s', Γl ((k, .pure fl g) :: r) f = some s' → SpecOK Tryd.prog f s' := Γcons h hr
theorem Γo {k : FuncId} {g : List D → Option (TypeId × Nat × List D)} {r : List (FuncId × CSpec)} (h : OwnOK Tryd.prog k g) (hr : ∀ f s, Γl r f = some s → SpecOK Tryd.prog f s) : ∀ f s', Γl ((k, .own g) :: r) f = some s' → SpecOK Tryd.prog f s' := Γcons h hr
theorem Γq {k : FuncId} {g : List AV → List Obj → Option (AV × List Obj)} {r : List (FuncId × CSpec)} (h : LocOK Tryd.prog k g) (hr : ∀ f s, Γl r f = some s → SpecOK Tryd.prog f s) : ∀ f s', Γl ((k, .loc g) :: r) f = some s' → SpecOK Tryd.prog f s' := Γcons h hr
@[go_sem] theorem dec_true {h : Decidable True} : @decide True h = true := by simp
theorem map_ie {α : Type} {e : α → D} (he : ∀ a b, e a = e b → a = b) (l m : List α) : (l.map e = m.map e) = (l = m) := propext ⟨fun h => List.map_inj_right he |>.1 h, fun h => by rw [h]⟩
theorem strs_ie (a b : List (List UInt8)) : (a.map D.str = b.map D.str) = (a = b) := map_ie (fun x y h => by simpa using h) a b
theorem inj_ie (a b : List (List UInt8)) : (a.map D.str = b.map D.str) = (a = b) := strs_ie a b
abbrev Bs := List UInt8
@[go_sem] theorem elemsOK_str (l : List (List UInt8)) : elemsOK 1 (l.map D.str) = true := elemsOK_map (f := D.str) (fun _ => ⟨by rfl, by rfl⟩) l
end Go.Ab
namespace Go.Ab
open Go Go.RowKit Go.Proofs
set_option maxRecDepth 10000
set_option maxHeartbeats 4000000
def cons1 (p : Bs) : List Bs → List Bs
  | [] => [p]
  | w :: r => (p ++ w) :: r
def splitB (c : UInt8) : Bs → List Bs
  | [] => [[]]
  | x :: r => if x == c then [] :: splitB c r else cons1 [x] (splitB c r)
theorem cons1_ne (p : Bs) (l : List Bs) : cons1 p l ≠ [] := by cases l <;> simp [cons1]
theorem splitB_ne (c : UInt8) (s : Bs) : splitB c s ≠ [] := by
  cases s with
  | nil => simp [splitB]
  | cons x r => rw [splitB]; split <;> simp [cons1_ne]
theorem cons1_len {p : Bs} {l : List Bs} (h : l ≠ []) : (cons1 p l).length = l.length := by cases l with
  | nil => exact absurd rfl h
  | cons x r => rfl
theorem splitB_len (c : UInt8) (s : Bs) : (splitB c s).length ≤ s.length + 1 := by
  induction s with
  | nil => simp [splitB]
  | cons x r ih =>
    rw [splitB]
    split
    · simp only [List.length_cons]; omega
    · rw [cons1_len (splitB_ne c r)]; simp only [List.length_cons]; omega
theorem splitB_mem_len (c : UInt8) (s : Bs) : ∀ w ∈ splitB c s, w.length ≤ s.length := by
  induction s with
  | nil => intro w hw; simp [splitB] at hw; simp [hw]
  | cons x r ih =>
    intro w hw
    rw [splitB] at hw
    split at hw
    · rcases List.mem_cons.1 hw with rfl | hw
      · simp
      · have := ih w hw; simp only [List.length_cons]; omega
    · cases hs : splitB c r with
      | nil => exact absurd hs (splitB_ne c r)
      | cons y l =>
        rw [hs] at hw ih
        rcases List.mem_cons.1 hw with rfl | hw
        · have := ih y (by simp); simp only [List.length_append, List.length_cons, List.length_nil]; omega
        · have := ih w (by simp [hw]); simp only [List.length_cons]; omega
theorem byteEq (a b : UInt8) : (((a.toNat : Nat) : Int) == ((b.toNat : Nat) : Int)) = (a == b) := by
  rw [Bool.eq_iff_iff]
  simp only [beq_iff_eq]
  exact ⟨fun h => UInt8.toNat_inj.1 (by omega), fun h => by rw [h]⟩
end Go.Ab
namespace Go.Ab
open Go Go.RowKit Go.Proofs
set_option maxRecDepth 10000
set_option maxHeartbeats 4000000
def hasB (l : List Bs) (s : Bs) : Bool := l.any (· == s)
theorem any_next {α : Type} {p : α → Bool} {l : List α} {i : Nat} (hi : i < l.length) (hb : (l.take i).any p = false) (hp : p l[i] = false) : (l.take (i + 1)).any p = false := by
  rw [List.take_add_one, List.any_append, hb, List.getElem?_eq_getElem hi]
  simp [hp]
theorem any_yes {α : Type} {p : α → Bool} {l : List α} {i : Nat} (hi : i < l.length) (hp : p l[i] = true) : l.any p = true := by
  rw [List.any_eq_true]
  exact ⟨_, List.getElem_mem hi, hp⟩
def pbI (c : Int) : Bool := !((decide (c < 97) || decide (c > 122)) && ((decide (c < 48) || decide (c > 57)) && (c != 46 && (c != 95 && c != 45))))
def pb (b : UInt8) : Bool := pbI b.toNat
def partB (s : Bs) : Bool := match s with
  | [] => false
  | b :: r => !(decide (((b :: r).length : Int) > 32)) && (!((b.toNat : Int) == 46) && (!((b.toNat : Int) == 45) && (b :: r).all pb))
def pathE (s : Bs) : Int := if decide ((s.length : Int) > 128) then 2 else if decide (((splitB 47 s).length : Int) > 8) then 2 else if (splitB 47 s).all partB then 0 else 2
def linesE (s : Bs) : List Bs × Int := if decide ((s.length : Int) > 65536) then ([], 10) else if decide (((splitB 10 s).length : Int) > 1024) then ([], 10) else (splitB 10 s, 0)
def eLs (p : List Bs × Int) : D := .tup [.list (p.1.map .str), i64 p.2]
end Go.Ab
namespace Go.Ab
open Go Go.RowKit Go.Proofs
set_option maxRecDepth 10000
set_option maxHeartbeats 4000000
def lettI (c : Int) : Bool := (decide (c ≥ 97) && decide (c ≤ 122)) || c == 95
def digI (c : Int) : Bool := decide (c ≥ 48) && decide (c ≤ 57)
def ldB (b : UInt8) : Bool := lettI b.toNat || digI b.toNat
def idForm (s : Bs) : Bool := match s with
  | [] => false
  | b :: r => !(decide (((b :: r).length : Int) > 32)) && (lettI b.toNat && (b :: r).all ldB)
def keywords : List Bs := [[108, 101, 116], [115, 101, 116], [105, 102], [101, 108, 115, 101], [119, 104, 105, 108, 101], [114, 101, 116, 117, 114, 110], [100, 111], [111, 117, 116], [115, 116, 111, 114, 101], [108, 111, 97, 100], [105, 110], [105, 110, 99, 108, 117, 100, 101], [100, 101, 102, 105, 110, 101], [117, 110, 100, 101, 102], [119, 104, 101, 110], [117, 110, 108, 101, 115, 115], [110, 111, 116, 101], [101, 120, 116, 101, 114, 110], [101, 120, 112, 111, 114, 116], [119, 101, 97, 107], [102, 110], [100, 97, 116, 97]]
def idB (s : Bs) : Bool := idForm s && !(hasB keywords s)
def refB (s : Bs) : Bool := match s with
  | [] => pathE [] == 0
  | b :: r => if (b.toNat : Int) == 64 then pathE r == 0 && decide (((splitB 47 r).length : Int) > 1) else pathE (b :: r) == 0
end Go.Ab
namespace Go.Ab
open Go Go.RowKit
theorem Weak.packd {b : Nat} {sl sl' : List AV} {H : Heap} {fp : List Nat} {objs os : List Obj} (hobj : getAll H fp = some objs) (hnd : nodupB fp = true) (hfst : ∀ i, i < b → fp[i]? = some i) (h1 : rens H (idxOf fp) sl = sl') (h2 : objs.map (renO H (idxOf fp)) = os) : Weak b sl H sl' ⟨enumO 0 os, os.length⟩ := by
  subst h1 h2
  rw [List.length_map]
  exact Weak.pack hobj hnd hfst
end Go.Ab
namespace Go.Ab
open Go Go.RowKit Go.Proofs
set_option maxRecDepth 10000
set_option maxHeartbeats 8000000
def sepWords : List Bs := [[116, 111], [119, 105, 116, 104], [117, 115, 105, 110, 103], [111, 110], [97, 115]]
def isSep (s : Bs) : Bool := hasB sepWords s
structure Gp where
  name : Bs
  words : List Bs
def eGp (g : Gp) : D := .agg [.str g.name, .list (g.words.map .str)]
theorem eGp_inj (a b : Gp) (h : eGp a = eGp b) : a = b := by
  cases a; cases b
  simp only [eGp, D.agg.injEq, List.cons.injEq, D.str.injEq, D.list.injEq, and_true, inj_ie] at h
  obtain ⟨rfl, rfl⟩ := h
  rfl
theorem eGps_ie (a b : List Gp) : (a.map eGp = b.map eGp) = (a = b) := map_ie eGp_inj a b
def gstep (p : List Gp × Gp) (w : Bs) : List Gp × Gp := if isSep w then (p.1 ++ [p.2], ⟨w, []⟩) else (p.1, ⟨p.2.name, p.2.words ++ [w]⟩)
def gAll (nm : Bs) (l : List Bs) : List Gp × Gp := l.foldl gstep ([], ⟨nm, []⟩)
def gList (nm : Bs) (l : List Bs) : List Gp := (gAll nm l).1 ++ [(gAll nm l).2]
theorem gAll_step {nm : Bs} {l : List Bs} {i : Nat} (hi : i < l.length) : gAll nm (l.take (i + 1)) = gstep (gAll nm (l.take i)) l[i] := by
  unfold gAll
  rw [List.take_add_one, List.getElem?_eq_getElem hi, List.foldl_append]
  rfl
theorem gAll_bd (nm : Bs) (l : List Bs) : (gAll nm l).1.length ≤ l.length ∧ (gAll nm l).2.words.length ≤ l.length := by
  have key : ∀ (l : List Bs) (p : List Gp × Gp), (l.foldl gstep p).1.length ≤ p.1.length + l.length ∧ (l.foldl gstep p).2.words.length ≤ p.2.words.length + l.length := by
    intro l
    induction l with
    | nil => intro p; exact ⟨Nat.le_refl _, Nat.le_refl _⟩
    | cons w l ih =>
      intro p
      obtain ⟨h1, h2⟩ := ih (gstep p w)
      simp only [List.foldl_cons, List.length_cons]
      unfold gstep at h1 h2
      split at h1
      · rename_i hc
        rw [if_pos hc] at h2
        simp only [List.length_append, List.length_cons, List.length_nil] at h1 h2
        unfold gstep
        rw [if_pos hc]
        exact ⟨by omega, by omega⟩
      · rename_i hc
        rw [if_neg hc] at h2
        simp only [List.length_append, List.length_cons, List.length_nil] at h1 h2
        unfold gstep
        rw [if_neg hc]
        exact ⟨by omega, by omega⟩
  have := key l ([], ⟨nm, []⟩)
  simpa [gAll] using this
def cG (l : List Gp) : List AV := (Ab.flat (l.map eGp)).map .data
theorem cG_snoc (l : List Gp) (g : Gp) : cG (l ++ [g]) = cG l ++ [.data (.str g.name), .data (.list (g.words.map .str))] := by
  unfold cG Ab.flat
  rw [List.map_append, List.flatMap_append, List.map_append]
  rfl
theorem cG_len (l : List Gp) : (cG l).length = 2 * l.length := by
  induction l with
  | nil => rfl
  | cons g l ih =>
    have : cG (g :: l) = [.data (.str g.name), .data (.list (g.words.map .str))] ++ cG l := rfl
    rw [this, List.length_append, ih]
    simp only [List.length_cons, List.length_nil]
    omega
theorem cG_drop (gs : List Gp) (a b : AV) : List.drop (gs.length * 2 + 1) (cG gs ++ [a, b]) = [b] := by
  have h := cG_len gs
  rw [List.drop_append, List.drop_eq_nil_of_le (by omega), h, show gs.length * 2 + 1 - 2 * gs.length = 1 by omega]
  rfl
theorem lay_pre (xs : List AV) (k : Nat) (r : List AV) : ∀ (pre : List AV), lay (pre.length + k) xs (pre ++ r) = (lay k xs r).map (pre ++ ·)
  | [] => by simp
  | y :: pre => by
    have ih := lay_pre xs k r pre
    rw [List.length_cons, show pre.length + 1 + k = (pre.length + k) + 1 by omega, List.cons_append, lay, ih]
    cases lay k xs r <;> rfl
theorem cG_lay (gs : List Gp) (a b c : AV) : lay (gs.length * 2 + 1) [c] (cG gs ++ [a, b]) = some (cG gs ++ [a, c]) := by
  have h := lay_pre [c] 1 [a, b] (cG gs)
  rw [cG_len, show 2 * gs.length + 1 = gs.length * 2 + 1 by omega] at h
  rw [h]
  rfl
theorem refs_data (n : Nat) (r : List AV) : ∀ l : List D, refsOKs n (l.map .data ++ r) = refsOKs n r
  | [] => rfl
  | d :: l => by
    have := refs_data n r l
    show (AV.refsOK n (.data d) && refsOKs n (l.map .data ++ r)) = _
    rw [this]
    rfl
theorem cG_refs (n : Nat) (gs : List Gp) (r : List AV) : refsOKs n (cG gs ++ r) = refsOKs n r := refs_data n r _
theorem conv_same (H : Heap) (d : D) : Conv H (.data d) (.data d) := by
  cases d <;> first | exact rfl | exact .inl rfl
theorem convL_data (H : Heap) {r r' : List AV} (h : ConvL H r r') : ∀ l : List D, ConvL H (l.map .data ++ r) (l.map .data ++ r')
  | [] => h
  | d :: l => ⟨conv_same H d, convL_data H h l⟩
theorem cG_get (gs : List Gp) (a b : AV) : (cG gs ++ [a, b])[gs.length * 2 + 1]? = some b := by
  rw [List.getElem?_append_right (by rw [cG_len]; omega), cG_len, show gs.length * 2 + 1 - 2 * gs.length = 1 by omega]
  rfl
theorem cG_set (gs : List Gp) (a b c : AV) : (cG gs ++ [a, b]).set (gs.length * 2 + 1) c = cG gs ++ [a, c] := by
  rw [List.set_append_right _ _ (by rw [cG_len]; omega), cG_len, show gs.length * 2 + 1 - 2 * gs.length = 1 by omega]
  rfl
theorem cG_ren (H : Heap) (ρ : Nat → Option Nat) (gs : List Gp) (r : List AV) : rens H ρ (cG gs ++ r) = cG gs ++ rens H ρ r := by
  unfold cG
  generalize Ab.flat (gs.map eGp) = l
  induction l with
  | nil => rfl
  | cons d l ih =>
    rw [List.map_cons, List.cons_append, rens, ih]
    rfl
theorem eGps_cells (l : List Gp) : (∀ d ∈ l.map eGp, d.cells.length = 2) ∧ ∀ d ∈ Ab.flat (l.map eGp), d.one = true := by
  refine ⟨fun d hd => ?_, fun d hd => ?_⟩
  · obtain ⟨g, _, rfl⟩ := List.mem_map.1 hd
    rfl
  · unfold Ab.flat at hd
    obtain ⟨x, hx, hd⟩ := List.mem_flatMap.1 hd
    obtain ⟨g, _, rfl⟩ := List.mem_map.1 hx
    simp only [eGp, D.cells, List.mem_cons, List.not_mem_nil, or_false] at hd
    rcases hd with rfl | rfl <;> rfl
end Go.Ab
namespace Go.Ab
open Go Go.RowKit Go.Proofs
set_option maxRecDepth 10000
set_option maxHeartbeats 8000000
@[go_sem] theorem elemsOK_gp (l : List Gp) : elemsOK 2 (l.map eGp) = true := elemsOK_map (f := eGp) (fun _ => ⟨by rfl, by rfl⟩) l
@[go_sem] theorem eGp_eq (g : Gp) : eGp g = .agg [.str g.name, .list (g.words.map .str)] := rfl
def signB (g : Gp) : UInt8 := if g.words.length < 2 then UInt8.ofNat (48 + g.words.length) else 43
def formS : List Gp → Bs
  | [] => []
  | g :: r => g.name ++ [signB g, 32] ++ formS r
def someB (s b e : Bs) : Bool := (s == b ++ [49, 32] ++ e) || (s == b ++ [43, 32] ++ e)
end Go.Ab
namespace Go.Ab
open Go Go.RowKit Go.Proofs
set_option maxRecDepth 10000
set_option maxHeartbeats 8000000
structure Stp where
  line : Int
  kind : Int
  inn : List Bs
  usg : List Bs
  wds : List Bs
  out : Bs
def eSt (x : Stp) : D := .agg [i64 x.line, i64 x.kind, .list (x.inn.map .str), .list (x.usg.map .str), .list (x.wds.map .str), .str x.out]
@[go_sem] theorem eSt_eq (x : Stp) : eSt x = .agg [.int .i64 x.line, .int .i64 x.kind, .list (x.inn.map .str), .list (x.usg.map .str), .list (x.wds.map .str), .str x.out] := rfl
theorem eSt_inj (a b : Stp) (h : eSt a = eSt b) : a = b := by
  cases a; cases b
  simp only [eSt, i64, D.agg.injEq, List.cons.injEq, D.str.injEq, D.int.injEq, D.list.injEq, and_true, true_and, inj_ie] at h
  obtain ⟨rfl, rfl, rfl, rfl, rfl, rfl⟩ := h
  rfl
theorem eSt_ie (a b : Stp) : (eSt a = eSt b) = (a = b) := propext ⟨eSt_inj a b, fun h => by rw [h]⟩
theorem eSts_ie (a b : List Stp) : (a.map eSt = b.map eSt) = (a = b) := map_ie eSt_inj a b
@[go_sem] theorem elemsOK_st (l : List Stp) : elemsOK 6 (l.map eSt) = true := elemsOK_map (f := eSt) (fun _ => ⟨by rfl, by rfl⟩) l
structure StOK (x : Stp) : Prop where
  i : x.inn.length ≤ 1099511627776 ∧ ∀ w ∈ x.inn, w.length ≤ 1099511627776
  u : x.usg.length ≤ 1099511627776 ∧ ∀ w ∈ x.usg, w.length ≤ 1099511627776
  w : x.wds.length ≤ 1099511627776 ∧ ∀ w ∈ x.wds, w.length ≤ 1099511627776
  o : x.out.length ≤ 1099511627776
def namedB (x : Stp) : Bool := x.inn.all refB && (x.usg.all refB && (x.wds.all idB && pathE x.out == 0))
end Go.Ab
namespace Go.Ab
open Go Go.RowKit Go.Proofs
set_option maxRecDepth 10000
set_option maxHeartbeats 16000000
def litS : List (Bs × UInt8) → Bs
  | [] => []
  | (n, c) :: r => n ++ [c, 32] ++ litS r
def nsg (g : Gp) : Bs × UInt8 := (g.name, signB g)
theorem formS_lit (l : List Gp) : formS l = litS (l.map nsg) := by
  induction l with
  | nil => rfl
  | cons g l ih => rw [formS, ih]; rfl
def okN (p : Bs × UInt8) : Prop := (∀ b ∈ p.1, b ≠ 32) ∧ p.2 ≠ 32
theorem litS_inj : ∀ (a b : List (Bs × UInt8)), (∀ p ∈ a, okN p) → (∀ p ∈ b, okN p) → litS a = litS b → a = b
  | [], [], _, _, _ => rfl
  | [], (n, c) :: r, _, _, h => by
    have := congrArg List.length h
    simp [litS] at this
  | (n, c) :: r, [], _, _, h => by
    have := congrArg List.length h
    simp [litS] at this
  | (n, c) :: r, (m, d) :: q, ha, hb, h => by
    obtain ⟨a1, a2⟩ := ha (n, c) (by simp)
    obtain ⟨b1, b2⟩ := hb (m, d) (by simp)
    have key : ∀ (x y : Bs) (s t : Bs), (∀ b ∈ x, b ≠ 32) → (∀ b ∈ y, b ≠ 32) → x ++ 32 :: s = y ++ 32 :: t → x = y ∧ s = t := by
      intro x
      induction x with
      | nil =>
        intro y s t _ hy e
        cases y with
        | nil => simp at e; exact ⟨rfl, e⟩
        | cons z y => simp at e; exact absurd e.1.symm (hy z (by simp))
      | cons z x ih =>
        intro y s t hx hy e
        cases y with
        | nil => simp at e; exact absurd e.1 (hx z (by simp))
        | cons z' y =>
          simp only [List.cons_append, List.cons.injEq] at e
          obtain ⟨rfl, e⟩ := e
          obtain ⟨rfl, h2⟩ := ih y s t (fun b hb => hx b (by simp [hb])) (fun b hb => hy b (by simp [hb])) e
          exact ⟨rfl, h2⟩
    have e : (n ++ [c]) ++ 32 :: litS r = (m ++ [d]) ++ 32 :: litS q := by
      have := h
      simp only [litS] at this
      simpa using this
    obtain ⟨h1, h2⟩ := key (n ++ [c]) (m ++ [d]) _ _ (fun b hb => by
      rcases List.mem_append.1 hb with hb | hb
      · exact a1 b hb
      · rw [List.mem_singleton.1 hb]; exact a2) (fun b hb => by
      rcases List.mem_append.1 hb with hb | hb
      · exact b1 b hb
      · rw [List.mem_singleton.1 hb]; exact b2) e
    have h3 := List.append_inj' h1 rfl
    obtain ⟨rfl, h4⟩ := h3
    cases h4
    rw [litS_inj r q (fun p hp => ha p (by simp [hp])) (fun p hp => hb p (by simp [hp])) h2]
def NoBl (l : List Gp) : Prop := ∀ g ∈ l, ∀ b ∈ g.name, b ≠ 32
theorem sign_ne (g : Gp) : signB g ≠ 32 := by
  unfold signB
  split
  · rename_i h
    have : ∀ n : Nat, n < 2 → UInt8.ofNat (48 + n) ≠ 32 := by decide
    exact this _ h
  · decide
theorem form_is {l : List Gp} (hb : NoBl l) {q : List (Bs × UInt8)} (hq : ∀ p ∈ q, okN p) (h : formS l = litS q) : l.map nsg = q :=
  litS_inj _ _ (fun p hp => by
    obtain ⟨g, hg, rfl⟩ := List.mem_map.1 hp
    exact ⟨hb g hg, sign_ne g⟩) hq (by rw [← formS_lit]; exact h)
theorem sign_one {g : Gp} (h : signB g = 49) : ∃ w, g.words = [w] := by
  unfold signB at h
  split at h
  · rename_i h2
    have h3 : g.words.length = 1 := by
      have : ∀ n : Nat, n < 2 → UInt8.ofNat (48 + n) = 49 → n = 1 := by decide
      exact this _ h2 h
    exact List.length_eq_one_iff.1 h3
  · exact absurd h (by decide)
theorem sign_many {g : Gp} (h : signB g = 43) : ∃ w v r, g.words = w :: v :: r := by
  unfold signB at h
  split at h
  · rename_i h2
    have : ∀ n : Nat, n < 2 → UInt8.ofNat (48 + n) ≠ 43 := by decide
    exact absurd h (this _ h2)
  · rename_i h2
    match hw : g.words, h2 with
    | [], h2 => simp at h2
    | [w], h2 => simp at h2
    | w :: v :: r, _ => exact ⟨w, v, r, rfl⟩
def kCompile : Bs := [99, 111, 109, 112, 105, 108, 101]
def kArchive : Bs := [97, 114, 99, 104, 105, 118, 101]
def kShare : Bs := [115, 104, 97, 114, 101]
def kLink : Bs := [108, 105, 110, 107]
def kRun : Bs := [114, 117, 110]
def kPatch : Bs := [112, 97, 116, 99, 104]
def kCopy : Bs := [99, 111, 112, 121]
def kInstall : Bs := [105, 110, 115, 116, 97, 108, 108]
def kTo : Bs := [116, 111]
def kWith : Bs := [119, 105, 116, 104]
def kUsing : Bs := [117, 115, 105, 110, 103]
def kOn : Bs := [111, 110]
def kAs : Bs := [97, 115]
def cc1 (s : Bs) : Bool := s == [99, 111, 109, 112, 105, 108, 101, 49, 32, 116, 111, 49, 32]
def cc2 (s : Bs) : Bool := someB s [99, 111, 109, 112, 105, 108, 101, 49, 32, 116, 111, 49, 32, 119, 105, 116, 104] []
def cc3 (s : Bs) : Bool := someB s [97, 114, 99, 104, 105, 118, 101] [116, 111, 49, 32]
def cc4 (s : Bs) : Bool := someB s [115, 104, 97, 114, 101] [116, 111, 49, 32]
def cc5 (s : Bs) : Bool := s == [108, 105, 110, 107, 43, 32, 116, 111, 49, 32]
def cc6 (s : Bs) : Bool := someB s [108, 105, 110, 107, 43, 32, 117, 115, 105, 110, 103] [116, 111, 49, 32]
def cc7 (s : Bs) : Bool := s == [114, 117, 110, 49, 32, 111, 110, 49, 32, 116, 111, 49, 32]
def cc8 (s : Bs) : Bool := someB s [114, 117, 110, 49, 32, 117, 115, 105, 110, 103] [111, 110, 49, 32, 116, 111, 49, 32]
def cc9 (s : Bs) : Bool := s == [112, 97, 116, 99, 104, 49, 32, 119, 105, 116, 104, 49, 32, 116, 111, 49, 32]
def cc10 (s : Bs) : Bool := s == [99, 111, 112, 121, 49, 32, 116, 111, 49, 32]
def cc11 (s : Bs) : Bool := s == [105, 110, 115, 116, 97, 108, 108, 49, 32, 97, 115, 49, 32]
def gAt (l : List Gp) (i : Nat) : List Bs := (l.getD i ⟨[], []⟩).words
def outR (l : List Gp) : Bs := if decide ((l.length : Int) > 1) then (gAt l (l.length - 1)).headD [] else []
def stepG (s : Bs) (l : List Gp) : Stp × Bool :=
  if cc1 s then (⟨0, 1, gAt l 0, [], [], outR l⟩, true)
  else if cc2 s then (⟨0, 1, gAt l 0, [], gAt l 2, (gAt l 1).headD []⟩, true)
  else if cc3 s then (⟨0, 2, gAt l 0, [], [], outR l⟩, true)
  else if cc4 s then (⟨0, 3, gAt l 0, [], [], outR l⟩, true)
  else if cc5 s then (⟨0, 4, (gAt l 0).drop 1, [], (gAt l 0).take 1, outR l⟩, true)
  else if cc6 s then (⟨0, 4, (gAt l 0).drop 1, gAt l 1, (gAt l 0).take 1, outR l⟩, true)
  else if cc7 s then (⟨0, 5, [(gAt l 0).headD [], (gAt l 1).headD []], [], [], outR l⟩, true)
  else if cc8 s then (⟨0, 5, [(gAt l 0).headD [], (gAt l 2).headD []], gAt l 1, [], outR l⟩, true)
  else if cc9 s then (⟨0, 6, [(gAt l 0).headD [], (gAt l 1).headD []], [], [], outR l⟩, true)
  else if cc10 s then (⟨0, 7, gAt l 0, [], [], outR l⟩, true)
  else if cc11 s then (⟨0, 8, gAt l 0, [], [], outR l⟩, true)
  else (⟨0, 0, [], [], [], []⟩, false)
def stepR (l : List Gp) : Stp × Bool := stepG (formS l) l
end Go.Ab
namespace Go.Ab
open Go Go.RowKit Go.Proofs
set_option maxRecDepth 10000
set_option maxHeartbeats 16000000
end Go.Ab
namespace Go.Ab
open Go Go.RowKit Go.Proofs
set_option maxRecDepth 10000
set_option maxHeartbeats 8000000
def WL (l : List Bs) : Prop := l.length ≤ 1099511627776 ∧ ∀ w ∈ l, w.length ≤ 1099511627776
theorem splitB_no (c : UInt8) (s : Bs) : ∀ w ∈ splitB c s, ∀ b ∈ w, b ≠ c := by
  induction s with
  | nil => intro w hw; simp [splitB] at hw; simp [hw]
  | cons x r ih =>
    intro w hw
    rw [splitB] at hw
    split at hw
    · rcases List.mem_cons.1 hw with rfl | hw
      · simp
      · exact ih w hw
    · rename_i hx
      cases hs : splitB c r with
      | nil => exact absurd hs (splitB_ne c r)
      | cons y l =>
        rw [hs] at hw ih
        rcases List.mem_cons.1 hw with rfl | hw
        · intro b hb
          rcases List.mem_append.1 hb with hb | hb
          · rw [List.mem_singleton.1 hb]; intro h; exact hx (by rw [h]; exact BEq.rfl)
          · exact ih y (by simp) b hb
        · exact ih w (by simp [hw])
theorem gAll_all {P : Bs → Prop} (l : List Bs) (hl : ∀ w ∈ l, P w) : ∀ (p : List Gp × Gp), (∀ g ∈ p.1, P g.name ∧ ∀ w ∈ g.words, P w) → (P p.2.name ∧ ∀ w ∈ p.2.words, P w) →
    (∀ g ∈ (l.foldl gstep p).1, P g.name ∧ ∀ w ∈ g.words, P w) ∧ (P (l.foldl gstep p).2.name ∧ ∀ w ∈ (l.foldl gstep p).2.words, P w) := by
  induction l with
  | nil => intro p h1 h2; exact ⟨h1, h2⟩
  | cons w l ih =>
    intro p h1 h2
    rw [List.foldl_cons]
    have hw := hl w (by simp)
    refine ih (fun v hv => hl v (by simp [hv])) _ ?_ ?_
    · unfold gstep
      split
      · intro g hg
        rcases List.mem_append.1 hg with hg | hg
        · exact h1 g hg
        · rw [List.mem_singleton.1 hg]; exact h2
      · exact h1
    · unfold gstep
      split
      · exact ⟨hw, fun v hv => by simp at hv⟩
      · refine ⟨h2.1, fun v hv => ?_⟩
        rcases List.mem_append.1 hv with hv | hv
        · exact h2.2 v hv
        · rw [List.mem_singleton.1 hv]; exact hw
theorem gList_all {P : Bs → Prop} {nm : Bs} {l : List Bs} (hn : P nm) (hl : ∀ w ∈ l, P w) : ∀ g ∈ gList nm l, P g.name ∧ ∀ w ∈ g.words, P w := by
  have h := gAll_all l hl ([], ⟨nm, []⟩) (fun g hg => by simp at hg) ⟨hn, fun v hv => by simp at hv⟩
  intro g hg
  rcases List.mem_append.1 hg with hg | hg
  · exact h.1 g hg
  · rw [List.mem_singleton.1 hg]; exact h.2
theorem gAll_wl (N : Nat) (l : List Bs) : ∀ (p : List Gp × Gp), (∀ g ∈ p.1, g.words.length ≤ N) → p.2.words.length + l.length ≤ N →
    (∀ g ∈ (l.foldl gstep p).1, g.words.length ≤ N) ∧ (l.foldl gstep p).2.words.length ≤ N := by
  induction l with
  | nil => intro p h1 h2; exact ⟨h1, h2⟩
  | cons w l ih =>
    intro p h1 h2
    rw [List.foldl_cons]
    simp only [List.length_cons] at h2
    refine ih _ ?_ ?_
    · unfold gstep
      split
      · intro g hg
        rcases List.mem_append.1 hg with hg | hg
        · exact h1 g hg
        · rw [List.mem_singleton.1 hg]; omega
      · exact h1
    · unfold gstep
      split
      · simp only [List.length_nil]; omega
      · simp only [List.length_append, List.length_cons, List.length_nil]; omega
theorem gList_wl (nm : Bs) (l : List Bs) : ∀ g ∈ gList nm l, g.words.length ≤ l.length := by
  have h := gAll_wl l.length l ([], ⟨nm, []⟩) (fun g hg => by simp at hg) (by simp)
  intro g hg
  rcases List.mem_append.1 hg with hg | hg
  · exact h.1 g hg
  · rw [List.mem_singleton.1 hg]; exact h.2
theorem gList_len (nm : Bs) (l : List Bs) : (gList nm l).length ≤ l.length + 1 := by
  have := (gAll_bd nm l).1
  unfold gList
  rw [List.length_append, List.length_singleton]
  omega
theorem gAt_wl {l : List Gp} (h : ∀ g ∈ l, WL g.words) (i : Nat) : WL (gAt l i) := by
  unfold gAt
  rw [List.getD_eq_getElem?_getD]
  cases he : l[i]? with
  | none => exact ⟨by simp, fun w hw => by simp at hw⟩
  | some g => exact h g (List.mem_of_getElem? he)
theorem headD_bd {l : List Bs} (h : WL l) : (l.headD []).length ≤ 1099511627776 := by
  cases l with
  | nil => simp
  | cons w r => exact h.2 w (by simp)
theorem wl_nil : WL [] := ⟨by simp, fun w hw => by simp at hw⟩
theorem wl_two {a b : Bs} (ha : a.length ≤ 1099511627776) (hb : b.length ≤ 1099511627776) : WL [a, b] := ⟨by simp, fun w hw => by
  rcases List.mem_cons.1 hw with rfl | hw
  · exact ha
  · rw [List.mem_singleton.1 hw]; exact hb⟩
theorem wl_drop {l : List Bs} (h : WL l) (n : Nat) : WL (l.drop n) := ⟨by have := h.1; rw [List.length_drop]; omega, fun w hw => h.2 w (List.mem_of_mem_drop hw)⟩
theorem wl_take {l : List Bs} (h : WL l) (n : Nat) : WL (l.take n) := ⟨by have := h.1; rw [List.length_take]; omega, fun w hw => h.2 w (List.mem_of_mem_take hw)⟩
theorem step_ok {l : List Gp} (h : ∀ g ∈ l, WL g.words) : StOK (stepR l).1 := by
  have g := gAt_wl h
  have ho : (outR l).length ≤ 1099511627776 := by
    unfold outR
    split
    · exact headD_bd (g _)
    · simp
  unfold stepR stepG
  repeat' split
  all_goals first
    | exact ⟨g _, wl_nil, wl_nil, ho⟩
    | exact ⟨g _, wl_nil, g _, headD_bd (g _)⟩
    | exact ⟨wl_drop (g _) _, wl_nil, wl_take (g _) _, ho⟩
    | exact ⟨wl_drop (g _) _, g _, wl_take (g _) _, ho⟩
    | exact ⟨wl_two (headD_bd (g _)) (headD_bd (g _)), wl_nil, wl_nil, ho⟩
    | exact ⟨wl_two (headD_bd (g _)) (headD_bd (g _)), g _, wl_nil, ho⟩
    | exact ⟨wl_nil, wl_nil, wl_nil, by simp⟩
def dupB (pre : List Bs) : List Bs → Bool
  | [] => false
  | w :: r => hasB pre w || dupB (pre ++ [w]) r
theorem dup_next {l : List Bs} {i : Nat} (hi : i < l.length) : dupB (l.take i) (l.drop i) = (hasB (l.take i) l[i] || dupB (l.take (i + 1)) (l.drop (i + 1))) := by
  rw [List.drop_eq_getElem_cons hi, dupB, List.take_add_one, List.getElem?_eq_getElem hi]
  rfl
def zStp : Stp := ⟨0, 0, [], [], [], []⟩
def lineS (x : Stp) : Stp × Int := if namedB x then (if x.kind == 1 && dupB [] x.wds then (zStp, 6) else (x, 0)) else (zStp, 2)
def lineP (p : Stp × Bool) : Stp × Int := if p.2 then lineS p.1 else (zStp, 4)
def lineR (s : Bs) : Stp × Int := if (splitB 32 s).any (· == []) then (zStp, 4) else lineP (stepR (gList ((splitB 32 s).headD []) (splitB 32 s).tail))
def eLn (p : Stp × Int) : D := .tup [eSt p.1, i64 p.2]
end Go.Ab
namespace Go.Ab
open Go Go.RowKit Go.Proofs
set_option maxRecDepth 10000
set_option maxHeartbeats 8000000
def atL (x : Stp) (i : Int) : Stp := ⟨i, x.kind, x.inn, x.usg, x.wds, x.out⟩
def addE (n : Nat) (e : Int) : Int := if e == 0 then (if decide ((n : Int) ≥ 64) then 10 else 0) else e
def parseGo : Nat → List Stp → List Bs → List Stp × Int × Int
  | _, acc, [] => (acc, -1, 0)
  | i, acc, w :: r => if w == [] then parseGo (i + 1) acc r else if addE acc.length (lineR w).2 == 0 then parseGo (i + 1) (acc ++ [atL (lineR w).1 i]) r else ([], i, addE acc.length (lineR w).2)
def parseR (s : Bs) : List Stp × Int × Int := if (linesE s).2 == 0 then parseGo 0 [] (linesE s).1 else ([], -1, (linesE s).2)
def ePs (p : List Stp × Int × Int) : D := .tup [.list (p.1.map eSt), i64 p.2.1, i64 p.2.2]
theorem parseGo_drop {l : List Bs} {i : Nat} {acc : List Stp} (hi : i < l.length) : parseGo i acc (l.drop i) =
    if l[i] == [] then parseGo (i + 1) acc (l.drop (i + 1)) else if addE acc.length (lineR l[i]).2 == 0 then parseGo (i + 1) (acc ++ [atL (lineR l[i]).1 i]) (l.drop (i + 1)) else ([], i, addE acc.length (lineR l[i]).2) := by
  rw [List.drop_eq_getElem_cons hi, parseGo]
theorem lines_bd (s : Bs) : (linesE s).1.length ≤ 1024 ∧ ∀ w ∈ (linesE s).1, w.length ≤ s.length := by
  unfold linesE
  split
  · exact ⟨by simp, fun w hw => by simp at hw⟩
  · split
    · exact ⟨by simp, fun w hw => by simp at hw⟩
    · rename_i h
      exact ⟨by show (splitB 10 s).length ≤ 1024; simp only [decide_eq_true_eq] at h; omega, splitB_mem_len 10 s⟩
end Go.Ab
namespace Go.Ab
open Go Go.RowKit Go.Proofs
set_option maxRecDepth 10000
set_option maxHeartbeats 16000000
def listS : List Bs → Bs
  | [] => []
  | w :: r => [32] ++ w ++ listS r
theorem listS_append (a b : List Bs) : listS (a ++ b) = listS a ++ listS b := by
  induction a with
  | nil => rfl
  | cons g a ih => rw [List.cons_append, listS, ih, listS]; simp
theorem listS_le (l : List Bs) (i : Nat) : (listS (l.take i)).length ≤ (listS l).length := by
  conv => rhs; rw [← List.take_append_drop i l, listS_append]
  rw [List.length_append]
  omega
theorem listS_ge (l : List Bs) (i : Nat) : (listS (l.drop i)).length ≤ (listS l).length := by
  conv => rhs; rw [← List.take_append_drop i l, listS_append]
  rw [List.length_append]
  omega
theorem listS_len : ∀ l : List Bs, l.length ≤ (listS l).length
  | [] => Nat.le_refl _
  | w :: r => by
    have := listS_len r
    rw [listS]
    simp only [List.length_append, List.length_cons, List.length_nil]
    omega
theorem listS_hd (l : List Bs) : (l.headD []).length ≤ (listS l).length := by
  cases l with
  | nil => exact Nat.le_refl _
  | cons w r => rw [listS]; simp only [List.headD_cons, List.length_append]; omega
def usgS (x : Stp) : Bs := if decide ((x.usg.length : Int) > 0) then [32, 117, 115, 105, 110, 103] ++ listS x.usg else []
def txA (nm to : Bs) (x : Stp) : Bs := nm ++ listS x.wds ++ listS x.inn ++ usgS x ++ to ++ x.out
def txB (nm md : Bs) (x : Stp) : Bs := nm ++ listS x.wds ++ [32] ++ x.inn.headD [] ++ usgS x ++ md ++ listS (x.inn.drop 1) ++ [32, 116, 111, 32] ++ x.out
def txC (x : Stp) : Bs := [99, 111, 109, 112, 105, 108, 101] ++ listS x.inn ++ usgS x ++ [32, 116, 111, 32] ++ x.out
def textS (x : Stp) : Bs :=
  if x.kind == 1 then (if decide ((x.wds.length : Int) > 0) then txC x ++ [32, 119, 105, 116, 104] ++ listS x.wds else txC x)
  else if x.kind == 2 then txA [97, 114, 99, 104, 105, 118, 101] [32, 116, 111, 32] x
  else if x.kind == 3 then txA [115, 104, 97, 114, 101] [32, 116, 111, 32] x
  else if x.kind == 4 then txA [108, 105, 110, 107] [32, 116, 111, 32] x
  else if x.kind == 5 then txB [114, 117, 110] [32, 111, 110] x
  else if x.kind == 6 then txB [112, 97, 116, 99, 104] [32, 119, 105, 116, 104] x
  else if x.kind == 7 then txA [99, 111, 112, 121] [32, 116, 111, 32] x
  else if x.kind == 8 then txA [105, 110, 115, 116, 97, 108, 108] [32, 97, 115, 32] x
  else [32]
structure TX (x : Stp) : Prop where
  i : (listS x.inn).length ≤ 1000000000
  u : (listS x.usg).length ≤ 1000000000
  w : (listS x.wds).length ≤ 1000000000
  o : x.out.length ≤ 1000000000
end Go.Ab
