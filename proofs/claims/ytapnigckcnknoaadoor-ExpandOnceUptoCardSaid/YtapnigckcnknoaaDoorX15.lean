/-
  One text of the proof (own work): contracts of functions of the program, by the abstract machine.
-/
import Derived.Shelf.Strings.SlTrimAscii
import Derived.Shelf.Strings.Count
import Derived.Shelf.Strings.Search3
import Derived.Shelf.Small.Strs
import Derived.Shelf.GgClosure.StringsIndexFuncTop
import Derived.Shelf.Strings.OnBuilder
import Derived.Shelf.Strings.FuncGrows
import Derived.Laws.RangeAny
import Derived.Tactics
import Derived.Tactics2
import Derived.LoopTactic
import Derived.Laws.RangeString
import Derived.Laws.Strings
import Derived.Laws.Bits64
import Derived.Below
import Derived.Test.YtapnigckcnknoaaDoorX14
import Derived.Test.YtapnigckcnknoaaDoorX12
set_option linter.unusedVariables false
set_option linter.unusedSimpArgs false
namespace Go.Ab
open Go Go.RowKit Go.Proofs
set_option maxRecDepth 10000
set_option maxHeartbeats 8000000
theorem joinT_bd (M : Nat) : ∀ (l : List Bs), (∀ w ∈ l, w.length ≤ M) → (joinT l).length ≤ (M + 1) * l.length
  | [], _ => by simp [joinT]
  | w :: l, h => by
    have h1 := h w (by simp)
    have h2 := joinT_bd M l (fun x hx => h x (by simp [hx]))
    rw [joinT]
    simp only [List.length_append, List.length_cons, List.length_nil, Nat.mul_add]
    omega
end Go.Ab
namespace Go.Ab
open Go Go.RowKit Go.Proofs
set_option maxRecDepth 10000
set_option maxHeartbeats 8000000
end Go.Ab
namespace Go.Ab
open Go Go.RowKit Go.Proofs
set_option maxRecDepth 10000
set_option maxHeartbeats 16000000
structure Pt where
  sep : Bs
  least : Int
  many : Bool
def ePt (p : Pt) : D := .agg [.str p.sep, i64 p.least, .bool p.many]
@[go_sem] theorem ePt_eq (p : Pt) : ePt p = .agg [.str p.sep, .int .i64 p.least, .bool p.many] := rfl
@[go_sem] theorem elemsOK_pt (l : List Pt) : elemsOK 3 (l.map ePt) = true := elemsOK_map (f := ePt) (fun _ => ⟨by rfl, by rfl⟩) l
end Go.Ab
namespace Go.Ab
open Go Go.RowKit Go.Proofs
set_option maxRecDepth 10000
set_option maxHeartbeats 8000000
def eRow (l : List Pt) : D := .list (l.map ePt)
@[go_sem] theorem eRow_eq (l : List Pt) : eRow l = .list (l.map ePt) := rfl
@[go_sem] theorem elemsOK_row (l : List (List Pt)) : elemsOK 1 (l.map eRow) = true := elemsOK_map (f := eRow) (fun _ => ⟨by rfl, by rfl⟩) l
end Go.Ab
namespace Go.Ab
open Go Go.RowKit Go.Proofs
set_option maxRecDepth 10000
set_option maxHeartbeats 8000000
end Go.Ab
namespace Go.Ab
open Go Go.RowKit
def D.val : D → Value
  | .int k n => .int k n
  | .bool b => .bool b
  | .str s => .string ⟨s.toArray⟩
  | _ => undef
def D.scalar : D → Bool
  | .int _ _ => true
  | .bool _ => true
  | .str _ => true
  | _ => false
theorem scalar_val {w : World} {B : Nat → Prop} {d : D} {v : Value} (hs : d.scalar = true) (h : DR w B d v) : v = d.val := by
  cases h <;> first | rfl | cases hs
theorem scalar_reads {w : World} {B : Nat → Prop} {d : D} (hs : d.scalar = true) : DR w B d d.val := by
  cases d <;> first | exact .int _ _ | exact .bool _ | exact .str _ | cases hs
theorem scalar_flat {d : D} (hs : d.scalar = true) : d.Flat := by
  cases d <;> first | exact .int _ _ | exact .bool _ | exact .str _ | cases hs
theorem pure_calls {P : Program} {f : FuncId} {fn : Func} {X : Type} {enc : X → List D} {dom : X → Prop} {out : X → D} {fl : Bool} (hf : P.funcs[f]? = some fn) (hname : (fn.name == "runtime.NumGoroutine") = false) (hb : fn.body.isNone = false)
    (hsc : ∀ x, (enc x).all D.scalar = true ∧ (out x).scalar = true) (h : ∀ x, dom x → ∀ w : World, Calls P f ((enc x).map D.val).toArray w fun e w' => e = .returned (out x).val ∧ Below w.heap.size w w') : PureOK P f fl (encSpec enc dom out) := by
  intro ds d hd
  obtain ⟨x, rfl, hx, rfl⟩ := encSpec_some hd
  obtain ⟨h1, h2⟩ := hsc x
  refine ⟨fun _ => scalar_flat h2, fun w B vs hB hz hvs => ⟨⟨fn, hf, hname, hb⟩, ?_⟩⟩
  have hvs2 : vs = ((enc x).map D.val).toArray := by
    apply Array.ext_getElem?
    intro i
    by_cases hi : i < (enc x).length
    · have hi2 : i < vs.size := by omega
      have h3 := hvs i hi vs[i] (Array.getElem?_eq_getElem hi2)
      rw [Array.getElem?_eq_getElem hi2, scalar_val (List.all_eq_true.1 h1 _ (List.getElem_mem hi)) h3]
      simp [hi]
    · rw [Array.getElem?_eq_none (by omega), Array.getElem?_eq_none (by simp; omega)]
  rw [hvs2]
  refine (h x hx w).mono ?_
  rintro e w' ⟨rfl, hbl⟩
  exact ⟨_, rfl, scalar_reads h2, hbl⟩
end Go.Ab
namespace Go.Ab
open Go Go.RowKit Go.Proofs Go.Shelf
set_option maxRecDepth 100000
set_option maxHeartbeats 4000000
def shRen : Ren := ⟨fun | 137 => 74 | 138 => 59 | 143 => 81 | 195 => 79 | 217 => 89 | 218 => 80 | 219 => 90 | 224 => 95 | 225 => 94 | 266 => 93 | 267 => 96 | 314 => 98 | n => n, fun | 46 => 104 | 51 => 108 | 146 => 152 | n => n, fun | 1 => 0 | n => n⟩
theorem lay137 : Lays.n137 Tryd.prog shRen := {
  mixed := by kernel_rfl
  f137 := by kernel_rfl
  f217 := by kernel_rfl
  f266 := by kernel_rfl
  t3 := by kernel_rfl
  a3 := by intro w; kernel_rfl
  z3 := by intro w; kernel_rfl
  v3 := by intro w; kernel_rfl
  t5 := by kernel_rfl
  a5 := by intro w; kernel_rfl
  z5 := by intro w; kernel_rfl
  v5 := by intro w; kernel_rfl
  t9 := by kernel_rfl
  a9 := by intro w; kernel_rfl
  z9 := by intro w; kernel_rfl
  v9 := by intro w; kernel_rfl }
theorem lay138 : Lays.n138 Tryd.prog shRen := {
  mixed := by kernel_rfl
  f138 := by kernel_rfl
  f143 := by kernel_rfl
  f195 := by kernel_rfl
  f217 := by kernel_rfl
  f218 := by kernel_rfl
  f219 := by kernel_rfl
  f224 := by kernel_rfl
  f225 := by kernel_rfl
  f266 := by kernel_rfl
  f267 := by kernel_rfl
  f314 := by kernel_rfl
  t0 := by kernel_rfl
  a0 := by intro w; kernel_rfl
  z0 := by intro w; kernel_rfl
  v0 := by intro w; kernel_rfl
  t3 := by kernel_rfl
  a3 := by intro w; kernel_rfl
  z3 := by intro w; kernel_rfl
  v3 := by intro w; kernel_rfl
  t4 := by kernel_rfl
  a4 := by intro w; kernel_rfl
  z4 := by intro w; kernel_rfl
  v4 := by intro w; kernel_rfl
  t5 := by kernel_rfl
  a5 := by intro w; kernel_rfl
  z5 := by intro w; kernel_rfl
  v5 := by intro w; kernel_rfl
  t9 := by kernel_rfl
  a9 := by intro w; kernel_rfl
  z9 := by intro w; kernel_rfl
  v9 := by intro w; kernel_rfl
  t46 := by kernel_rfl
  a46 := by intro w; kernel_rfl
  z46 := by intro w; kernel_rfl
  v46 := by intro w; kernel_rfl
  t51 := by kernel_rfl
  a51 := by intro w; kernel_rfl
  z51 := by intro w; kernel_rfl
  v51 := by intro w; kernel_rfl
  t146 := by kernel_rfl
  a146 := by intro w; kernel_rfl
  z146 := by intro w; kernel_rfl
  v146 := by intro w; kernel_rfl
  g1 := by kernel_rfl }
theorem lay143 : Lays.n143 Tryd.prog shRen := {
  mixed := by kernel_rfl
  f143 := by kernel_rfl
  f217 := by kernel_rfl
  f219 := by kernel_rfl
  f224 := by kernel_rfl
  f225 := by kernel_rfl
  f266 := by kernel_rfl
  f267 := by kernel_rfl
  f314 := by kernel_rfl
  t3 := by kernel_rfl
  a3 := by intro w; kernel_rfl
  z3 := by intro w; kernel_rfl
  v3 := by intro w; kernel_rfl
  t4 := by kernel_rfl
  a4 := by intro w; kernel_rfl
  z4 := by intro w; kernel_rfl
  v4 := by intro w; kernel_rfl
  t5 := by kernel_rfl
  a5 := by intro w; kernel_rfl
  z5 := by intro w; kernel_rfl
  v5 := by intro w; kernel_rfl
  t9 := by kernel_rfl
  a9 := by intro w; kernel_rfl
  z9 := by intro w; kernel_rfl
  v9 := by intro w; kernel_rfl
  t46 := by kernel_rfl
  a46 := by intro w; kernel_rfl
  z46 := by intro w; kernel_rfl
  v46 := by intro w; kernel_rfl
  t51 := by kernel_rfl
  a51 := by intro w; kernel_rfl
  z51 := by intro w; kernel_rfl
  v51 := by intro w; kernel_rfl
  t146 := by kernel_rfl
  a146 := by intro w; kernel_rfl
  z146 := by intro w; kernel_rfl
  v146 := by intro w; kernel_rfl
  g1 := by kernel_rfl }
def shRenG : Ren := ⟨fun | 15 => 72 | 20 => 88 | n => n, fun | 23 => 112 | n => n, fun | n => n⟩
theorem layG15 : LaysGw.n15 Tryd.prog shRenG := {
  mixed := by kernel_rfl
  f15 := by kernel_rfl
  f20 := by kernel_rfl
  t0 := by kernel_rfl
  a0 := by intro w; kernel_rfl
  z0 := by intro w; kernel_rfl
  v0 := by intro w; kernel_rfl
  i0 := by kernel_rfl
  t3 := by kernel_rfl
  a3 := by intro w; kernel_rfl
  z3 := by intro w; kernel_rfl
  v3 := by intro w; kernel_rfl
  i3 := by kernel_rfl
  t4 := by kernel_rfl
  a4 := by intro w; kernel_rfl
  z4 := by intro w; kernel_rfl
  v4 := by intro w; kernel_rfl
  i4 := by kernel_rfl
  t9 := by kernel_rfl
  a9 := by intro w; kernel_rfl
  z9 := by intro w; kernel_rfl
  v9 := by intro w; kernel_rfl
  i9 := by kernel_rfl
  t21 := by kernel_rfl
  a21 := by intro w; kernel_rfl
  z21 := by intro w; kernel_rfl
  v21 := by intro w; kernel_rfl
  i21 := by kernel_rfl
  t23 := by kernel_rfl
  a23 := by intro w; kernel_rfl
  z23 := by intro w; kernel_rfl
  v23 := by intro w; kernel_rfl
  i23 := by kernel_rfl }
end Go.Ab
namespace Go.Ab
open Go Go.RowKit Go.Proofs Go.Shelf
set_option maxRecDepth 100000
set_option maxHeartbeats 4000000
def shRenJ : Ren := ⟨fun | 156 => 16 | 165 => 34 | 166 => 35 | 169 => 36 | 240 => 56 | 241 => 57 | 276 => 75 | 277 => 76 | n => n, fun | 31 => 24 | 37 => 22 | 70 => 85 | 72 => 87 | 75 => 90 | 76 => 91 | 80 => 93 | 127 => 115 | 164 => 131 | n => n, fun | n => n⟩
theorem lay156 : Lays.n156 Tryd.prog shRenJ := {
  mixed := by kernel_rfl
  f156 := by kernel_rfl
  f165 := by kernel_rfl
  f166 := by kernel_rfl
  f169 := by kernel_rfl
  f240 := by kernel_rfl
  f241 := by kernel_rfl
  f276 := by kernel_rfl
  f277 := by kernel_rfl
  t0 := by kernel_rfl
  a0 := by intro w; kernel_rfl
  z0 := by intro w; kernel_rfl
  v0 := by intro w; kernel_rfl
  t3 := by kernel_rfl
  a3 := by intro w; kernel_rfl
  z3 := by intro w; kernel_rfl
  v3 := by intro w; kernel_rfl
  t4 := by kernel_rfl
  a4 := by intro w; kernel_rfl
  z4 := by intro w; kernel_rfl
  v4 := by intro w; kernel_rfl
  t9 := by kernel_rfl
  a9 := by intro w; kernel_rfl
  z9 := by intro w; kernel_rfl
  v9 := by intro w; kernel_rfl
  t20 := by kernel_rfl
  a20 := by intro w; kernel_rfl
  z20 := by intro w; kernel_rfl
  v20 := by intro w; kernel_rfl
  t31 := by kernel_rfl
  a31 := by intro w; kernel_rfl
  z31 := by intro w; kernel_rfl
  v31 := by intro w; kernel_rfl
  t37 := by kernel_rfl
  a37 := by intro w; kernel_rfl
  z37 := by intro w; kernel_rfl
  v37 := by intro w; kernel_rfl
  t70 := by kernel_rfl
  a70 := by intro w; kernel_rfl
  z70 := by intro w; kernel_rfl
  v70 := by intro w; kernel_rfl
  t72 := by kernel_rfl
  a72 := by intro w; kernel_rfl
  z72 := by intro w; kernel_rfl
  v72 := by intro w; kernel_rfl
  t75 := by kernel_rfl
  a75 := by intro w; kernel_rfl
  z75 := by intro w; kernel_rfl
  v75 := by intro w; kernel_rfl
  t76 := by kernel_rfl
  a76 := by intro w; kernel_rfl
  z76 := by intro w; kernel_rfl
  v76 := by intro w; kernel_rfl
  t127 := by kernel_rfl
  a127 := by intro w; kernel_rfl
  z127 := by intro w; kernel_rfl
  v127 := by intro w; kernel_rfl
  t164 := by kernel_rfl
  a164 := by intro w; kernel_rfl
  z164 := by intro w; kernel_rfl
  v164 := by intro w; kernel_rfl }
theorem extraJ : Builder.Extra Tryd.prog shRenJ := {
  t5 := by kernel_rfl
  a5 := by intro w; kernel_rfl
  z5 := by intro w; kernel_rfl
  v5 := by intro w; kernel_rfl
  infoByte := by kernel_rfl
  cellsByte := by kernel_rfl
  sizeByte := by kernel_rfl
  neB5 := by decide
  sizeBuilder := by kernel_rfl
  liesBuilder := by kernel_rfl }
noncomputable def g_join : List D → Option D := encSpec (fun x : List (List UInt8) × List UInt8 => [.list (x.1.map .str), .str x.2]) (fun x => x.1.length ≤ 1099511627776 ∧ (Lib.join x.1 x.2).length ≤ 1099511627776) (fun x => .str (Lib.join x.1 x.2))
theorem g_join_eq {l : List (List UInt8)} {s : List UInt8} (h : l.length ≤ 1099511627776 ∧ (Lib.join l s).length ≤ 1099511627776) : g_join [.list (l.map .str), .str s] = some (.str (Lib.join l s)) := encSpec_eq (x := (l, s)) h fun y hy => by
  obtain ⟨y0, y1⟩ := y
  simp only [List.cons.injEq, and_true, D.str.injEq, D.list.injEq] at hy
  obtain ⟨h1, rfl⟩ := hy
  rw [(strs_ie y0 l).mp h1]
theorem flat_strs (l : List (List UInt8)) : Ab.flat (l.map D.str) = l.map D.str := by
  induction l with
  | nil => rfl
  | cons x l ih =>
    rw [Ab.flat] at ih
    rw [List.map_cons, Ab.flat, List.flatMap_cons, ih]
    rfl
theorem join_calls {W : World} {B : Nat → Prop} {l : List (List UInt8)} {s : List UInt8} {v : Value} (hB : ∀ b, B b → b < W.heap.size) (h : DR W B (.list (l.map .str)) v) (hx1 : l.length ≤ 1099511627776) (hx2 : (Lib.join l s).length ≤ 1099511627776) :
    Calls Tryd.prog 16 #[v, .string ⟨s.toArray⟩] W fun e W' => e = .returned (.string ⟨(Lib.join l s).toArray⟩) ∧ Below W.heap.size W W' := by
  obtain ⟨ao, cap, e0, hl⟩ := h.list_inv
  rw [e0, List.length_map]
  have hmap : ∀ xs : List (List UInt8), (xs.map (fun x => (⟨x.toArray⟩ : ByteArray))).map (·.data.toList) = xs := fun xs => by
    rw [List.map_map]
    exact (List.map_congr_left (fun _ _ => rfl)).trans (List.map_id _)
  by_cases hn : l = []
  · subst hn
    exact (Any.strings_Join_none lay156 extraJ ao cap ⟨s.toArray⟩ W).mono fun e w' h => ⟨h.1, h.2 ▸ Below.refl _ _⟩
  rcases hl with hl | ⟨a, sz, u, rfl, hb, hc, hs, ho, hm, hh⟩
  · exact absurd (List.map_eq_nil_iff.1 hl) hn
  rw [flat_strs] at hm hh
  have hcell : ∀ (j : Nat) (hj : j < l.length), W.cell? (a.add j) = some (.string ⟨(l[j]).toArray⟩) := fun j hj => by
    have k := hh j (by simpa using hj)
    rw [List.getElem_map] at k
    rw [hm j (by simpa using hj), k.str_eq]
  have hsp : a.spot = none := by
    have h := hcell 0 (List.length_pos_iff.2 hn)
    rw [show a.add 0 = a from rfl] at h
    unfold World.cell? at h
    split at h
    · split at h
      · cases h
      · rename_i hq; simpa using hq
    · cases h
  obtain ⟨bk, o, sp⟩ := a
  dsimp only at hsp hb
  subst hsp
  have hj := Any.strings_Join lay156 extraJ bk o cap (l.map (fun x => (⟨x.toArray⟩ : ByteArray))) ⟨s.toArray⟩ W (fun j x hj => by
    simp only [List.getElem?_map, Option.map_eq_some_iff] at hj
    obtain ⟨y, hy, rfl⟩ := hj
    obtain ⟨hj, rfl⟩ := List.getElem?_eq_some_iff.1 hy
    have h := hcell j hj
    cases j with
    | zero => exact h
    | succ j => exact h) (hB _ hb) (by simp only [List.length_map]; omega) (by simpa using hc) (by rw [hmap]; show (Lib.join l s).length ≤ _; omega)
  rw [hmap, List.length_map] at hj
  exact hj
theorem f_join_ok : PureOK Tryd.prog 16 true g_join := by
  intro ds d hd
  obtain ⟨⟨l, s⟩, rfl, ⟨hx1, hx2⟩, rfl⟩ := encSpec_some hd
  refine ⟨fun _ => .str _, fun w B vs hB hz hvs => ⟨⟨Tryd.f16, Tryd.func16, by kernel_rfl, by kernel_rfl⟩, ?_⟩⟩
  have hz2 : vs.size = 2 := hz
  have h0 : 0 < vs.size := by omega
  have h1 : 1 < vs.size := by omega
  have hv0 := hvs 0 (by simp) (vs[0]'h0) (Array.getElem?_eq_getElem h0)
  have hv1 := hvs 1 (by simp) (vs[1]'h1) (Array.getElem?_eq_getElem h1)
  have e : vs = #[vs[0]'h0, vs[1]'h1] := Array.ext hz2 fun i i1 i2 => by
    match i, i2 with
    | 0, _ => rfl
    | 1, _ => rfl
  have e1 : vs[1]'h1 = .string ⟨s.toArray⟩ := DR.str_eq hv1
  rw [e, e1]
  refine (join_calls hB hv0 hx1 hx2).mono fun e w' h => ⟨_, h.1, .str _, h.2⟩
end Go.Ab
namespace Go.Ab
open Go Go.RowKit Go.Proofs Go.Shelf
set_option maxRecDepth 100000
set_option maxHeartbeats 4000000
noncomputable def g_idx1 : List D → Option D := encSpec (fun x : List UInt8 × UInt8 => [.str x.1, .str [x.2]]) (fun x => x.1.length ≤ 1099511627776) (fun x => i64 (Lib.indexByte x.1 x.2))
theorem f_idx1_ok : PureOK Tryd.prog 81 true g_idx1 := pure_calls Tryd.func81 (by kernel_rfl) (by kernel_rfl) (fun _ => ⟨rfl, rfl⟩) fun x hs w =>
  (Any.strings_Index_one lay143 ⟨x.1.toArray⟩ x.2 w).mono fun e w' h => ⟨by rw [h.1]; simp [D.val], h.2 ▸ Below.refl _ _⟩
theorem g_idx1_eq {s : List UInt8} {b : UInt8} (h : s.length ≤ 1099511627776) : g_idx1 [.str s, .str [b]] = some (.int .i64 (Lib.indexByte s b)) := encSpec_eq (x := (s, b)) h fun y hy => by
  obtain ⟨y0, y1⟩ := y
  simp only [List.cons.injEq, and_true, D.str.injEq] at hy
  obtain ⟨rfl, rfl⟩ := hy
  rfl
noncomputable def g_cnt1 : List D → Option D := encSpec (fun x : List UInt8 × UInt8 => [.str x.1, .str [x.2]]) (fun x => x.1.length ≤ 1099511627776) (fun x => i64 (Lib.countByte x.1 x.2))
theorem f_cnt1_ok : PureOK Tryd.prog 59 true g_cnt1 := pure_calls Tryd.func59 (by kernel_rfl) (by kernel_rfl) (fun _ => ⟨rfl, rfl⟩) fun x hs w =>
  (Any.strings_Count_one lay138 ⟨x.1.toArray⟩ x.2 w).mono fun e w' h => ⟨by rw [h.1]; simp [D.val], h.2 ▸ Below.refl _ _⟩
theorem g_cnt1_eq {s : List UInt8} {b : UInt8} (h : s.length ≤ 1099511627776) : g_cnt1 [.str s, .str [b]] = some (.int .i64 (Lib.countByte s b)) := encSpec_eq (x := (s, b)) h fun y hy => by
  obtain ⟨y0, y1⟩ := y
  simp only [List.cons.injEq, and_true, D.str.injEq] at hy
  obtain ⟨rfl, rfl⟩ := hy
  rfl
end Go.Ab
namespace Go.Ab
open Go Go.RowKit Go.Proofs
set_option maxRecDepth 10000
set_option maxHeartbeats 8000000
theorem idx_split (c : UInt8) : ∀ s : Bs, (Lib.indexByte s c = -1 ∧ splitB c s = [s]) ∨ ∃ k : Nat, Lib.indexByte s c = (k : Int) ∧ k < s.length ∧ splitB c s = s.take k :: splitB c (s.drop (k + 1))
  | [] => .inl ⟨rfl, rfl⟩
  | b :: l => by
    rw [Lib.indexByte, splitB]
    by_cases hb : (b == c) = true
    · rw [if_pos hb, if_pos hb]
      exact .inr ⟨0, rfl, by simp, rfl⟩
    · rw [if_neg hb, if_neg hb]
      rcases idx_split c l with ⟨h1, h2⟩ | ⟨k, h1, h2, h3⟩
      · rw [h1, h2]
        exact .inl ⟨rfl, rfl⟩
      · rw [h1, h3]
        have hk : ((k : Int) == -1) = false := by rw [beq_eq_false_iff_ne]; omega
        rw [hk]
        exact .inr ⟨k + 1, rfl, by simp; omega, rfl⟩
theorem split_count (c : UInt8) : ∀ s : Bs, (splitB c s).length = s.count c + 1
  | [] => rfl
  | b :: l => by
    have ih := split_count c l
    rw [splitB, List.count_cons]
    split
    · rw [List.length_cons, ih]
    · rw [cons1_len (splitB_ne c l), ih]
noncomputable def g_genSplit : List D → Option D := encSpec (fun x : Bs × UInt8 => [.str x.1, .str [x.2], i64 0, i64 (-1)]) (fun x : Bs × UInt8 => x.1.length ≤ 1099511627776) (fun x : Bs × UInt8 => .list ((splitB x.2 x.1).map .str))
theorem g_genSplit_eq {s : Bs} {c : UInt8} (hd : s.length ≤ 1099511627776) : g_genSplit [.str s, .str [c], .int .i64 0, .int .i64 (-1)] = some (.list ((splitB c s).map .str)) := encSpec_eq (x := (s, c)) hd fun y hy => by
    obtain ⟨y0, y1⟩ := y; simp only [List.cons.injEq, and_true, true_and, D.str.injEq, D.int.injEq, D.list.injEq, D.bool.injEq, D.agg.injEq, D.clo.injEq, Int.natCast_inj, inj_ie] at hy
    (try obtain ⟨rfl, rfl⟩ := hy)
    (try subst_vars)
    rfl
theorem f_genSplit_ok : PureOK Tryd.prog 82 false g_genSplit := by
  have hΓ := Γp f_idx1_ok (Γp f_cnt1_ok (Γn))
  refine pure_enc (n := 66) (rs := [.tmp 8]) Tryd.func82 (by kernel_rfl) rfl (by kernel_rfl) (by kernel_rfl) ?_
  rintro ⟨s, c⟩ hd
  (try dsimp only at hd ⊢)
  refine ⟨fun h => (by cases h), fun k hz0 => ?_⟩
  have e1 := g_cnt1_eq (s := s) (b := c) hd
  have hcn := split_count c s
  have hcl : s.count c ≤ s.length := List.count_le_length
  rw [show Lib.countByte s c = s.count c from rfl] at e1
  generalize s.count c = n at *
  have hmin : min ((n : Int) + 1) ((s.length : Int) + 1) = (n : Int) + 1 := by omega
  have hne : ([c] == ([] : Bs)) = false := rfl
  have hn1 : ((n : Int) + 1).toNat = n + 1 := by omega
  have hn2 : (n : Int) + 1 - 1 = n := by omega
  rw [start_frame (by simp)]; simp only [enumV, go_sem, emptyH]
  repeat (first
    | (apply axJ; (focus ((with_reducible constructor) <;> rfl)))
    | (apply awT mixedOK hΓ (by kernel_rfl); (simp (disch := omega) only [go_sem, ↓reduceIte, dk, ↓lk, Int.reduceBEq, Int.reduceBNe, Bool.true_bne, Bool.false_bne, Bool.not_true, Bool.not_false, e1, hmin, hne, hn1, hn2] <;> with_reducible rfl))
    | ((first | apply awR hΓ | apply awG | apply awH mixedOK hΓ rfl (by kernel_rfl) | apply ovE rfl); (simp (disch := omega) only [go_sem, ↓reduceIte, dk, ↓lk, Int.reduceBEq, Int.reduceBNe, Bool.true_bne, Bool.false_bne, Bool.not_true, Bool.not_false, e1, hmin, hne, hn1, hn2] <;> with_reducible rfl); exact trivial)
    | rfl)
  refine awp_loop_at (X := Nat × Bs) (fun y => (frame 66 [(0, .data (.str y.2)), (1, .data (.str [c])), (2, .data (i64 0)), (3, .data (i64 n)), (9, .row 19 (n + 1)), (10, .data (i64 y.1))])) (fun y => [(19, .row 9 1 (((splitB c s).take y.1 ++ List.replicate (n + 1 - y.1) []).map .str))]) 25
    (fun y => y.1 ≤ n ∧ splitB c s = (splitB c s).take y.1 ++ splitB c y.2 ∧ y.2.length ≤ s.length) (fun y => n + 1 - y.1) (0, s)
    ⟨Nat.zero_le _, rfl, Nat.le_refl _⟩ (Weak.v (by (simp [ConvF, lookV, Conv, ints, List.map_replicate, List.take_zero, List.nil_append, Nat.sub_zero]; done)) (by (simp (disch := omega) only [TabSub, look, if_pos, if_neg, Obj.refsOK, refsOKs, AV.refsOK, decide_eq_true_eq, Bool.and_true, Bool.and_self, List.map_replicate, List.take_zero, List.nil_append, Nat.sub_zero] ) <;> ((repeat' apply And.intro) <;> first | exact True.intro | omega | (simp; done) | rfl))) ?_
  rintro ⟨i, r⟩ ⟨h1, h2, h3⟩
  dsimp only at h1 h2 h3 ⊢
  have e2 := g_idx1_eq (s := r) (b := c) (Nat.le_trans h3 hd)
  have hlt : ((splitB c s).take i).length = i := by rw [List.length_take]; omega
  have hsl := congrArg List.length h2
  rw [List.length_append, hlt, hcn, split_count] at hsl
  have hnext : ∀ w : Bs, i ≤ n → ((splitB c s).take i ++ List.replicate (n + 1 - i) ([] : Bs)).set i w = (splitB c s).take i ++ w :: List.replicate (n - i) [] := fun w hi => by
    rw [List.set_append_right _ _ (by omega), hlt, Nat.sub_self, show n + 1 - i = (n - i) + 1 by omega, List.replicate_succ, List.set_cons_zero]
  have hset : ∀ w : Bs, (((splitB c s).take i ++ List.replicate (n + 1 - i) ([] : Bs)).map D.str).set i (D.str w) = ((splitB c s).take i ++ w :: List.replicate (n - i) []).map D.str := fun w => by
    rw [← hnext w h1, List.map_set]
  have hll : ((splitB c s).take i ++ List.replicate (n + 1 - i) ([] : Bs)).length = n + 1 := by rw [List.length_append, hlt, List.length_replicate]; omega
  have hnl : ∀ w : Bs, ((splitB c s).take i ++ w :: List.replicate (n - i) ([] : Bs)).length = n + 1 := fun w => by rw [List.length_append, hlt, List.length_cons, List.length_replicate]; omega
  generalize hM : (splitB c s).take i ++ List.replicate (n + 1 - i) ([] : Bs) = M at *
  have hend : splitB c r = [r] → splitB c s = (splitB c s).take i ++ [r] := fun h => by rw [h] at h2; exact h2
  by_cases hi : i < n
  · rcases idx_split c r with ⟨k1, k2⟩ | ⟨m, k1, k2, k3⟩
    · exfalso
      have := congrArg List.length k2
      rw [split_count] at this
      simp only [List.length_singleton] at this
      omega
    · rw [k1] at e2
      rw [k3] at h2
      have hm0 : decide ((m : Int) < 0) = false := decide_eq_false (by omega)
      have hm1 : ((m : Int) + 1).toNat = m + 1 := by omega
      have hdr : List.take (r.length - (m + 1)) (List.drop (m + 1) r) = List.drop (m + 1) r := List.take_of_length_le (by rw [List.length_drop]; omega)
      have htk : (splitB c s).take (i + 1) = (splitB c s).take i ++ [r.take m] := by
        generalize splitB c s = L at *
        generalize hA : L.take i = A at *
        rw [h2, List.take_append, hlt, show i + 1 - i = 1 by omega, List.take_of_length_le (by omega)]
        rfl
      have hrow : (splitB c s).take (i + 1) ++ List.replicate (n + 1 - (i + 1)) ([] : Bs) = (splitB c s).take i ++ r.take m :: List.replicate (n - i) [] := by
        rw [htk, show n + 1 - (i + 1) = n - i by omega, List.append_assoc]
        rfl
      repeat (first
        | (apply axJ; (focus ((with_reducible constructor) <;> rfl)))
        | (apply awT mixedOK hΓ (by kernel_rfl); (simp (disch := omega) only [go_sem, ↓reduceIte, dk, ↓lk, Int.reduceBEq, Int.reduceBNe, Bool.true_bne, Bool.false_bne, Bool.not_true, Bool.not_false, e2, hm0, hset, hll, hnl, Int.add_zero, Nat.sub_zero, Int.natCast_one, hm1, hdr] <;> with_reducible rfl))
        | ((first | apply awR hΓ | apply awG | apply awH mixedOK hΓ rfl (by kernel_rfl) | apply ovE rfl); (simp (disch := omega) only [go_sem, ↓reduceIte, dk, ↓lk, Int.reduceBEq, Int.reduceBNe, Bool.true_bne, Bool.false_bne, Bool.not_true, Bool.not_false, e2, hm0, hset, hll, hnl, Int.add_zero, Nat.sub_zero, Int.natCast_one, hm1, hdr] <;> with_reducible rfl); exact trivial)
        | rfl)
      refine ⟨(i + 1, r.drop (m + 1)), ⟨by dsimp only; omega, ?_, by dsimp only; rw [List.length_drop]; omega⟩, by dsimp only; omega, Weak.v (by (simp [ConvF, lookV, Conv, ints, hrow]; done)) (by (simp (disch := omega) only [TabSub, look, if_pos, if_neg, Obj.refsOK, refsOKs, AV.refsOK, decide_eq_true_eq, Bool.and_true, Bool.and_self, hrow] ) <;> ((repeat' apply And.intro) <;> first | exact True.intro | omega | (simp; done) | rfl))⟩
      dsimp only
      rw [htk, List.append_assoc]
      exact h2
  · have hin : i = n := by omega
    have hr : splitB c r = [r] := by
      rcases idx_split c r with ⟨k1, k2⟩ | ⟨m, k1, k2, k3⟩
      · exact k2
      · exfalso
        have := congrArg List.length k3
        rw [split_count] at this
        have := split_count c (r.drop (m + 1))
        simp only [List.length_cons] at *
        omega
    have h4 := hend hr
    subst hin
    have hfin : splitB c s = ((splitB c s).take i ++ r :: List.replicate (i - i) []) := by
      rw [Nat.sub_self]
      exact h4
    repeat (first
      | (apply axJ; (focus ((with_reducible constructor) <;> rfl)))
      | (apply awT mixedOK hΓ (by kernel_rfl); (simp (disch := omega) only [go_sem, ↓reduceIte, dk, ↓lk, Int.reduceBEq, Int.reduceBNe, Bool.true_bne, Bool.false_bne, Bool.not_true, Bool.not_false, hset, hll, hnl, Int.add_zero] <;> with_reducible rfl))
      | ((first | apply awR hΓ | apply awG | apply awH mixedOK hΓ rfl (by kernel_rfl) | apply ovE rfl); (simp (disch := omega) only [go_sem, ↓reduceIte, dk, ↓lk, Int.reduceBEq, Int.reduceBNe, Bool.true_bne, Bool.false_bne, Bool.not_true, Bool.not_false, hset, hll, hnl, Int.add_zero] <;> with_reducible rfl); exact trivial)
      | rfl)
    rw [← hfin]
    congr 1
    exact List.take_of_length_le (by rw [List.length_map, hcn]; omega)
noncomputable def g_split : List D → Option D := encSpec (fun x : Bs × UInt8 => [.str x.1, .str [x.2]]) (fun x : Bs × UInt8 => x.1.length ≤ 1099511627776) (fun x : Bs × UInt8 => .list ((splitB x.2 x.1).map .str))
theorem g_split_eq {s : Bs} {c : UInt8} (hd : s.length ≤ 1099511627776) : g_split [.str s, .str [c]] = some (.list ((splitB c s).map .str)) := encSpec_eq (x := (s, c)) hd fun y hy => by
    obtain ⟨y0, y1⟩ := y; simp only [List.cons.injEq, and_true, true_and, D.str.injEq, D.int.injEq, D.list.injEq, D.bool.injEq, D.agg.injEq, D.clo.injEq, Int.natCast_inj, inj_ie] at hy
    (try obtain ⟨rfl, rfl⟩ := hy)
    (try subst_vars)
    rfl
theorem f_split_ok : PureOK Tryd.prog 60 false g_split := by
  have hΓ := Γp f_genSplit_ok (Γn)
  refine pure_enc (n := 8) (rs := [.tmp 4]) Tryd.func60 (by kernel_rfl) rfl (by kernel_rfl) (by kernel_rfl) ?_
  rintro ⟨s, c⟩ hd
  (try dsimp only at hd ⊢)
  refine ⟨fun h => (by cases h), fun k hz0 => ?_⟩
  have e1 := g_genSplit_eq (c := c) hd
  rw [start_frame (by simp)]; simp only [enumV, go_sem, emptyH]
  repeat (first
    | (apply axJ; (focus ((with_reducible constructor) <;> rfl)))
    | (apply awT mixedOK hΓ (by kernel_rfl); (simp (disch := omega) only [go_sem, ↓reduceIte, dk, ↓lk, e1] <;> with_reducible rfl))
    | ((first | apply awR hΓ | apply awG | apply awH mixedOK hΓ rfl (by kernel_rfl) | apply ovE rfl); (simp (disch := omega) only [go_sem, ↓reduceIte, dk, ↓lk, e1] <;> with_reducible rfl); exact trivial)
    | rfl)
  try rfl
end Go.Ab
namespace Go.Ab
open Go Go.RowKit Go.Proofs Go.Shelf
set_option maxRecDepth 10000
set_option maxHeartbeats 8000000
theorem idxFrom (p : Nat → Bool) (hp : ∀ r, 128 ≤ r → p r = true) (s : Bs) : ∀ (f pos : Nat), pos ≤ s.length → s.length ≤ pos + f → (s.take pos).any (fun b => p b.toNat) = false →
    Lib.idxFuncFrom p true ⟨s.toArray⟩ f pos = idx (fun b => p b.toNat) s := by
  have hsz : (⟨s.toArray⟩ : ByteArray).size = s.length := by simp [ByteArray.size]
  intro f
  induction f with
  | zero =>
    intro pos h1 h2 h3
    have : pos = s.length := by omega
    subst this
    rw [List.take_length] at h3
    rw [idx_none h3]
    rfl
  | succ f ih =>
    intro pos h1 h2 h3
    rw [Lib.idxFuncFrom]
    by_cases hi : pos < s.length
    · have hi2 : pos < (⟨s.toArray⟩ : ByteArray).size := by rw [hsz]; exact hi
      rw [if_pos hi2]
      have hg : ((⟨s.toArray⟩ : ByteArray)[pos]'hi2) = s[pos] := rfl
      by_cases ha : s[pos].toNat < 128
      · rw [decode_ascii _ _ hi2 (by rw [hg]; exact ha), hg]
        dsimp only
        by_cases hq : p s[pos].toNat = true
        · rw [if_pos hq, idx_at hi hq h3]
        · rw [if_neg hq]
          exact ih (pos + 1) (by omega) (by omega) (any_next (p := fun b : UInt8 => p b.toNat) hi h3 (by simpa using hq))
      · have hd := decode_high _ _ hi2 (by rw [hg]; omega)
        rw [if_pos (hp _ hd.1), idx_at (p := fun b : UInt8 => p b.toNat) hi (hp _ (by omega)) h3]
    · have : pos = s.length := by omega
      subst this
      rw [List.take_length] at h3
      rw [if_neg (by rw [hsz]; omega), idx_none h3]
theorem idxFn (p : Nat → Bool) (hp : ∀ r, 128 ≤ r → p r = true) (s : Bs) : Lib.idxFunc p true ⟨s.toArray⟩ = idx (fun b => p b.toNat) s := by
  unfold Lib.idxFunc
  exact idxFrom p hp s _ 0 (Nat.zero_le _) (by simp [ByteArray.size]) rfl
end Go.Ab
namespace Go.Ab
open Go Go.RowKit Go.Proofs Go.Shelf
set_option maxRecDepth 10000
set_option maxHeartbeats 8000000
end Go.Ab
namespace Go.Ab
open Go Go.RowKit Go.Proofs Go.Shelf
set_option maxRecDepth 10000
set_option maxHeartbeats 8000000
end Go.Ab
namespace Go.Ab
open Go Go.RowKit Go.Proofs Go.Shelf
set_option maxRecDepth 10000
set_option maxHeartbeats 8000000
noncomputable def g_letP : List D → Option D := encSpec (fun x : Int => [.int .i32 x]) (fun x : Int => True) (fun x : Int => .bool (lettI x))
theorem g_letP_eq {r : Int} (hd : True) : g_letP [.int .i32 r] = some (.bool (lettI r)) := encSpec_eq (x := r) hd fun y hy => by
    simp only [List.cons.injEq, and_true, true_and, D.str.injEq, D.int.injEq, D.list.injEq, D.bool.injEq, D.agg.injEq, D.clo.injEq, Int.natCast_inj, inj_ie, D.ref.injEq] at hy
    rw [hy]
theorem f_letP_ok : PureOK Tryd.prog 51 true g_letP := by
  have hΓ := Γ0_ok
  refine pure_enc (n := 13) (rs := [.tmp 2]) Tryd.func51 (by kernel_rfl) rfl (by kernel_rfl) (by kernel_rfl) ?_
  rintro r hd
  (try dsimp only at hd ⊢)
  refine ⟨fun _ => by (repeat (first | exact .int _ _ | exact .bool _ | exact .str _ | (refine .tup _ (fun d hd => ?_); simp only [List.mem_cons, List.not_mem_nil, or_false] at hd; rcases hd with rfl | hd))), fun k hz0 => ?_⟩
  unfold lettI
  rw [start_frame (by simp)]; simp only [enumV, go_sem, emptyH]
  generalize h1 : decide (r ≥ 97) = a1
  generalize h2 : decide (r ≤ 122) = a2
  generalize h3 : (r == 95) = a3
  (cases a1; (focus (cases a3; (focus ((repeat (first | (apply axJ; (focus ((with_reducible constructor) <;> rfl))) | (apply awT mixedOK hΓ (by kernel_rfl); (simp (disch := omega) only [go_sem, ↓reduceIte, dk, h1, h2, h3] <;> with_reducible rfl)) | ((first | apply awR hΓ | apply awG | apply awH mixedOK hΓ rfl (by kernel_rfl) | apply ovE rfl); (simp (disch := omega) only [go_sem, ↓reduceIte, dk, h1, h2, h3] <;> with_reducible rfl); exact trivial) | rfl)); (first | done | rfl))); (focus ((repeat (first | (apply axJ; (focus ((with_reducible constructor) <;> rfl))) | (apply awT mixedOK hΓ (by kernel_rfl); (simp (disch := omega) only [go_sem, ↓reduceIte, dk, h1, h2, h3] <;> with_reducible rfl)) | ((first | apply awR hΓ | apply awG | apply awH mixedOK hΓ rfl (by kernel_rfl) | apply ovE rfl); (simp (disch := omega) only [go_sem, ↓reduceIte, dk, h1, h2, h3] <;> with_reducible rfl); exact trivial) | rfl)); (first | done | rfl))))); (focus (cases a2; (focus (cases a3; (focus ((repeat (first | (apply axJ; (focus ((with_reducible constructor) <;> rfl))) | (apply awT mixedOK hΓ (by kernel_rfl); (simp (disch := omega) only [go_sem, ↓reduceIte, dk, h1, h2, h3] <;> with_reducible rfl)) | ((first | apply awR hΓ | apply awG | apply awH mixedOK hΓ rfl (by kernel_rfl) | apply ovE rfl); (simp (disch := omega) only [go_sem, ↓reduceIte, dk, h1, h2, h3] <;> with_reducible rfl); exact trivial) | rfl)); (first | done | rfl))); (focus ((repeat (first | (apply axJ; (focus ((with_reducible constructor) <;> rfl))) | (apply awT mixedOK hΓ (by kernel_rfl); (simp (disch := omega) only [go_sem, ↓reduceIte, dk, h1, h2, h3] <;> with_reducible rfl)) | ((first | apply awR hΓ | apply awG | apply awH mixedOK hΓ rfl (by kernel_rfl) | apply ovE rfl); (simp (disch := omega) only [go_sem, ↓reduceIte, dk, h1, h2, h3] <;> with_reducible rfl); exact trivial) | rfl)); (first | done | rfl))))); (focus ((repeat (first | (apply axJ; (focus ((with_reducible constructor) <;> rfl))) | (apply awT mixedOK hΓ (by kernel_rfl); (simp (disch := omega) only [go_sem, ↓reduceIte, dk, h1, h2, h3] <;> with_reducible rfl)) | ((first | apply awR hΓ | apply awG | apply awH mixedOK hΓ rfl (by kernel_rfl) | apply ovE rfl); (simp (disch := omega) only [go_sem, ↓reduceIte, dk, h1, h2, h3] <;> with_reducible rfl); exact trivial) | rfl)); (first | done | rfl))))))
noncomputable def g_digP : List D → Option D := encSpec (fun x : Int => [.int .i32 x]) (fun x : Int => True) (fun x : Int => .bool (digI x))
theorem g_digP_eq {r : Int} (hd : True) : g_digP [.int .i32 r] = some (.bool (digI r)) := encSpec_eq (x := r) hd fun y hy => by
    simp only [List.cons.injEq, and_true, true_and, D.str.injEq, D.int.injEq, D.list.injEq, D.bool.injEq, D.agg.injEq, D.clo.injEq, Int.natCast_inj, inj_ie, D.ref.injEq] at hy
    rw [hy]
theorem f_digP_ok : PureOK Tryd.prog 53 true g_digP := by
  have hΓ := Γ0_ok
  refine pure_enc (n := 9) (rs := [.tmp 2]) Tryd.func53 (by kernel_rfl) rfl (by kernel_rfl) (by kernel_rfl) ?_
  rintro r hd
  (try dsimp only at hd ⊢)
  refine ⟨fun _ => by (repeat (first | exact .int _ _ | exact .bool _ | exact .str _ | (refine .tup _ (fun d hd => ?_); simp only [List.mem_cons, List.not_mem_nil, or_false] at hd; rcases hd with rfl | hd))), fun k hz0 => ?_⟩
  unfold digI
  rw [start_frame (by simp)]; simp only [enumV, go_sem, emptyH]
  generalize h1 : decide (r ≥ 48) = a1
  generalize h2 : decide (r ≤ 57) = a2
  (cases a1; (focus ((repeat (first | (apply axJ; (focus ((with_reducible constructor) <;> rfl))) | (apply awT mixedOK hΓ (by kernel_rfl); (simp (disch := omega) only [go_sem, ↓reduceIte, dk, h1, h2] <;> with_reducible rfl)) | ((first | apply awR hΓ | apply awG | apply awH mixedOK hΓ rfl (by kernel_rfl) | apply ovE rfl); (simp (disch := omega) only [go_sem, ↓reduceIte, dk, h1, h2] <;> with_reducible rfl); exact trivial) | rfl)); (first | done | rfl))); (focus (cases a2; (focus ((repeat (first | (apply axJ; (focus ((with_reducible constructor) <;> rfl))) | (apply awT mixedOK hΓ (by kernel_rfl); (simp (disch := omega) only [go_sem, ↓reduceIte, dk, h1, h2] <;> with_reducible rfl)) | ((first | apply awR hΓ | apply awG | apply awH mixedOK hΓ rfl (by kernel_rfl) | apply ovE rfl); (simp (disch := omega) only [go_sem, ↓reduceIte, dk, h1, h2] <;> with_reducible rfl); exact trivial) | rfl)); (first | done | rfl))); (focus ((repeat (first | (apply axJ; (focus ((with_reducible constructor) <;> rfl))) | (apply awT mixedOK hΓ (by kernel_rfl); (simp (disch := omega) only [go_sem, ↓reduceIte, dk, h1, h2] <;> with_reducible rfl)) | ((first | apply awR hΓ | apply awG | apply awH mixedOK hΓ rfl (by kernel_rfl) | apply ovE rfl); (simp (disch := omega) only [go_sem, ↓reduceIte, dk, h1, h2] <;> with_reducible rfl); exact trivial) | rfl)); (first | done | rfl))))))
def runQ (nm : Bool) (r : Int) : Bool := !(digI r) && !(nm && lettI r)
noncomputable def g_runC : List D → Option D := encSpec (fun x : Int × Bool => [.int .i32 x.1, .ref [.bool x.2]]) (fun x : Int × Bool => True) (fun x : Int × Bool => .bool (runQ x.2 x.1))
theorem g_runC_eq {r : Int} {nm : Bool} (hd : True) : g_runC [.int .i32 r, .ref [.bool nm]] = some (.bool (runQ nm r)) := encSpec_eq (x := (r, nm)) hd fun y hy => by
    obtain ⟨y0, y1⟩ := y; simp only [List.cons.injEq, and_true, true_and, D.str.injEq, D.int.injEq, D.list.injEq, D.bool.injEq, D.agg.injEq, D.clo.injEq, Int.natCast_inj, inj_ie, D.ref.injEq] at hy
    (try obtain ⟨rfl, rfl⟩ := hy)
    (try subst_vars)
    rfl
theorem f_runC_ok : PureOK Tryd.prog 73 true g_runC := by
  have hΓ := Γp f_letP_ok (Γp f_digP_ok (Γn))
  refine pure_enc (n := 15) (rs := [.tmp 3]) Tryd.func73 (by kernel_rfl) rfl (by kernel_rfl) (by kernel_rfl) ?_
  rintro ⟨r, nm⟩ hd
  (try dsimp only at hd ⊢)
  refine ⟨fun _ => by (repeat (first | exact .int _ _ | exact .bool _ | exact .str _ | (refine .tup _ (fun d hd => ?_); simp only [List.mem_cons, List.not_mem_nil, or_false] at hd; rcases hd with rfl | hd))), fun k hz0 => ?_⟩
  have e1 := g_digP_eq (r := r) trivial
  have e2 := g_letP_eq (r := r) trivial
  unfold runQ
  generalize digI r = d at *
  generalize lettI r = t at *
  rw [start_frame (by simp)]; simp only [enumV, go_sem, emptyH]
  (cases d; (focus (cases nm; (focus ((repeat (first | (apply axJ; (focus ((with_reducible constructor) <;> rfl))) | (apply awT mixedOK hΓ (by kernel_rfl); (simp (disch := omega) only [go_sem, ↓reduceIte, dk, e1, e2] <;> with_reducible rfl)) | ((first | apply awR hΓ | apply awG | apply awH mixedOK hΓ rfl (by kernel_rfl) | apply ovE rfl); (simp (disch := omega) only [go_sem, ↓reduceIte, dk, e1, e2] <;> with_reducible rfl); exact trivial) | rfl)); (first | done | rfl))); (focus (cases t; (focus ((repeat (first | (apply axJ; (focus ((with_reducible constructor) <;> rfl))) | (apply awT mixedOK hΓ (by kernel_rfl); (simp (disch := omega) only [go_sem, ↓reduceIte, dk, e1, e2] <;> with_reducible rfl)) | ((first | apply awR hΓ | apply awG | apply awH mixedOK hΓ rfl (by kernel_rfl) | apply ovE rfl); (simp (disch := omega) only [go_sem, ↓reduceIte, dk, e1, e2] <;> with_reducible rfl); exact trivial) | rfl)); (first | done | rfl))); (focus ((repeat (first | (apply axJ; (focus ((with_reducible constructor) <;> rfl))) | (apply awT mixedOK hΓ (by kernel_rfl); (simp (disch := omega) only [go_sem, ↓reduceIte, dk, e1, e2] <;> with_reducible rfl)) | ((first | apply awR hΓ | apply awG | apply awH mixedOK hΓ rfl (by kernel_rfl) | apply ovE rfl); (simp (disch := omega) only [go_sem, ↓reduceIte, dk, e1, e2] <;> with_reducible rfl); exact trivial) | rfl)); (first | done | rfl))))))); (focus ((repeat (first | (apply axJ; (focus ((with_reducible constructor) <;> rfl))) | (apply awT mixedOK hΓ (by kernel_rfl); (simp (disch := omega) only [go_sem, ↓reduceIte, dk, e1, e2] <;> with_reducible rfl)) | ((first | apply awR hΓ | apply awG | apply awH mixedOK hΓ rfl (by kernel_rfl) | apply ovE rfl); (simp (disch := omega) only [go_sem, ↓reduceIte, dk, e1, e2] <;> with_reducible rfl); exact trivial) | rfl)); (first | done | rfl))))
noncomputable def g_linesP : List D → Option D := encSpec (fun x : Bs => [.str x]) (fun x : Bs => x.length ≤ 1099511627776) (fun x : Bs => eLs (linesE x))
theorem g_linesP_eq {s : Bs} (hd : s.length ≤ 1099511627776) : g_linesP [.str s] = some (eLs (linesE s)) := encSpec_eq (x := s) hd fun y hy => by
    simp only [List.cons.injEq, and_true, true_and, D.str.injEq, D.int.injEq, D.list.injEq, D.bool.injEq, D.agg.injEq, D.clo.injEq, Int.natCast_inj, inj_ie, D.ref.injEq] at hy
    rw [hy]
theorem f_linesP_ok : PureOK Tryd.prog 39 false g_linesP := by
  have hΓ := Γp f_cnt1_ok (Γp f_split_ok (Γn))
  refine pure_enc (n := 14) (rs := [.tmp 2, .tmp 3]) Tryd.func39 (by kernel_rfl) rfl (by kernel_rfl) (by kernel_rfl) ?_
  rintro s hd
  (try dsimp only at hd ⊢)
  refine ⟨fun h => (by cases h), fun k hz0 => ?_⟩
  have e1 := g_cnt1_eq (b := 10) hd
  have e2 := g_split_eq (c := 10) hd
  have h1 := split_count 10 s
  rw [show Lib.countByte s 10 = s.count 10 from rfl] at e1
  unfold linesE
  generalize splitB 10 s = l at *
  generalize s.count 10 = n at *
  generalize hc1 : decide ((s.length : Int) > 65536) = c1
  have hc2' : decide ((l.length : Int) > 1024) = decide ((n : Int) ≥ 1024) := by
    rw [h1, Bool.eq_iff_iff]
    simp only [decide_eq_true_eq]
    omega
  rw [hc2']
  generalize hc2 : decide ((n : Int) ≥ 1024) = c2
  rw [start_frame (by simp)]; simp only [enumV, go_sem, emptyH]
  cases c1
  rotate_left
  · repeat (first
    | (apply axJ; (focus ((with_reducible constructor) <;> rfl)))
    | (apply awT mixedOK hΓ (by kernel_rfl); (simp (disch := omega) only [go_sem, ↓reduceIte, dk, ↓lk, hc1] <;> with_reducible rfl))
    | ((first | apply awR hΓ | apply awG | apply awH mixedOK hΓ rfl (by kernel_rfl) | apply ovE rfl); (simp (disch := omega) only [go_sem, ↓reduceIte, dk, ↓lk, hc1] <;> with_reducible rfl); exact trivial)
    | rfl)
    try rfl
  cases c2
  · repeat (first
    | (apply axJ; (focus ((with_reducible constructor) <;> rfl)))
    | (apply awT mixedOK hΓ (by kernel_rfl); (simp (disch := omega) only [go_sem, ↓reduceIte, dk, ↓lk, e1, e2, hc1, hc2] <;> with_reducible rfl))
    | ((first | apply awR hΓ | apply awG | apply awH mixedOK hΓ rfl (by kernel_rfl) | apply ovE rfl); (simp (disch := omega) only [go_sem, ↓reduceIte, dk, ↓lk, e1, e2, hc1, hc2] <;> with_reducible rfl); exact trivial)
    | rfl)
    try rfl
  · repeat (first
    | (apply axJ; (focus ((with_reducible constructor) <;> rfl)))
    | (apply awT mixedOK hΓ (by kernel_rfl); (simp (disch := omega) only [go_sem, ↓reduceIte, dk, ↓lk, e1, e2, hc1, hc2] <;> with_reducible rfl))
    | ((first | apply awR hΓ | apply awG | apply awH mixedOK hΓ rfl (by kernel_rfl) | apply ovE rfl); (simp (disch := omega) only [go_sem, ↓reduceIte, dk, ↓lk, e1, e2, hc1, hc2] <;> with_reducible rfl); exact trivial)
    | rfl)
    try rfl
end Go.Ab
namespace Go.Ab
open Go Go.RowKit Go.Proofs Go.Shelf
set_option maxRecDepth 10000
set_option maxHeartbeats 8000000
end Go.Ab
namespace Go.Ab
open Go Go.RowKit Go.Proofs Go.Shelf
set_option maxRecDepth 10000
set_option maxHeartbeats 8000000
end Go.Ab
namespace Go.Ab
open Go Go.RowKit Go.Proofs Go.Shelf
set_option maxRecDepth 10000
set_option maxHeartbeats 8000000
theorem pred_growsC {f : FuncId} {fl : Bool} {g : List D → Option D} {p : Nat → Bool} {cs : List D} {us : Array Value} {u : Nat → Value} {w : World} {B : Nat → Prop} (hf : PureOK Tryd.prog f fl g) (hg : ∀ r : Nat, g (.int .i32 r :: cs) = some (.bool (p r)))
    (hB : ∀ b, B b → b < w.heap.size) (hz : us.size = cs.length) (hv : ∀ i, i < cs.length → us[i]? = some (u i)) (h : ∀ i (hi : i < cs.length), DR w B (cs[i]) (u i)) : PredGrows Tryd.prog f us p w := fun W x _ hW => by
  have hsz : (#[encR x] ++ us).size = (D.int .i32 (x : Int) :: cs).length := by
    rw [Array.size_append, hz, List.length_cons]
    show 1 + _ = _
    omega
  refine ((hf _ _ (hg x)).2 W B (#[encR x] ++ us) (fun b hb => Nat.lt_of_lt_of_le (hB b hb) hW.size) hsz (fun i hi v hu => ?_)).2.mono ?_
  · cases i with
    | zero =>
      rw [Array.getElem?_append_left (by simp)] at hu
      cases (show some (encR x) = some v from hu)
      exact .int _ _
    | succ i =>
      rw [Array.getElem?_append_right (by simp)] at hu
      simp only [List.length_cons] at hi
      have hu2 : us[i]? = some v := hu
      rw [hv i (by omega)] at hu2
      cases hu2
      exact (h i (by omega)).mono fun b hb => ⟨hb, hW.block b (hB b hb)⟩
  · rintro e w' ⟨v, rfl, hu, hb⟩
    cases hu
    exact ⟨rfl, hb⟩
noncomputable def g_xf (f : FuncId) (cs : List D) (q : UInt8 → Bool) : List D → Option D := encSpec (fun s : Bs => [.str s, .clo f cs]) (fun s => s.length ≤ 1099511627776) (fun s => i64 (idx q s))
theorem g_xf_eq {f : FuncId} {cs : List D} {q : UInt8 → Bool} {s : Bs} (h : s.length ≤ 1099511627776) : g_xf f cs q [.str s, .clo f cs] = some (.int .i64 (idx q s)) := encSpec_eq (x := s) h fun y hy => by
  simp only [List.cons.injEq, and_true, D.str.injEq] at hy
  rw [hy]
theorem f_xf_ok {f : FuncId} {fl : Bool} {g : List D → Option D} {cs : List D} {p : Nat → Bool} (hf : PureOK Tryd.prog f fl g) (hg : ∀ r : Nat, g (.int .i32 r :: cs) = some (.bool (p r))) (hp : ∀ r, 128 ≤ r → p r = true)
    (eg : ∀ args w, (callFunc f args).run Tryd.prog w = .ok (.enter f args) w) : PureOK Tryd.prog 72 true (g_xf f cs fun b => p b.toNat) := by
  intro ds d hd
  obtain ⟨s, rfl, hx, rfl⟩ := encSpec_some hd
  refine ⟨fun _ => .int _ _, fun w B vs hB hz hvs => ⟨⟨Tryd.f72, Tryd.func72, by kernel_rfl, by kernel_rfl⟩, ?_⟩⟩
  have hz2 : vs.size = 2 := hz
  have h0 : 0 < vs.size := by omega
  have h1 : 1 < vs.size := by omega
  have hv0 := hvs 0 (by simp) (vs[0]'h0) (Array.getElem?_eq_getElem h0)
  have hv1 := hvs 1 (by simp) (vs[1]'h1) (Array.getElem?_eq_getElem h1)
  have e : vs = #[vs[0]'h0, vs[1]'h1] := Array.ext hz2 fun i i1 i2 => by
    match i, i2 with
    | 0, _ => rfl
    | 1, _ => rfl
  have e0 : vs[0]'h0 = .string ⟨s.toArray⟩ := DR.str_eq hv0
  rw [e, e0]
  generalize vs[1]'h1 = v at hv1
  cases (show DR w B (.clo f cs) v from hv1) with
  | clo _ _ us u hz hv h =>
    have hc := Any.strings_IndexFunc_grows layG15 f us eg p ⟨s.toArray⟩ w (pred_growsC hf hg hB hz hv h)
    refine Calls.mono hc fun e w' h => ?_
    refine ⟨_, h.1, ?_, h.2⟩
    rw [idxFn p hp]
    exact .int _ _
theorem runQ_high (nm : Bool) (r : Nat) (h : 128 ≤ r) : runQ nm r = true := by
  unfold runQ digI lettI
  have h1 : decide ((r : Int) ≤ 57) = false := decide_eq_false (by omega)
  have h2 : decide ((r : Int) ≤ 122) = false := decide_eq_false (by omega)
  have h3 : ((r : Int) == 95) = false := by rw [beq_eq_false_iff_ne]; omega
  rw [h1, h2, h3]
  simp
theorem f_xfR_ok (nm : Bool) : PureOK Tryd.prog 72 true (g_xf 73 [.ref [.bool nm]] fun b => runQ nm b.toNat) :=
  f_xf_ok (p := fun r => runQ nm r) f_runC_ok (fun r => g_runC_eq trivial) (runQ_high nm) (enters_of Tryd.func73 (by kernel_rfl) rfl)
end Go.Ab
namespace Go.Ab
open Go Go.RowKit Go.Proofs
set_option maxRecDepth 1000000
set_option maxHeartbeats 4000000
def numGo : Int → Bs → Int × Int
  | n, [] => (n, 0)
  | n, c :: r => if decide (10 * n + ((c.toNat : Int) - 48) > 4294967295) then (0, 3) else numGo (10 * n + ((c.toNat : Int) - 48)) r
def digQ (c : UInt8) : Bool := decide (48 ≤ (c.toNat : Int)) && decide ((c.toNat : Int) ≤ 57)
theorem numGo_step {n : Int} {s : Bs} {i : Nat} (hi : i < s.length) : numGo n (s.drop i) = if decide (10 * n + ((s[i].toNat : Int) - 48) > 4294967295) then (0, 3) else numGo (10 * n + ((s[i].toNat : Int) - 48)) (s.drop (i + 1)) := by
  rw [List.drop_eq_getElem_cons hi, numGo]
theorem num_calls (s : Bs) (b : Bool) (w : World) (hs : s.length ≤ 1099511627776) (n : Int) (hn : (n != (s.length : Int)) = !b)
    (hrun : ∀ w, Calls Tryd.prog 52 #[.string ⟨s.toArray⟩, .bool false] w fun e w' => e = .returned (.int .i64 n) ∧ Below w.heap.size w w') (hd : b = true → ∀ c ∈ s, digQ c = true) (p : Int × Int)
    (hp : p = if s == [] || (!b || (decide ((s.length : Int) > 1) && s.headD 0 == 48)) then (0, 4) else numGo 0 s) :
    Calls Tryd.prog 54 #[.string ⟨s.toArray⟩] w fun e w' => e = .returned (.tuple #[.int .u32 p.1, .int .i64 p.2]) ∧ Below w.heap.size w w' := by
  rcases s with _ | ⟨c, r⟩
  · subst hp
    go_enter Tryd.func54, Tryd.ntmps54
    go_wp2
    go_ret2
    exact ⟨rfl, Below.refl _ _⟩
  have hse : (⟨(c :: r).toArray⟩ : ByteArray).toList.isEmpty = false := by
    rw [ByteArray.toList_eq]
    rfl
  have hsz : (⟨(c :: r).toArray⟩ : ByteArray).size = (c :: r).length := by simp [ByteArray.size]
  have h0 : ∀ h : 0 < (⟨(c :: r).toArray⟩ : ByteArray).size, (⟨(c :: r).toArray⟩ : ByteArray)[0]'h = c := fun _ => rfl
  have hg : ∀ (i : Nat) (h : i < (⟨(c :: r).toArray⟩ : ByteArray).size) (h2 : i < (c :: r).length), (⟨(c :: r).toArray⟩ : ByteArray)[i]'h = (c :: r)[i] := fun _ _ _ => rfl
  have hpos : 0 < (c :: r).length := by simp
  have hhd : (c :: r).headD 0 = c := rfl
  rw [hhd, show ((c :: r) == []) = false from rfl, Bool.false_or] at hp
  generalize c :: r = s at *
  generalize hS : (⟨s.toArray⟩ : ByteArray) = S at *
  clear hS
  cases b
  · replace hn : (n != (s.length : Int)) = true := hn
    go_enter Tryd.func54, Tryd.ntmps54
    go_wp2_with fail
    refine (hrun _).mono ?_
    rintro e w' ⟨rfl, hb⟩
    go_wp2_with fail
    go_ret2
    exact ⟨by rw [hp]; rfl, hb⟩
  · replace hn : (n != (s.length : Int)) = false := hn
    have hdd := hd rfl
    have hc0 : ((c.toNat : Int) == 48) = (c == 48) := by
      rw [Bool.eq_iff_iff]
      simp only [beq_iff_eq]
      exact ⟨fun h => UInt8.toNat_inj.1 (by have : (48 : UInt8).toNat = 48 := rfl; omega), fun h => by rw [h]; rfl⟩
    generalize hc2 : (c == 48) = c2 at *
    by_cases hl1 : 1 < s.length
    · have hl2 : decide ((s.length : Int) > 1) = true := decide_eq_true (by omega)
      rw [hl2] at hp
      cases c2
      · have hpp : p = numGo 0 s := by rw [hp]; rfl
        go_enter Tryd.func54, Tryd.ntmps54
        go_wp2_with fail
        refine (hrun _).mono ?_
        rintro e w' ⟨rfl, hb⟩
        go_wp2_with fail
        go_loopw [4] (fun v wx => ∃ (i : Nat) (m : Int), wx = w'.iter S i ∧ v = .int .u64 m ∧ i ≤ s.length ∧ numGo 0 s = numGo m (s.drop i) ∧ 0 ≤ m ∧ m ≤ 4294967295) (fun _ wx => S.size - wx.iterPos w'.heap.size)
        case atStart => exact ⟨0, 0, rfl, rfl, Nat.zero_le _, rfl, by omega, by omega⟩
        case round =>
          obtain ⟨i, m, rfl, rfl, hi, hm, hm0, hm1⟩ := hrel
          by_cases hp' : i < s.length
          · have hsi : i < S.size := by omega
            have hci := hdd _ (List.getElem_mem hp')
            have hgi := hg i hsi hp'
            have hst := numGo_step (n := m) hp'
            generalize s[i] = x at *
            have hx : 48 ≤ x.toNat ∧ x.toNat ≤ 57 := by
              unfold digQ at hci
              simp only [Bool.and_eq_true, decide_eq_true_eq] at hci
              omega
            have hnx : ∀ ty, (Instr.next (.pointer (some ⟨w'.heap.size, 0, none⟩)) true ty).run Tryd.prog (w'.iter S i) = _ := fun ty => run_next_ascii w' S i ty hsi (by rw [hgi]; omega)
            rw [hgi] at hnx
            clear hg h0 hsz hdd hgi
            have hbi : ∀ k, Below w.heap.size w (w'.iter S k) := fun k => hb.alloc hb.size _
            by_cases hbig : 4294967295 < 10 * m + ((x.toNat : Int) - 48)
            · rw [decide_eq_true hbig, if_pos rfl] at hst
              go_wp2
              go_ret2
              exact ⟨by rw [hpp, hm, hst]; rfl, hbi _⟩
            · rw [decide_eq_false hbig, if_neg (by decide)] at hst
              go_wp2
              go_roundw
              case rel => exact ⟨i + 1, _, rfl, rfl, by omega, by rw [hm, hst], by omega, by omega⟩
              case measure =>
                simp
                omega
          · have hie : i = s.length := by omega
            have hnx : ∀ ty, (Instr.next (.pointer (some ⟨w'.heap.size, 0, none⟩)) true ty).run Tryd.prog (w'.iter S i) = _ := fun ty => run_next_end w' S i ty (by omega)
            subst hie
            go_wp2
            go_ret2
            rw [List.drop_length] at hm
            exact ⟨by rw [hpp, hm]; rfl, hb.alloc hb.size _⟩
      · go_enter Tryd.func54, Tryd.ntmps54
        go_wp2_with fail
        refine (hrun _).mono ?_
        rintro e w' ⟨rfl, hb⟩
        go_wp2_with fail
        go_ret2
        exact ⟨by rw [hp]; rfl, hb⟩
    · have hl2 : decide ((s.length : Int) > 1) = false := decide_eq_false (by omega)
      rw [hl2] at hp
      · have hpp : p = numGo 0 s := by rw [hp]; rfl
        go_enter Tryd.func54, Tryd.ntmps54
        go_wp2_with fail
        refine (hrun _).mono ?_
        rintro e w' ⟨rfl, hb⟩
        go_wp2_with fail
        go_loopw [4] (fun v wx => ∃ (i : Nat) (m : Int), wx = w'.iter S i ∧ v = .int .u64 m ∧ i ≤ s.length ∧ numGo 0 s = numGo m (s.drop i) ∧ 0 ≤ m ∧ m ≤ 4294967295) (fun _ wx => S.size - wx.iterPos w'.heap.size)
        case atStart => exact ⟨0, 0, rfl, rfl, Nat.zero_le _, rfl, by omega, by omega⟩
        case round =>
          obtain ⟨i, m, rfl, rfl, hi, hm, hm0, hm1⟩ := hrel
          by_cases hp' : i < s.length
          · have hsi : i < S.size := by omega
            have hci := hdd _ (List.getElem_mem hp')
            have hgi := hg i hsi hp'
            have hst := numGo_step (n := m) hp'
            generalize s[i] = x at *
            have hx : 48 ≤ x.toNat ∧ x.toNat ≤ 57 := by
              unfold digQ at hci
              simp only [Bool.and_eq_true, decide_eq_true_eq] at hci
              omega
            have hnx : ∀ ty, (Instr.next (.pointer (some ⟨w'.heap.size, 0, none⟩)) true ty).run Tryd.prog (w'.iter S i) = _ := fun ty => run_next_ascii w' S i ty hsi (by rw [hgi]; omega)
            rw [hgi] at hnx
            clear hg h0 hsz hdd hgi
            have hbi : ∀ k, Below w.heap.size w (w'.iter S k) := fun k => hb.alloc hb.size _
            by_cases hbig : 4294967295 < 10 * m + ((x.toNat : Int) - 48)
            · rw [decide_eq_true hbig, if_pos rfl] at hst
              go_wp2
              go_ret2
              exact ⟨by rw [hpp, hm, hst]; rfl, hbi _⟩
            · rw [decide_eq_false hbig, if_neg (by decide)] at hst
              go_wp2
              go_roundw
              case rel => exact ⟨i + 1, _, rfl, rfl, by omega, by rw [hm, hst], by omega, by omega⟩
              case measure =>
                simp
                omega
          · have hie : i = s.length := by omega
            have hnx : ∀ ty, (Instr.next (.pointer (some ⟨w'.heap.size, 0, none⟩)) true ty).run Tryd.prog (w'.iter S i) = _ := fun ty => run_next_end w' S i ty (by omega)
            subst hie
            go_wp2
            go_ret2
            rw [List.drop_length] at hm
            exact ⟨by rw [hpp, hm]; rfl, hb.alloc hb.size _⟩
end Go.Ab
