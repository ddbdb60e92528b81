/-
  One text of the proof (own work): contracts of functions of the program, by the abstract machine.
-/
import Derived.Shelf.SlSortCmp.WholeK
import Derived.Shelf.SlSortCmp.NoneTotal
import Derived.Sort.OwnSorted
import Derived.Shelf.Small.Strs
import Derived.Deep.RegionHeld3
import Derived.Deep.QuietTactic
import Derived.BigQuiet
import Derived.Test.YtapnigckcnknoaaDoorX12
import Derived.Test.YtapnigckcnknoaaDoorX15
import Derived.Test.YtapnigckcnknoaaDoorX13
import Derived.Test.YtapnigckcnknoaaDoorX17
import Derived.Test.YtapnigckcnknoaaDoorX19
import Derived.Test.YtapnigckcnknoaaDoorX21
import Derived.Test.YtapnigckcnknoaaDoorX16
import Derived.Test.YtapnigckcnknoaaDoorX20
import Derived.Test.YtapnigckcnknoaaDoorX11
set_option linter.unusedVariables false
set_option linter.unusedSimpArgs false
namespace Go.Ab
open Go Go.RowKit
noncomputable def locSpec {X : Type} (enc : X → List AV) (eno : X → List Obj) (dom : X → Prop) (out : X → AV × List Obj) (xs : List AV) (os : List Obj) : Option (AV × List Obj) :=
  open Classical in if h : ∃ x, enc x = xs ∧ eno x = os ∧ dom x then some (out h.choose) else none
theorem locSpec_eq {X : Type} {enc : X → List AV} {eno : X → List Obj} {dom : X → Prop} {out : X → AV × List Obj} {x : X} (hx : dom x) (inj : ∀ y, enc y = enc x → eno y = eno x → out y = out x) : locSpec enc eno dom out (enc x) (eno x) = some (out x) := by
  have h : ∃ y, enc y = enc x ∧ eno y = eno x ∧ dom y := ⟨x, rfl, rfl, hx⟩
  unfold locSpec
  rw [dif_pos h, inj _ h.choose_spec.1 h.choose_spec.2.1]
end Go.Ab
namespace Go.Ab
open Go Go.RowKit
theorem scalar_one {l : List D} (h : l.all D.scalar = true) : (∀ d ∈ l, d.cells.length = 1) ∧ ∀ d ∈ l, d.one = true := by
  rw [List.all_eq_true] at h
  refine ⟨fun d hd => ?_, fun d hd => ?_⟩
  · have := h d hd
    cases d <;> first | rfl | (exact absurd this (by simp [D.scalar]))
  · have := h d hd
    cases d <;> first | rfl | (exact absurd this (by simp [D.scalar]))
structure RowTurn (w w' : World) (e : TypeId) (v v' : Value) (xs : List Value) : Prop where
  own : ownsM w' 0 e 1 v' xs.length xs
  os : w'.os = w.os
  tape : w'.tape = w.tape
  output : w'.output = w.output
  size : w.heap.size ≤ w'.heap.size
  blk' : ∀ b, blk v' = some b → blk v = some b
  block : ∀ b, b < w.heap.size → blk v ≠ some b → w'.heap[b]? = w.heap[b]?
section
variable {P : Program} {f : FuncId} {fn : Func} {e : TypeId} {dom : List D → Prop} {out : List D → List D}
end
end Go.Ab
namespace Go.Ab
open Go Go.RowKit
def D.wide (k : Nat) (d : D) : Prop := d.cells.length = k ∧ d.cells.all D.scalar = true
theorem wide_flat {k : Nat} {l : List D} (h : ∀ d ∈ l, d.wide k) : (flat l).all D.scalar = true ∧ (∀ d ∈ l, d.cells.length = k) ∧ ∀ d ∈ flat l, d.one = true := by
  have h1 : (flat l).all D.scalar = true := by
    rw [List.all_eq_true]
    intro d hd
    unfold flat at hd
    rw [List.mem_flatMap] at hd
    obtain ⟨x, hx, hdx⟩ := hd
    exact List.all_eq_true.1 (h x hx).2 d hdx
  exact ⟨h1, fun d hd => (h d hd).1, (scalar_one h1).2⟩
structure RowTurnK (w w' : World) (e : TypeId) (k : Nat) (v v' : Value) (n : Nat) (xs : List Value) : Prop where
  own : ownsM w' 0 e k v' n xs
  os : w'.os = w.os
  tape : w'.tape = w.tape
  output : w'.output = w.output
  size : w.heap.size ≤ w'.heap.size
  blk' : ∀ b, blk v' = some b → blk v = some b
  block : ∀ b, b < w.heap.size → blk v ≠ some b → w'.heap[b]? = w.heap[b]?
section
variable {P : Program} {f : FuncId} {fn : Func} {e : TypeId} {k : Nat} {dom : List D → Prop} {out : List D → List D}
theorem rowK_arg {c : Ctx} {l : List D} {q : FuncId} {θ : Nat → Value} {w : World} {vs : Array Value} (hsc : ∀ d ∈ l, d.wide k) (hsim : HSim c ⟨enumO 0 [.row e k l], 1⟩ θ w) (hvs : vs.size = 2)
    (hv : ∀ i (hi : i < [AV.row 0 l.length, .data (.clo q [])].length) u, vs[i]? = some u → VR ⟨enumO 0 [.row e k l], 1⟩ θ w (vis c ⟨enumO 0 [.row e k l], 1⟩ θ w) ([AV.row 0 l.length, .data (.clo q [])][i]) u) :
    vs = #[θ 0, .func (.func q) #[] #[]] ∧ ownsM w 0 e k (θ 0) l.length ((flat l).map D.val) ∧ (∀ b, blk (θ 0) = some b → c.n0 ≤ b ∨ c.Init b) := by
  have hg : (⟨enumO 0 [.row e k l], 1⟩ : Heap).get 0 = some (.row e k l) := rfl
  have h0 := hv 0 (by simp) (vs[0]'(by omega)) (Array.getElem?_eq_getElem _)
  obtain ⟨he, _⟩ := row_val hsim h0 hg rfl
  have h1 : vs[1]'(by omega) = .func (.func q) #[] #[] := by
    have := hv 1 (by simp) (vs[1]'(by omega)) (Array.getElem?_eq_getElem _)
    generalize vs[1]'(by omega) = v at this
    cases this with
    | data d v h =>
      cases h with
      | clo _ _ us _ hz => rw [Array.eq_empty_of_size_eq_zero hz]
  obtain ⟨w1, w2, w3⟩ := wide_flat hsc
  obtain ⟨_, h2, h3, us, h4, h5, h6⟩ := hsim.objs 0 _ hg
  have hfl : (flat l).length = l.length * k := flat_length w2
  have hus : us = (flat l).map D.val := by
    have hlen := h4.1
    apply List.ext_getElem?
    intro i
    by_cases hi : i < (flat l).length
    · have hi2 : i < us.length := by omega
      have := h6 i hi us[i] (List.getElem?_eq_getElem hi2)
      rw [List.getElem?_eq_getElem hi2, scalar_val (List.all_eq_true.1 w1 _ (List.getElem_mem _)) this, List.getElem?_map, List.getElem?_eq_getElem hi]
      simp only [Option.map_some]
    · rw [List.getElem?_eq_none (by omega), List.getElem?_eq_none (by simp; omega)]
  rw [hus] at h4
  refine ⟨Array.ext hvs fun n i1 i2 => ?_, h4, h5⟩
  match n, i2 with
  | 0, _ => exact he
  | 1, _ => exact h1
theorem loc_rowK {q : FuncId} (hk : 0 < k) (hf : P.funcs[f]? = some fn) (hname : (fn.name == "runtime.NumGoroutine") = false) (hb : fn.body.isNone = false)
    (hd : ∀ l, dom l → (∀ d ∈ l, d.wide k) ∧ (∀ d ∈ out l, d.wide k) ∧ (out l).length = l.length)
    (h : ∀ l, dom l → ∀ (w : World) (v : Value), ownsM w 0 e k v l.length ((flat l).map D.val) → Calls P f #[v, .func (.func q) #[] #[]] w fun ex w' => (∃ u, ex = .returned u) ∧ RowTurnK w w' e k v v l.length ((flat (out l)).map D.val)) :
    LocOK P f (locSpec (fun l => [.row 0 l.length, .data (.clo q [])]) (fun l => [.row e k l]) dom (fun l => (.junk, [.row e k (out l)]))) := by
  intro xs os r os' hg _ c θ w vs hbase hsim hvs hvals
  unfold locSpec at hg
  split at hg
  · rename_i hh
    obtain ⟨h1, h2, h3⟩ := hh.choose_spec
    generalize hh.choose = l at h1 h2 h3 hg
    simp only [Option.some.injEq, Prod.mk.injEq] at hg
    obtain ⟨rfl, rfl⟩ := hg
    subst h1 h2
    obtain ⟨s1, s2, s3⟩ := hd l h3
    obtain ⟨e1, e2, e3⟩ := rowK_arg s1 hsim hvs hvals
    rw [e1]
    refine ⟨⟨fn, hf, hname, hb⟩, (h l h3 w (θ 0) e2).mono ?_⟩
    rintro ex w' ⟨⟨u, rfl⟩, ht⟩
    obtain ⟨o0, o1, o2⟩ := wide_flat s2
    have hg' : ∀ o x, (⟨enumO 0 [.row e k (out l)], 1⟩ : Heap).get o = some x → o = 0 ∧ x = .row e k (out l) := fun o x hx => by
      rw [get_enumO] at hx
      match o, hx with
      | 0, hx => exact ⟨rfl, by simpa using hx.symm⟩
      | n + 1, hx => simp at hx
    refine ⟨u, rfl, θ, ⟨Nat.le_trans hsim.size ht.size, fun o x hx => ?_, fun o o' x x' hx hx' _ _ hne => ?_⟩, .junk _, ⟨ht.os, ht.tape, ht.output, ht.size, fun b b1 b2 => ht.block b (Nat.lt_of_lt_of_le b1 hsim.size) fun hbl => ?_⟩, ?_⟩
    · obtain ⟨rfl, rfl⟩ := hg' o x hx
      refine ⟨hk, o1, o2, (flat (out l)).map D.val, by rw [s3]; exact ht.own, e3, fun i hi u hu => ?_⟩
      rw [List.getElem?_map, List.getElem?_eq_getElem hi] at hu
      simp only [Option.map_some, Option.some.injEq] at hu
      subst hu
      exact scalar_reads (List.all_eq_true.1 o0 _ (List.getElem_mem hi))
    · exact absurd ((hg' o x hx).1.trans (hg' o' x' hx').1.symm) hne
    · rcases e3 b hbl with h4 | h4
      · omega
      · exact b2 h4
    · intro o x' _ hx
      obtain ⟨rfl, rfl⟩ := hg' o x' hx
      exact ⟨.row e k l, rfl, by simp [Obj.evo, s3], fun _ => rfl⟩
  · cases hg
end
end Go.Ab
namespace Go.Ab
open Go Go.RowKit Go.Proofs Go.Shelf Go.Sort
set_option maxRecDepth 10000
set_option maxHeartbeats 4000000
def shRenC : Ren := ⟨fun | 106 => 30 | 213 => 45 | 265 => 71 | n => n, fun | n => n, fun | n => n⟩
theorem lay106 : Lays.n106 Tryd.prog shRenC := {
  mixed := by kernel_rfl
  f106 := by kernel_rfl
  f213 := by kernel_rfl
  f265 := by kernel_rfl
  t3 := by kernel_rfl
  a3 := by intro w; kernel_rfl
  z3 := by intro w; kernel_rfl
  v3 := by intro w; kernel_rfl
  t9 := by kernel_rfl
  a9 := by intro w; kernel_rfl
  z9 := by intro w; kernel_rfl
  v9 := by intro w; kernel_rfl }
def shRenF : Ren := ⟨fun | 6 => 27 | 14 => 43 | 15 => 44 | 20 => 61 | 21 => 62 | 22 => 63 | 23 => 64 | 24 => 65 | 25 => 66 | 26 => 67 | 27 => 68 | 28 => 69 | 29 => 70 | 46 => 83 | 47 => 84 | 48 => 85 | 49 => 86 | 50 => 87 | 57 => 92 | n => n, fun | 22 => 27 | 24 => 33 | 25 => 82 | 39 => 104 | 45 => 119 | 46 => 120 | 50 => 124 | 53 => 108 | 55 => 128 | 66 => 138 | 70 => 142 | 76 => 146 | 77 => 147 | n => n, fun | n => n⟩
theorem layF6 : SlLaysF0.n6 Tryd.prog shRenF := {
  mixed := by kernel_rfl
  f6 := ⟨"slices.SortFunc[[]licit/api.Span,licit/api.Span]", by decide, by kernel_rfl⟩
  f14 := ⟨"slices.pdqsortCmpFunc[licit/api.Span]", by decide, by kernel_rfl⟩
  f15 := by kernel_rfl
  f20 := ⟨"slices.insertionSortCmpFunc[licit/api.Span]", by decide, by kernel_rfl⟩
  f21 := ⟨"slices.heapSortCmpFunc[licit/api.Span]", by decide, by kernel_rfl⟩
  f22 := ⟨"slices.breakPatternsCmpFunc[licit/api.Span]", by decide, by kernel_rfl⟩
  f23 := ⟨"slices.choosePivotCmpFunc[licit/api.Span]", by decide, by kernel_rfl⟩
  f24 := ⟨"slices.reverseRangeCmpFunc[licit/api.Span]", by decide, by kernel_rfl⟩
  f25 := ⟨"slices.partialInsertionSortCmpFunc[licit/api.Span]", by decide, by kernel_rfl⟩
  f26 := ⟨"slices.partitionEqualCmpFunc[licit/api.Span]", by decide, by kernel_rfl⟩
  f27 := ⟨"slices.partitionCmpFunc[licit/api.Span]", by decide, by kernel_rfl⟩
  f28 := by kernel_rfl
  f29 := by kernel_rfl
  f46 := ⟨"slices.siftDownCmpFunc[licit/api.Span]", by decide, by kernel_rfl⟩
  f47 := by kernel_rfl
  f48 := by kernel_rfl
  f49 := ⟨"slices.medianAdjacentCmpFunc[licit/api.Span]", by decide, by kernel_rfl⟩
  f50 := ⟨"slices.medianCmpFunc[licit/api.Span]", by decide, by kernel_rfl⟩
  f57 := ⟨"slices.order2CmpFunc[licit/api.Span]", by decide, by kernel_rfl⟩
  t0 := by kernel_rfl
  a0 := by intro w; kernel_rfl
  z0 := by intro w; kernel_rfl
  v0 := by intro w; kernel_rfl
  t3 := by kernel_rfl
  a3 := by intro w; kernel_rfl
  z3 := by intro w; kernel_rfl
  v3 := by intro w; kernel_rfl
  t4 := by kernel_rfl
  a4 := by intro w; kernel_rfl
  z4 := by intro w; kernel_rfl
  v4 := by intro w; kernel_rfl
  t5 := by kernel_rfl
  a5 := by intro w; kernel_rfl
  z5 := by intro w; kernel_rfl
  v5 := by intro w; kernel_rfl
  t9 := by kernel_rfl
  a9 := by intro w; kernel_rfl
  z9 := by intro w; kernel_rfl
  v9 := by intro w; kernel_rfl
  t22 := by kernel_rfl
  a22 := by intro w; kernel_rfl
  z22 := by intro w; kernel_rfl
  v22 := by intro w; kernel_rfl
  t25 := by kernel_rfl
  a25 := by intro w; kernel_rfl
  z25 := by intro w; kernel_rfl
  v25 := by intro w; kernel_rfl
  t39 := by kernel_rfl
  a39 := by intro w; kernel_rfl
  z39 := by intro w; kernel_rfl
  v39 := by intro w; kernel_rfl
  t45 := by kernel_rfl
  a45 := by intro w; kernel_rfl
  z45 := by intro w; kernel_rfl
  v45 := by intro w; kernel_rfl
  t46 := by kernel_rfl
  a46 := by intro w; kernel_rfl
  z46 := by intro w; kernel_rfl
  v46 := by intro w; kernel_rfl
  t50 := by kernel_rfl
  a50 := by intro w; kernel_rfl
  z50 := by intro w; kernel_rfl
  v50 := by intro w; kernel_rfl
  t53 := by kernel_rfl
  a53 := by intro w; kernel_rfl
  z53 := by intro w; kernel_rfl
  v53 := by intro w; kernel_rfl
  t55 := by kernel_rfl
  a55 := by intro w; kernel_rfl
  z55 := by intro w; kernel_rfl
  v55 := by intro w; kernel_rfl
  t66 := by kernel_rfl
  a66 := by intro w; kernel_rfl
  z66 := by intro w; kernel_rfl
  v66 := by intro w; kernel_rfl
  t70 := by kernel_rfl
  a70 := by intro w; kernel_rfl
  z70 := by intro w; kernel_rfl
  v70 := by intro w; kernel_rfl
  t76 := by kernel_rfl
  a76 := by intro w; kernel_rfl
  z76 := by intro w; kernel_rfl
  v76 := by intro w; kernel_rfl
  t77 := by kernel_rfl
  a77 := by intro w; kernel_rfl
  z77 := by intro w; kernel_rfl
  v77 := by intro w; kernel_rfl }
theorem holds_softV {w : World} {g : Nat} {cur : Array Value} {e : TypeId} {fr : Nat × Nat} {xs : Array Value} (hb : w.heap[g]? = some (.cells cur e fr)) (hs : Soft fr cur.size) (hl : xs.size ≤ cur.size) (ht : cur.toList.take xs.size = xs.toList) : Holds id w g 0 xs := by
  intro j hj
  refine ⟨?_, ?_⟩
  · have h1 : (cur.toList.take xs.size)[j]? = xs.toList[j]? := by rw [ht]
    rw [List.getElem?_take_of_lt hj] at h1
    simp only [World.cell?, hb, Nat.zero_add]
    simp only [Option.isSome_none, Bool.false_eq_true, if_false]
    rw [← Array.getElem?_toList, h1, Array.getElem?_toList, Array.getElem?_eq_getElem hj, getElem!_pos xs j hj]
    rfl
  · have := hs j (by omega)
    obtain ⟨lo, hi⟩ := fr
    simp only [World.frozen?, hb, Nat.zero_add, Bool.and_eq_false_iff, decide_eq_false_iff_not]
    exact Classical.not_and_iff_not_or_not.1 this
theorem heap_sortedV {w : World} {g n : Nat} {os : Array Go.Obj} {cur : Array Value} {e : TypeId} {fr : Nat × Nat} (d : Array Value) (hb : w.heap[g]? = some (.cells cur e fr)) :
    (grow (putRow id (Sort.ahead w n) g 0 d) os).heap[g]? = some (.cells (putCells id 0 d cur) e fr) := by
  have hg : g < w.heap.size := (Array.getElem?_eq_some_iff.1 hb).1
  rw [heap_grow_old _ _ (by simpa using hg)]
  simp [putRow, mapBlock, Sort.ahead, Array.getElem?_modify, hb, onCells]
theorem grownBy_sortedV {w : World} {g n : Nat} {os : Array Go.Obj} (d : Array Value) : w.grownBy (grow (putRow id (Sort.ahead w n) g 0 d) os) (some g) := by
  refine ⟨rfl, rfl, rfl, by simp, fun k hk hne => ?_⟩
  rw [heap_grow_old _ _ (by simpa using hk)]
  have : g ≠ k := fun e => hne (by rw [e])
  simp [putRow, mapBlock, Sort.ahead, Array.getElem?_modify, this]
theorem take_putCellsV (cur ts : Array Value) (h : ts.size ≤ cur.size) : (putCells id 0 ts cur).toList.take ts.size = ts.toList := by
  apply List.ext_getElem?
  intro j
  by_cases hj : j < ts.size
  · rw [List.getElem?_take_of_lt hj, Array.getElem?_toList]
    simp [putCells, hj, show j < cur.size by omega]
  · rw [List.getElem?_take_eq_none (by omega), List.getElem?_eq_none (by simp; omega)]
def encSp (s : Sp) : List Value := [.string ⟨s.1.toArray⟩, .int .i64 s.2.1, .int .i64 s.2.2]
theorem sp_wide (s : Sp) : (eSp s).wide 3 := ⟨rfl, rfl⟩
theorem sps_wide (l : List Sp) : ∀ d ∈ l.map eSp, d.wide 3 := fun d hd => by
  obtain ⟨s, _, rfl⟩ := List.mem_map.1 hd
  exact sp_wide s
theorem flat_sp (l : List Sp) : (Ab.flat (l.map eSp)).map D.val = (flatK encSp 3 l.toArray).toList := by
  have hfl : (Ab.flat (l.map eSp)).length = l.length * 3 := by
    rw [flat_length (fun d hd => (sps_wide l d hd).1), List.length_map]
  apply List.ext_getElem?
  intro t
  by_cases ht : t < l.length * 3
  · have h1 : t / 3 < l.length := by omega
    have h2 := flat_get (l := l.map eSp) (sz := 3) (fun d hd => (sps_wide l d hd).1) (i := t / 3) (j := t % 3) (d := eSp l[t / 3]) (by rw [List.getElem?_map, List.getElem?_eq_getElem h1]; rfl) (by omega)
    rw [show t / 3 * 3 + t % 3 = t by omega] at h2
    rw [List.getElem?_map, h2]
    have h3 : t < (flatK encSp 3 l.toArray).size := by simp; omega
    have h4 := get_flatK encSp 3 l.toArray t (by simp; omega)
    rw [getElem!_pos _ t h3] at h4
    have h6 : (flatK encSp 3 l.toArray).toList[t]? = some ((encSp l.toArray[t / 3]!)[t % 3]!) := by
      rw [Array.getElem?_toList, Array.getElem?_eq_getElem h3, h4]
    rw [h6, getElem!_pos l.toArray (t / 3) (by simpa using h1), List.getElem_toArray]
    have h5 : t % 3 = 0 ∨ t % 3 = 1 ∨ t % 3 = 2 := by omega
    rcases h5 with h5 | h5 | h5 <;> rw [h5] <;> rfl
  · rw [List.getElem?_eq_none (by simp; omega), List.getElem?_eq_none (by simp; omega)]
def unSp : D → Sp
  | .agg [.str p, .int _ a, .int _ b] => (p, a, b)
  | _ => ([], 0, 0)
theorem unSp_map (l : List Sp) : (l.map eSp).map unSp = l := by
  rw [List.map_map]
  exact (List.map_congr_left fun _ _ => rfl).trans (List.map_id _)
def cfS (x y : Sp) : Int := if x.1 < y.1 then -1 else if y.1 < x.1 then 1 else if x.2.1 < y.2.1 then -1 else if y.2.1 < x.2.1 then 1 else 0
theorem cfS_lt (x y : Sp) : ltOf cfS x y = true ↔ x.1 < y.1 ∨ (x.1 = y.1 ∧ x.2.1 < y.2.1) := by
  unfold ltOf cfS
  rw [decide_eq_true_eq]
  by_cases h1 : x.1 < y.1
  · simp [h1]
  · rw [if_neg h1]
    by_cases h2 : y.1 < x.1
    · rw [if_pos h2]
      have h3 : x.1 ≠ y.1 := fun e => by rw [e] at h2; exact bs_irr _ h2
      simp [h1, h3]
    · rw [if_neg h2]
      have h3 : x.1 = y.1 := List.le_antisymm (List.not_lt.1 h2) (List.not_lt.1 h1)
      by_cases h4 : x.2.1 < y.2.1
      · rw [if_pos h4]
        simp [h3, h4]
      · rw [if_neg h4]
        by_cases h5 : y.2.1 < x.2.1
        · rw [if_pos h5]
          simp [h1, h4]
        · rw [if_neg h5]
          simp [h1, h4]
theorem swoS : SWO (ltOf cfS) := by
  refine ⟨fun x => ?_, fun x y z h k => ?_, fun x y z h k => ?_⟩
  · rw [Bool.eq_false_iff]
    intro h
    rcases (cfS_lt x x).1 h with h | ⟨_, h⟩
    · exact bs_irr _ h
    · omega
  · rw [cfS_lt] at *
    rcases h with h | ⟨h1, h2⟩ <;> rcases k with k | ⟨k1, k2⟩
    · exact .inl (List.lt_trans h k)
    · exact .inl (k1 ▸ h)
    · exact .inl (h1 ▸ k)
    · exact .inr ⟨h1.trans k1, by omega⟩
  · rw [Bool.eq_false_iff] at *
    intro q
    rcases (cfS_lt x z).1 q with q | ⟨q1, q2⟩
    · by_cases hxy : x.1 < y.1
      · exact h ((cfS_lt x y).2 (.inl hxy))
      · by_cases hyz : y.1 < z.1
        · exact k ((cfS_lt y z).2 (.inl hyz))
        · have h1 := List.not_lt.1 hxy
          have h2 := List.not_lt.1 hyz
          exact (List.not_lt.2 (List.le_trans h2 h1)) q
    · by_cases hxy : x.1 < y.1
      · exact h ((cfS_lt x y).2 (.inl hxy))
      · by_cases hyz : y.1 < z.1
        · exact k ((cfS_lt y z).2 (.inl hyz))
        · have e : x.1 = y.1 := List.le_antisymm (by rw [q1]; exact List.not_lt.1 hyz) (List.not_lt.1 hxy)
          by_cases h4 : x.2.1 < y.2.1
          · exact h ((cfS_lt x y).2 (.inr ⟨e, h4⟩))
          · exact k ((cfS_lt y z).2 (.inr ⟨e.symm.trans q1, by omega⟩))
noncomputable def pdqS (l : List Sp) : List Sp := (pdq (ltOf cfS) l.toArray 0 l.toArray.size (Lib.bitLen l.toArray.size) true true).toList
theorem pdqS_ok (l : List Sp) : (pdqS l).Perm l ∧ (pdqS l).Pairwise Le := by
  have h := pdq_sorts (ltOf cfS) swoS l.toArray 0 l.toArray.size (Lib.bitLen l.toArray.size) true true (Nat.zero_le _) (Nat.le_refl _) (Or.inl rfl)
  unfold pdqS
  generalize pdq (ltOf cfS) l.toArray 0 l.toArray.size (Lib.bitLen l.toArray.size) true true = d at *
  obtain ⟨⟨h1, _, h3⟩, h2⟩ := h
  refine ⟨?_, ?_⟩
  · rw [← h1, Array.extract_size, h1, Array.extract_size] at h3
    simpa using h3
  · rw [List.pairwise_iff_getElem]
    intro i j hi hj hij
    have hi' : i < d.size := by simpa using hi
    have hj' : j < d.size := by simpa using hj
    have := h2 i j (Nat.zero_le _) hij (by rw [← h1]; exact hj')
    rw [getElem!_pos d i hi', getElem!_pos d j hj'] at this
    simp only [Array.getElem_toList]
    generalize d[i] = x at *
    generalize d[j] = y at *
    have hn : ¬ (y.1 < x.1 ∨ (y.1 = x.1 ∧ y.2.1 < x.2.1)) := fun k => by rw [(cfS_lt y x).2 k] at this; cases this
    unfold Le
    by_cases h4 : x.1 < y.1
    · exact .inl h4
    · have h5 : ¬ y.1 < x.1 := fun k => hn (.inl k)
      have e : x.1 = y.1 := List.le_antisymm (List.not_lt.1 h5) (List.not_lt.1 h4)
      exact .inr ⟨e, by
        by_cases h6 : x.2.1 ≤ y.2.1
        · exact h6
        · exact absurd (.inr ⟨e.symm, by omega⟩) hn⟩
theorem cmp_bytes : ∀ a b : Bs, Lib.compareBytes a b = if a < b then -1 else if b < a then 1 else 0
  | [], [] => by simp [Lib.compareBytes]
  | [], b :: y => by
    rw [Lib.compareBytes, if_pos (List.nil_lt_cons b y)]
  | a :: x, [] => by
    rw [Lib.compareBytes, if_neg (List.not_lt_nil _), if_pos (List.nil_lt_cons a x)]
  | a :: x, b :: y => by
    rw [Lib.compareBytes, cmp_bytes x y]
    simp only [List.cons_lt_cons_iff]
    by_cases h1 : a < b
    · simp [h1]
    · by_cases h2 : b < a
      · have : a ≠ b := fun e => by rw [e] at h2; exact absurd h2 (UInt8.lt_irrefl b)
        simp [h1, h2, this]
      · have : a = b := UInt8.le_antisymm (UInt8.not_lt.1 h2) (UInt8.not_lt.1 h1)
        subst this
        simp
theorem cmpInt_calls (x y : Int) (w : World) : Calls Tryd.prog 31 #[.int .i64 x, .int .i64 y] w fun e w' => e = .returned (.int .i64 (Lib.compareInt x y)) ∧ w' = w := by
  have hn : ∀ (z : Int) (w : World), Calls Tryd.prog 46 #[.int .i64 z] w fun e w' => e = .returned (.bool false) ∧ w' = w := fun z w => by
    go_enter Tryd.func46, Tryd.ntmps46
    go_wp2
    go_ret
    exact ⟨by simp, rfl⟩
  go_enter Tryd.func31, Tryd.ntmps31
  go_wp2_with (go_at_call 46; refine (hn _ _).mono ?_; rintro e w' ⟨rfl, rfl⟩)
  all_goals (go_ret; refine ⟨?_, rfl⟩; unfold Lib.compareInt; (repeat' split) <;> first | rfl | (exfalso; omega))
theorem or_calls {w : World} {a : Addr} {v0 v1 : Int} {cap : Nat} (c0 : w.cell? a = some (.int .i64 v0)) (c1 : w.cell? ⟨a.block, a.off + 1, none⟩ = some (.int .i64 v1)) {r : Int} (hr : (if v0 = 0 then v1 else v0) = r) :
    Calls Tryd.prog 29 #[.slice (some a) 2 cap] w fun e w' => e = .returned (.int .i64 r) ∧ w' = w := by
  subst hr
  go_enter Tryd.func29, Tryd.ntmps29
  by_cases h0 : v0 = 0
  · rw [if_pos h0]
    subst h0
    by_cases h1 : v1 = 0
    · subst h1
      go_wp2_with fail
      refine wp_loop_rounds 3 ?_
      rw [rounds_succ]
      go_wp2_with fail
      rw [rounds_succ]
      go_wp2_with fail
      rw [rounds_succ]
      go_wp2_with fail
      go_ret
      exact ⟨rfl, rfl⟩
    · have hb1 : (v1 == 0) = false := by simpa using h1
      have hb2 : (v1 != 0) = true := by simpa using h1
      go_wp2_with fail
      refine wp_loop_rounds 3 ?_
      rw [rounds_succ]
      go_wp2_with fail
      rw [rounds_succ]
      go_wp2_with fail
      go_ret
      exact ⟨rfl, rfl⟩
  · rw [if_neg h0]
    have hb1 : (v0 == 0) = false := by simpa using h0
    have hb2 : (v0 != 0) = true := by simpa using h0
    go_wp2_with fail
    refine wp_loop_rounds 3 ?_
    rw [rounds_succ]
    go_wp2_with fail
    go_ret
    exact ⟨rfl, rfl⟩
theorem heap_newS (w : World) (o : Go.Obj) : (w.alloc o).heap[w.heap.size]? = some o := by
  show (w.heap.push o)[w.heap.size]? = some o
  simp
theorem set2_calls (x y : Sp) (w : World) : Calls Tryd.prog 28 #[.agg (encSp x).toArray, .agg (encSp y).toArray] w fun e w' => e = .returned (.int .i64 (cfS x y)) ∧ ∃ q os', w' = grow (w.drewN q) os' := by
  obtain ⟨x1, x2, x3⟩ := x
  obtain ⟨y1, y2, y3⟩ := y
  have hcs := fun W' => Any.strings_Compare lay106 ⟨x1.toArray⟩ ⟨y1.toArray⟩ W'
  have hci := fun W' => cmpInt_calls x2 y2 W'
  change ∀ W', Calls Tryd.prog 30 _ _ _ at hcs
  generalize hv0 : Lib.compareBytes (⟨x1.toArray⟩ : ByteArray).data.toList (⟨y1.toArray⟩ : ByteArray).data.toList = v0 at hcs
  generalize hv1 : Lib.compareInt x2 y2 = v1 at hci
  have hcf : cfS (x1, x2, x3) (y1, y2, y3) = if v0 = 0 then v1 else v0 := by
    rw [← hv0, ← hv1]
    simp only [cmp_bytes, cfS, Lib.compareInt]
    by_cases h1 : x1 < y1
    · simp [h1]
    · by_cases h2 : y1 < x1
      · simp [h1, h2]
      · simp [h1, h2]
  rw [hcf]
  obtain ⟨r, hr⟩ : ∃ r, (if v0 = 0 then v1 else v0) = r := ⟨_, rfl⟩
  rw [hr]
  show Calls Tryd.prog 28 #[.agg #[.string ⟨x1.toArray⟩, .int .i64 x2, .int .i64 x3], .agg #[.string ⟨y1.toArray⟩, .int .i64 y2, .int .i64 y3]] w _
  clear hv0 hv1 hcf
  go_enter Tryd.func28, Tryd.ntmps28
  go_wp2_with fail
  generalize hW : ((w.alloc (.cells #[.string ⟨x1.toArray⟩, .int .i64 x2, .int .i64 x3] 33)).alloc (.cells #[.string ⟨y1.toArray⟩, .int .i64 y2, .int .i64 y3] 33)) = W
  have hg : ∃ os', W = grow w os' := ⟨_, by rw [← hW, alloc_eq_grow, alloc_eq_grow, grow_grow]⟩
  have b0 : W.heap[w.heap.size]? = some (.cells #[.string ⟨x1.toArray⟩, .int .i64 x2, .int .i64 x3] 33 (0, 0)) := by
    rw [← hW, Below.heap_alloc _ _ _ (by rw [World.size_alloc]; omega)]
    show (w.heap.push _)[w.heap.size]? = _
    simp
  have b1 : W.heap[w.heap.size + 1]? = some (.cells #[.string ⟨y1.toArray⟩, .int .i64 y2, .int .i64 y3] 33 (0, 0)) := by
    rw [← hW]
    have h := heap_newS (w.alloc (.cells #[.string ⟨x1.toArray⟩, .int .i64 x2, .int .i64 x3] 33)) (.cells #[.string ⟨y1.toArray⟩, .int .i64 y2, .int .i64 y3] 33)
    rw [World.size_alloc] at h
    exact h
  have c0 : W.cell? ⟨w.heap.size, 0, none⟩ = some (.string ⟨x1.toArray⟩) := by unfold World.cell?; rw [b0]; rfl
  have c1 : W.cell? ⟨w.heap.size, 1, none⟩ = some (.int .i64 x2) := by unfold World.cell?; rw [b0]; rfl
  have c2 : W.cell? ⟨w.heap.size + 1, 0, none⟩ = some (.string ⟨y1.toArray⟩) := by unfold World.cell?; rw [b1]; rfl
  have c3 : W.cell? ⟨w.heap.size + 1, 1, none⟩ = some (.int .i64 y2) := by unfold World.cell?; rw [b1]; rfl
  have hsz : W.heap.size = w.heap.size + 2 := by rw [← hW, World.size_alloc, World.size_alloc]
  have n2 : (W.alloc (.cells #[.int .i64 v0, .int .i64 v1] 3)).heap[w.heap.size + 2]? = some (.cells #[.int .i64 v0, .int .i64 v1] 3 (0, 0)) := by
    have h := heap_newS W (.cells #[.int .i64 v0, .int .i64 v1] 3)
    rw [hsz] at h
    exact h
  have n0 : (W.alloc (.cells #[.int .i64 v0, .int .i64 v1] 3)).drew.cell? ⟨w.heap.size + 2, 0, none⟩ = some (.int .i64 v0) := by
    show (W.alloc (.cells #[.int .i64 v0, .int .i64 v1] 3)).cell? ⟨w.heap.size + 2, 0, none⟩ = _
    unfold World.cell?
    rw [n2]
    rfl
  have n1 : (W.alloc (.cells #[.int .i64 v0, .int .i64 v1] 3)).drew.cell? ⟨w.heap.size + 2, 0 + 1, none⟩ = some (.int .i64 v1) := by
    show (W.alloc (.cells #[.int .i64 v0, .int .i64 v1] 3)).cell? ⟨w.heap.size + 2, 0 + 1, none⟩ = _
    unfold World.cell?
    rw [n2]
    rfl
  have N0 : Hid ((W.alloc (.cells #[.int .i64 v0, .int .i64 v1] 3)).drew.cell? ⟨w.heap.size + 2, 0, none⟩ = some (.int .i64 v0)) := n0
  have N1 : Hid ((W.alloc (.cells #[.int .i64 v0, .int .i64 v1] 3)).drew.cell? ⟨w.heap.size + 2, 0 + 1, none⟩ = some (.int .i64 v1)) := n1
  have HR : Hid ((if v0 = 0 then v1 else v0) = r) := hr
  clear hW b0 b1 n2 n0 n1 hr
  go_region_held3 (fun w' => w'.cell? ⟨w.heap.size, 0, none⟩ = some (.string ⟨x1.toArray⟩) ∧ w'.cell? ⟨w.heap.size, 1, none⟩ = some (.int .i64 x2) ∧ w'.cell? ⟨w.heap.size + 1, 0, none⟩ = some (.string ⟨y1.toArray⟩) ∧ w'.cell? ⟨w.heap.size + 1, 1, none⟩ = some (.int .i64 y2)) (go_keep) (first
    | (go_at_call 30; refine (hcs _).mono ?_; rintro e w' ⟨rfl, rfl⟩)
    | (go_at_call 31; refine (hci _).mono ?_; rintro e w' ⟨rfl, rfl⟩)
    | (go_at_call 29; refine (or_calls (v0 := v0) (v1 := v1) (r := r) ?_ ?_ ?_).mono ?_; with_reducible exact N0.out; with_reducible exact N1.out; with_reducible exact HR.out; rintro e w' ⟨rfl, rfl⟩))
  go_wp2
  go_ret
  obtain ⟨os', rfl⟩ := hg
  exact ⟨rfl, 1, os' ++ #[.cells #[.int .i64 v0, .int .i64 v1] 3], by rw [alloc_eq_grow, grow_grow]; rfl⟩
def spansD (l : List D) : Prop := ∃ ss : List Sp, l = ss.map eSp ∧ ss.length ≤ 1000000000
theorem turn_putV {w : World} {g cap : Nat} {cur : Array Value} {e : TypeId} {fr : Nat × Nat} {k n : Nat} {ds : Array Value} {q : Nat} {os : Array Go.Obj} (hb : w.heap[g]? = some (.cells cur e fr)) (hs : Soft fr cur.size) (hn : n ≤ cap) (hds : ds.size = n * k) (hl : ds.size ≤ cur.size) (hc : cap ≤ maxLen) (hz : cur.size = cap * k) :
    RowTurnK w (grow (putRow id (Sort.ahead w q) g 0 ds) os) e k (.slice (some ⟨g, 0, none⟩) n cap) (.slice (some ⟨g, 0, none⟩) n cap) n ds.toList := by
  have hgr := grownBy_sortedV (w := w) (g := g) (n := q) (os := os) ds
  have hsz : (putCells id 0 ds cur).size = cur.size := by simp [putCells]
  refine ⟨⟨by simpa using hds, .inr ⟨g, cap, _, rfl, Nat.zero_le _, ⟨fr, heap_sortedV _ hb, by rw [hsz]; exact hs⟩, hn, hc, by rw [hsz]; exact hz, ?_⟩⟩, hgr.os, hgr.tape, hgr.output, hgr.size, fun b h => h, fun b h1 h2 => hgr.block b h1 (fun e => h2 e.symm)⟩
  rw [← hds]
  exact take_putCellsV cur ds hl
noncomputable def g_sortSp := locSpec (fun l : List D => [.row 0 l.length, .data (.clo 28 [])]) (fun l => [.row 33 3 l]) spansD (fun l => (.junk, [.row 33 3 ((pdqS (l.map unSp)).map eSp)]))
theorem pdqS_len (l : List Sp) : (pdqS l).length = l.length := (pdqS_ok l).1.length_eq
theorem pdqS_nil : pdqS [] = [] := List.eq_nil_of_length_eq_zero (by rw [pdqS_len]; rfl)
theorem f_sortSp_ok : LocOK Tryd.prog 27 g_sortSp := loc_rowK (by decide) Tryd.func27 (by kernel_rfl) (by kernel_rfl)
  (fun l hl => by
    obtain ⟨ss, rfl, _⟩ := hl
    rw [unSp_map]
    exact ⟨sps_wide _, sps_wide _, by rw [List.length_map, List.length_map, pdqS_len]⟩)
  fun l hl w v hv => by
    obtain ⟨ss, rfl, hs⟩ := hl
    rw [unSp_map, flat_sp] at *
    rw [List.length_map] at hv ⊢
    rcases hv.2 with ⟨rfl, h0⟩ | ⟨g, cap, cur, rfl, _, ⟨fr, hb, hso⟩, hnc, hcm, hcz, ht⟩
    · have : ss = [] := List.eq_nil_of_length_eq_zero h0
      subst this
      refine (AnyF.slices_SortFunc_none layF6 none 0 _ w).mono ?_
      rintro e w' ⟨rfl, rfl⟩
      refine ⟨⟨_, rfl⟩, ?_⟩
      rw [pdqS_nil]
      exact ⟨hv, rfl, rfl, rfl, Nat.le_refl _, fun _ h => h, fun _ _ _ => rfl⟩
    · have hfs : (flatK encSp 3 ss.toArray).size = ss.length * 3 := by simp
      have hle : (flatK encSp 3 ss.toArray).size ≤ cur.size := by rw [hfs, hcz]; omega
      have hH : HoldsK encSp 3 w g 0 ss.toArray := holds_softV hb hso hle (by rw [hfs]; exact ht)
      have hsize : ss.toArray.size = ss.length := by simp
      have hcall := AnyQ.slices_SortFunc_eq layF6 3 (by intro w; kernel_rfl) (by intro w; kernel_rfl) encSp (fun _ => rfl) (fun x v hv => by simp [encSp] at hv; rcases hv with rfl | rfl | rfl <;> rfl) cfS swoS 28 #[] g 0 cap ss.toArray w (enters_of Tryd.func28 (by kernel_rfl) rfl) (fun _ _ _ _ x y => set2_calls x y _) hH (heap_lt hb) (by simp; omega)
      rw [hsize] at hcall
      refine hcall.mono ?_
      rintro e w' ⟨rfl, n, os, rfl⟩
      have h := turn_putV (w := w) (n := ss.length) (k := 3) (ds := flatK encSp 3 (pdqS ss).toArray) (q := n) (os := os) hb hso hnc (by simp [pdqS_len]) (by simp [pdqS_len]; omega) hcm hcz
      exact ⟨⟨_, rfl⟩, h⟩
theorem g_sortSp_eq {ss : List Sp} (h : ss.length ≤ 1000000000) : g_sortSp [.row 0 ss.length, .data (.clo 28 [])] [.row 33 3 (ss.map eSp)] = some (.junk, [.row 33 3 ((pdqS ss).map eSp)]) := by
  have := locSpec_eq (enc := fun l : List D => [AV.row 0 l.length, .data (.clo 28 [])]) (eno := fun l => [Obj.row 33 3 l]) (dom := spansD) (out := fun l => (AV.junk, [Obj.row 33 3 ((pdqS (l.map unSp)).map eSp)])) (x := ss.map eSp) ⟨ss, rfl, h⟩ (fun y _ hy => by
    simp only [List.cons.injEq, Obj.row.injEq, and_true, true_and] at hy
    rw [hy])
  rw [unSp_map, List.length_map] at this
  exact this
end Go.Ab
namespace Go.Ab
open Go Go.RowKit Go.Proofs
set_option maxRecDepth 100000
set_option maxHeartbeats 40000000
theorem kept_full (l : List Sp) : keptS l = l.filter full := by
  unfold keptS
  refine List.filter_congr fun s _ => ?_
  unfold emptyS full
  rw [Bool.eq_iff_iff]
  simp only [Bool.not_eq_true', decide_eq_false_iff_not, decide_eq_true_eq]
  omega
def outM : Option (List Sp × Sp) → List Sp
  | none => []
  | some (pre, c) => pre ++ [c]
def joinM : Option (List Sp × Sp) → List Sp → List Sp
  | none, r => mgL r
  | some (pre, c), r => pre ++ mg c r
theorem joinM_cons (o : Option (List Sp × Sp)) (y : Sp) (r : List Sp) : joinM o (y :: r) = match o with
    | none => joinM (some ([], y)) r
    | some (pre, c) => if c.1 == y.1 && decide (c.2.2 ≥ y.2.1) then joinM (some (pre, (c.1, c.2.1, max c.2.2 y.2.2))) r else joinM (some (pre ++ [c], y)) r := by
  cases o with
  | none => rfl
  | some q =>
    obtain ⟨pre, c⟩ := q
    simp only [joinM]
    rw [mg]
    split
    · rfl
    · simp
theorem joinM_nil (o : Option (List Sp × Sp)) : joinM o [] = outM o := by
  cases o with
  | none => rfl
  | some q => rfl
theorem outM_len (o : Option (List Sp × Sp)) : (outM o).length = match o with
    | none => 0
    | some (pre, _) => pre.length + 1 := by
  cases o with
  | none => rfl
  | some q => simp [outM]
theorem set_plain (l : List Sp) : mgL (pdqS (keptS l)) = setG l := by
  obtain ⟨h1, h2⟩ := pdqS_ok (keptS l)
  rw [kept_full] at h1 h2 ⊢
  exact setG_eq h1 h2
noncomputable def g_setP : List D → Option D := encSpec (fun x : (List Sp) => [.list (x.map eSp)]) (fun x : (List Sp) => x.length ≤ 1000000) (fun x : (List Sp) => .list ((setG x).map eSp))
theorem g_setP_eq {l : List Sp} (hd : l.length ≤ 1000000) : g_setP [.list (l.map eSp)] = some (.list ((setG l).map eSp)) := encSpec_eq (x := l) hd fun y hy => by
    simp only [List.cons.injEq, and_true, true_and, D.str.injEq, D.int.injEq, D.list.injEq, D.bool.injEq, D.agg.injEq, D.clo.injEq, Int.natCast_inj, inj_ie, eSp_e, eSp_ie] at hy
    rw [hy]
theorem f_setP_ok : PureOK Tryd.prog 13 false g_setP := by
  have hΓ := Γo f_cloS7_ok (Γq f_delS_ok (Γq f_sortSp_ok (Γn)))
  refine pure_enc (n := 61) (rs := [.tmp 2]) Tryd.func13 (by kernel_rfl) rfl (by kernel_rfl) (by kernel_rfl) ?_
  rintro l hd
  (try dsimp only at hd ⊢)
  refine ⟨fun h => (by cases h), fun k hz0 => ?_⟩
  rw [← set_plain]
  have e1 := g_cloS7_eq (l := l) (by omega)
  obtain ⟨r, os, hG, e2⟩ := g_delS_eq hd
  unfold dlA dlO at e2
  have hkl : (keptS l).length ≤ l.length := List.length_filter_le _ _
  have e3 := g_sortSp_eq (ss := keptS l) (by omega)
  have hpl := pdqS_len (keptS l)
  rw [start_frame (by simp)]; simp only [enumV, go_sem, emptyH]
  rcases hG with ⟨hk, rfl, rfl⟩ | ⟨rfl, rfl⟩
  · rw [hk] at e3 hpl ⊢
    unfold dlO at e2
    have hcall : ∀ k m, callLoc k ⟨[(2, .row 33 3 (l.map eSp))], m⟩ g_delS [.row 2 l.length, .data (.clo 26 [])] = some (.row 2 l.length, ⟨[(2, .row 33 3 (l.map eSp))], k⟩) := fun k m => (callLoc_of (fp := [2]) rfl rfl rfl e2 (Nat.le_refl _)).trans rfl
    have hcall2 : ∀ k m, callLoc k ⟨[(2, .row 33 3 (l.map eSp))], m⟩ g_sortSp [.row 2 l.length, .data (.clo 28 [])] = some (.junk, ⟨[(2, .row 33 3 ((pdqS l).map eSp))], k⟩) := fun k m => (callLoc_of (fp := [2]) rfl rfl rfl e3 (Nat.le_refl _)).trans rfl
    repeat (first
      | (apply axJ; (focus ((with_reducible constructor) <;> rfl)))
      | (apply awT mixedOK hΓ (by kernel_rfl); (simp (disch := omega) only [go_sem, ↓reduceIte, dk, ↓lk, Int.reduceBEq, Int.reduceBNe, Bool.true_bne, Bool.false_bne, Bool.not_true, Bool.not_false, e1, hcall, hcall2, List.length_map] <;> with_reducible rfl))
      | ((first | apply awR hΓ | apply awG | apply awH mixedOK hΓ rfl (by kernel_rfl) | apply ovE rfl); (simp (disch := omega) only [go_sem, ↓reduceIte, dk, ↓lk, Int.reduceBEq, Int.reduceBNe, Bool.true_bne, Bool.false_bne, Bool.not_true, Bool.not_false, e1, hcall, hcall2, List.length_map] <;> with_reducible rfl); exact trivial)
      | rfl)
    refine awp_weak ((Weak.freeze (o := 2) rfl).trans (show Weak _ _ _ ((frame 61 [(3, .nils), (12, .data (.list ((pdqS l).map eSp))), (13, .data (i64 l.length)), (14, .data (i64 ((0 : Nat) : Int)))])) ⟨[], 12⟩ from Weak.v (by (simp [ConvF, lookV, Conv, ints, upd, Heap.set, Heap.get, look, hpl]; done)) (by (simp (disch := omega) only [TabSub, look, if_pos, if_neg, Obj.refsOK, refsOKs, AV.refsOK, decide_eq_true_eq, Bool.and_true, Bool.and_self, upd, Heap.set, Heap.get, look, hpl] ) <;> ((repeat' apply And.intro) <;> first | exact True.intro | omega | (simp; done) | rfl)))) ?_
    refine awp_weak (Weak.nilrowF (i := 3) 33 (sz := 3) (by omega) (by omega) rfl) ?_
    rw [← hpl]
    generalize pdqS l = L at *
    refine awp_loop_at (X := Option (List Sp × Sp) × Nat) (fun y => (frame 61 [(3, .row 12 (outM y.1).length), (12, .data (.list (L.map eSp))), (13, .data (i64 L.length)), (14, .data (i64 y.2))])) (fun y => [(12, .row 33 3 ((outM y.1).map eSp))]) 13
      (fun y => y.2 ≤ L.length ∧ mgL L = joinM y.1 (L.drop y.2) ∧ (outM y.1).length ≤ y.2) (fun y => L.length - y.2) (none, 0) ⟨Nat.zero_le _, rfl, Nat.le_refl _⟩ (Weak.v (by (simp [ConvF, lookV, Conv, ints, upd, outM]; done)) (by (simp (disch := omega) only [TabSub, look, if_pos, if_neg, Obj.refsOK, refsOKs, AV.refsOK, decide_eq_true_eq, Bool.and_true, Bool.and_self, upd, outM] ) <;> ((repeat' apply And.intro) <;> first | exact True.intro | omega | (simp; done) | rfl))) ?_
    rintro ⟨o, i⟩ ⟨hi, hpre, hol⟩
    (try dsimp only at hi hpre hol ⊢)
    by_cases hi2 : i < L.length
    case neg =>
      have hi3 : i = L.length := by omega
      subst hi3
      rw [List.drop_length, joinM_nil] at hpre
      rw [hpre]
      repeat (first
        | (apply axJ; (focus ((with_reducible constructor) <;> rfl)))
        | (apply awT mixedOK hΓ (by kernel_rfl); (simp (disch := omega) only [go_sem, ↓reduceIte, dk, ↓lk, Int.reduceBEq, Int.reduceBNe, Bool.true_bne, Bool.false_bne, Bool.not_true, Bool.not_false] <;> with_reducible rfl))
        | ((first | apply awR hΓ | apply awG | apply awH mixedOK hΓ rfl (by kernel_rfl) | apply ovE rfl); (simp (disch := omega) only [go_sem, ↓reduceIte, dk, ↓lk, Int.reduceBEq, Int.reduceBNe, Bool.true_bne, Bool.false_bne, Bool.not_true, Bool.not_false] <;> with_reducible rfl); exact trivial)
        | rfl)
      try rfl
    have hdi := List.drop_eq_getElem_cons hi2
    rw [hdi, joinM_cons] at hpre
    generalize hy : L[i] = y at *
    obtain ⟨y1, y2, y3⟩ := y
    have hmy : ∀ o : List Sp, (o ++ [(y1, y2, y3)]).map eSp = o.map eSp ++ [.agg [.str y1, i64 y2, i64 y3]] := fun o => by rw [List.map_append]; rfl
    cases o with
    | none =>
      have hk : decide (((0 : Nat) : Int) - 1 ≥ 0) = false := rfl
      have hk2 : decide ((-1 : Int) ≥ 0) = false := rfl
      have ho : (outM none).length = 0 := rfl
      have ho2 : (outM none).map eSp = [] := rfl
      rw [ho, ho2]
      repeat (first
        | (apply axJ; (focus ((with_reducible constructor) <;> rfl)))
        | (apply awT mixedOK hΓ (by kernel_rfl); (simp (disch := omega) only [go_sem, ↓reduceIte, dk, ↓lk, Int.reduceBEq, Int.reduceBNe, Bool.true_bne, Bool.false_bne, Bool.not_true, Bool.not_false, hy, hk, hk2] <;> with_reducible rfl))
        | ((first | apply awR hΓ | apply awG | apply awH mixedOK hΓ rfl (by kernel_rfl) | apply ovE rfl); (simp (disch := omega) only [go_sem, ↓reduceIte, dk, ↓lk, Int.reduceBEq, Int.reduceBNe, Bool.true_bne, Bool.false_bne, Bool.not_true, Bool.not_false, hy, hk, hk2] <;> with_reducible rfl); exact trivial)
        | rfl)
      exact ⟨(some ([], (y1, y2, y3)), i + 1), ⟨by dsimp only; omega, hpre, by simp [outM]⟩, by dsimp only; omega, Weak.v (by (simp [ConvF, lookV, Conv, ints, outM]; done)) (by (simp (disch := omega) only [TabSub, look, if_pos, if_neg, Obj.refsOK, refsOKs, AV.refsOK, decide_eq_true_eq, Bool.and_true, Bool.and_self, outM] ) <;> ((repeat' apply And.intro) <;> first | exact True.intro | omega | (simp; done) | rfl))⟩
    | some q =>
      obtain ⟨pre, c1, c2, c3⟩ := q
      dsimp only at hpre
      have hO : outM (some (pre, (c1, c2, c3))) = pre ++ [(c1, c2, c3)] := rfl
      rw [hO] at hol ⊢
      have hOl : (pre ++ [(c1, c2, c3)]).length = pre.length + 1 := by simp
      have hOc : ∀ h, (pre ++ [(c1, c2, c3)])[pre.length]'h = (c1, c2, c3) := fun h => by simp
      have hset : ((pre ++ [(c1, c2, c3)]).map eSp).set pre.length (.agg [.str c1, i64 c2, i64 (max c3 y3)]) = (pre ++ [(c1, c2, max c3 y3)]).map eSp := by simp [eSp]
      have hk : decide ((pre.length : Int) ≥ 0) = true := decide_eq_true (by omega)
      have hkk : (((pre.length + 1 : Nat) : Int) - 1) = (pre.length : Int) := by omega
      have hkn : (pre.length : Int).toNat = pre.length := by omega
      generalize hOO : pre ++ [(c1, c2, c3)] = O at *
      rw [hOl] at hol ⊢
      cases ka : (c1 == y1)
      · rw [ka] at hpre
        simp only [Bool.false_and, Bool.false_eq_true, if_false] at hpre
        repeat (first
          | (apply axJ; (focus ((with_reducible constructor) <;> rfl)))
          | (apply awT mixedOK hΓ (by kernel_rfl); (simp (disch := omega) only [go_sem, ↓reduceIte, dk, ↓lk, Int.reduceBEq, Int.reduceBNe, Bool.true_bne, Bool.false_bne, Bool.not_true, Bool.not_false, hy, hk, hkk, hkn, hOl, hOc, ka] <;> with_reducible rfl))
          | ((first | apply awR hΓ | apply awG | apply awH mixedOK hΓ rfl (by kernel_rfl) | apply ovE rfl); (simp (disch := omega) only [go_sem, ↓reduceIte, dk, ↓lk, Int.reduceBEq, Int.reduceBNe, Bool.true_bne, Bool.false_bne, Bool.not_true, Bool.not_false, hy, hk, hkk, hkn, hOl, hOc, ka] <;> with_reducible rfl); exact trivial)
          | rfl)
        exact ⟨(some (O, (y1, y2, y3)), i + 1), ⟨by dsimp only; omega, hpre, by dsimp only; rw [outM_len]; dsimp only; omega⟩, by dsimp only; omega, by dsimp only [outM]; rw [hmy]; exact Weak.v (by (simp [ConvF, lookV, Conv, ints, List.length_append, hOl]; done)) (by (simp (disch := omega) only [TabSub, look, if_pos, if_neg, Obj.refsOK, refsOKs, AV.refsOK, decide_eq_true_eq, Bool.and_true, Bool.and_self, List.length_append, hOl] ) <;> ((repeat' apply And.intro) <;> first | exact True.intro | omega | (simp; done) | rfl))⟩
      cases kb : decide (c3 ≥ y2)
      · rw [ka, kb] at hpre
        simp only [Bool.and_false, Bool.false_eq_true, if_false] at hpre
        repeat (first
          | (apply axJ; (focus ((with_reducible constructor) <;> rfl)))
          | (apply awT mixedOK hΓ (by kernel_rfl); (simp (disch := omega) only [go_sem, ↓reduceIte, dk, ↓lk, Int.reduceBEq, Int.reduceBNe, Bool.true_bne, Bool.false_bne, Bool.not_true, Bool.not_false, hy, hk, hkk, hkn, hOl, hOc, ka, kb] <;> with_reducible rfl))
          | ((first | apply awR hΓ | apply awG | apply awH mixedOK hΓ rfl (by kernel_rfl) | apply ovE rfl); (simp (disch := omega) only [go_sem, ↓reduceIte, dk, ↓lk, Int.reduceBEq, Int.reduceBNe, Bool.true_bne, Bool.false_bne, Bool.not_true, Bool.not_false, hy, hk, hkk, hkn, hOl, hOc, ka, kb] <;> with_reducible rfl); exact trivial)
          | rfl)
        exact ⟨(some (O, (y1, y2, y3)), i + 1), ⟨by dsimp only; omega, hpre, by dsimp only; rw [outM_len]; dsimp only; omega⟩, by dsimp only; omega, by dsimp only [outM]; rw [hmy]; exact Weak.v (by (simp [ConvF, lookV, Conv, ints, List.length_append, hOl]; done)) (by (simp (disch := omega) only [TabSub, look, if_pos, if_neg, Obj.refsOK, refsOKs, AV.refsOK, decide_eq_true_eq, Bool.and_true, Bool.and_self, List.length_append, hOl] ) <;> ((repeat' apply And.intro) <;> first | exact True.intro | omega | (simp; done) | rfl))⟩
      · rw [ka, kb] at hpre
        simp only [Bool.and_self, if_true] at hpre
        (repeat (first | (apply axJ; (focus ((with_reducible constructor) <;> rfl))) | ((first | apply awR hΓ | apply awG | apply ovE rfl); (simp (disch := omega) only [go_sem, ↓reduceIte, dk, ↓lk, Int.reduceBEq, Int.reduceBNe, Bool.true_bne, Bool.false_bne, Bool.not_true, Bool.not_false, hy, hk, hkk, hkn, hOl, hOc, ka, kb] <;> with_reducible rfl); exact trivial) | rfl))
        (apply awp_regf mixedOK hΓ (by kernel_rfl); (simp (disch := omega) only [go_sem, ↓reduceIte, dk, ↓lk, Int.reduceBEq, Int.reduceBNe, Bool.true_bne, Bool.false_bne, Bool.not_true, Bool.not_false, hy, hk, hkk, hkn, hOl, hOc, ka, kb] <;> with_reducible rfl); (simp only [go_sem] <;> with_reducible rfl))
        (repeat (first | (apply axJ; (focus ((with_reducible constructor) <;> rfl))) | ((first | apply awR hΓ | apply awG | apply ovE rfl); (simp (disch := omega) only [go_sem, ↓reduceIte, dk, ↓lk, Int.reduceBEq, Int.reduceBNe, Bool.true_bne, Bool.false_bne, Bool.not_true, Bool.not_false, hy, hk, hkk, hkn, hOl, hOc, ka, kb] <;> with_reducible rfl); exact trivial) | rfl))
        (apply awp_regm (nst := false) (nst' := false) 12 mixedOK hΓ (by kernel_rfl); (simp (disch := omega) only [go_sem, ↓reduceIte, ↓lk, dk, hkn, hOl, hOc, hset, look_upd] <;> with_reducible rfl); (simp (disch := omega) only [go_sem, ↓reduceIte] <;> with_reducible rfl); (focus rfl); (focus rfl); (simp (disch := omega) only [go_sem, ↓reduceIte, ↓lk, dk, hkn, hOl, hOc, hset, look_upd] <;> with_reducible rfl); (focus (first | (simp (disch := omega) only [go_sem, ↓reduceIte, ↓lk, dk, hkn, hOl, hOc, hset, look_upd]; done) | (simp (disch := omega) only [go_sem, ↓reduceIte, ↓lk, dk, hkn, hOl, hOc, hset, look_upd]; omega))); (focus (dsimp only [List.take_succ_cons, List.take_zero]; (repeat (apply same2_cons; (focus (first | (left; decide) | (right; simp (disch := omega) only [go_sem, ↓reduceIte, ↓lk, dk, hkn, hOl, hOc, hset, look_upd]; done))); (simp (disch := omega) only [go_sem, ↓reduceIte, ↓lk, dk, hkn, hOl, hOc, hset, look_upd] <;> with_reducible rfl))); exact same2_nil)); (simp (disch := omega) only [go_sem, ↓reduceIte, ↓lk, dk, hkn, hOl, hOc, hset, look_upd] <;> with_reducible rfl))
        repeat (first
          | (apply axJ; (focus ((with_reducible constructor) <;> rfl)))
          | (apply awT mixedOK hΓ (by kernel_rfl); (simp (disch := omega) only [go_sem, ↓reduceIte, dk, ↓lk, Int.reduceBEq, Int.reduceBNe, Bool.true_bne, Bool.false_bne, Bool.not_true, Bool.not_false] <;> with_reducible rfl))
          | ((first | apply awR hΓ | apply awG | apply awH mixedOK hΓ rfl (by kernel_rfl) | apply ovE rfl); (simp (disch := omega) only [go_sem, ↓reduceIte, dk, ↓lk, Int.reduceBEq, Int.reduceBNe, Bool.true_bne, Bool.false_bne, Bool.not_true, Bool.not_false] <;> with_reducible rfl); exact trivial)
          | rfl)
        exact ⟨(some (pre, (c1, c2, max c3 y3)), i + 1), ⟨by dsimp only; omega, hpre, by dsimp only; rw [outM_len]; dsimp only; omega⟩, by dsimp only; omega, by dsimp only [outM]; exact Weak.v (by (simp [ConvF, lookV, Conv, ints, List.length_append]; done)) (by (simp (disch := omega) only [TabSub, look, if_pos, if_neg, Obj.refsOK, refsOKs, AV.refsOK, decide_eq_true_eq, Bool.and_true, Bool.and_self, List.length_append] ) <;> ((repeat' apply And.intro) <;> first | exact True.intro | omega | (simp; done) | rfl))⟩
  · have hcall : ∀ m, callLoc 3 ⟨[(2, .row 33 3 (l.map eSp))], m⟩ g_delS [.row 2 l.length, .data (.clo 26 [])] = some (.row 3 (keptS l).length, ⟨[(2, .dead), (3, .row 33 3 ((keptS l).map eSp))], 4⟩) := fun m => (callLoc_of (fp := [2]) rfl rfl rfl e2 (by simp)).trans rfl
    generalize keptS l = kf at *
    have hcall2 : ∀ k m, callLoc k ⟨[(2, .dead), (3, .row 33 3 (kf.map eSp))], m⟩ g_sortSp [.row 3 kf.length, .data (.clo 28 [])] = some (.junk, ⟨[(2, .dead), (3, .row 33 3 ((pdqS kf).map eSp))], k⟩) := fun k m => (callLoc_of (fp := [3]) rfl rfl rfl e3 (Nat.le_refl _)).trans rfl
    repeat (first
      | (apply axJ; (focus ((with_reducible constructor) <;> rfl)))
      | (apply awT mixedOK hΓ (by kernel_rfl); (simp (disch := omega) only [go_sem, ↓reduceIte, dk, ↓lk, Int.reduceBEq, Int.reduceBNe, Bool.true_bne, Bool.false_bne, Bool.not_true, Bool.not_false, e1, hcall, hcall2, List.length_map] <;> with_reducible rfl))
      | ((first | apply awR hΓ | apply awG | apply awH mixedOK hΓ rfl (by kernel_rfl) | apply ovE rfl); (simp (disch := omega) only [go_sem, ↓reduceIte, dk, ↓lk, Int.reduceBEq, Int.reduceBNe, Bool.true_bne, Bool.false_bne, Bool.not_true, Bool.not_false, e1, hcall, hcall2, List.length_map] <;> with_reducible rfl); exact trivial)
      | rfl)
    refine awp_weak ((Weak.freeze (o := 3) rfl).trans (show Weak _ _ _ ((frame 61 [(3, .nils), (12, .data (.list ((pdqS kf).map eSp))), (13, .data (i64 kf.length)), (14, .data (i64 ((0 : Nat) : Int)))])) ⟨[], 12⟩ from Weak.v (by (simp [ConvF, lookV, Conv, ints, upd, Heap.set, Heap.get, look, hpl]; done)) (by (simp (disch := omega) only [TabSub, look, if_pos, if_neg, Obj.refsOK, refsOKs, AV.refsOK, decide_eq_true_eq, Bool.and_true, Bool.and_self, upd, Heap.set, Heap.get, look, hpl] ) <;> ((repeat' apply And.intro) <;> first | exact True.intro | omega | (simp; done) | rfl)))) ?_
    refine awp_weak (Weak.nilrowF (i := 3) 33 (sz := 3) (by omega) (by omega) rfl) ?_
    rw [← hpl]
    generalize pdqS kf = L at *
    refine awp_loop_at (X := Option (List Sp × Sp) × Nat) (fun y => (frame 61 [(3, .row 12 (outM y.1).length), (12, .data (.list (L.map eSp))), (13, .data (i64 L.length)), (14, .data (i64 y.2))])) (fun y => [(12, .row 33 3 ((outM y.1).map eSp))]) 13
      (fun y => y.2 ≤ L.length ∧ mgL L = joinM y.1 (L.drop y.2) ∧ (outM y.1).length ≤ y.2) (fun y => L.length - y.2) (none, 0) ⟨Nat.zero_le _, rfl, Nat.le_refl _⟩ (Weak.v (by (simp [ConvF, lookV, Conv, ints, upd, outM]; done)) (by (simp (disch := omega) only [TabSub, look, if_pos, if_neg, Obj.refsOK, refsOKs, AV.refsOK, decide_eq_true_eq, Bool.and_true, Bool.and_self, upd, outM] ) <;> ((repeat' apply And.intro) <;> first | exact True.intro | omega | (simp; done) | rfl))) ?_
    rintro ⟨o, i⟩ ⟨hi, hpre, hol⟩
    (try dsimp only at hi hpre hol ⊢)
    by_cases hi2 : i < L.length
    case neg =>
      have hi3 : i = L.length := by omega
      subst hi3
      rw [List.drop_length, joinM_nil] at hpre
      rw [hpre]
      repeat (first
        | (apply axJ; (focus ((with_reducible constructor) <;> rfl)))
        | (apply awT mixedOK hΓ (by kernel_rfl); (simp (disch := omega) only [go_sem, ↓reduceIte, dk, ↓lk, Int.reduceBEq, Int.reduceBNe, Bool.true_bne, Bool.false_bne, Bool.not_true, Bool.not_false] <;> with_reducible rfl))
        | ((first | apply awR hΓ | apply awG | apply awH mixedOK hΓ rfl (by kernel_rfl) | apply ovE rfl); (simp (disch := omega) only [go_sem, ↓reduceIte, dk, ↓lk, Int.reduceBEq, Int.reduceBNe, Bool.true_bne, Bool.false_bne, Bool.not_true, Bool.not_false] <;> with_reducible rfl); exact trivial)
        | rfl)
      try rfl
    have hdi := List.drop_eq_getElem_cons hi2
    rw [hdi, joinM_cons] at hpre
    generalize hy : L[i] = y at *
    obtain ⟨y1, y2, y3⟩ := y
    have hmy : ∀ o : List Sp, (o ++ [(y1, y2, y3)]).map eSp = o.map eSp ++ [.agg [.str y1, i64 y2, i64 y3]] := fun o => by rw [List.map_append]; rfl
    cases o with
    | none =>
      have hk : decide (((0 : Nat) : Int) - 1 ≥ 0) = false := rfl
      have hk2 : decide ((-1 : Int) ≥ 0) = false := rfl
      have ho : (outM none).length = 0 := rfl
      have ho2 : (outM none).map eSp = [] := rfl
      rw [ho, ho2]
      repeat (first
        | (apply axJ; (focus ((with_reducible constructor) <;> rfl)))
        | (apply awT mixedOK hΓ (by kernel_rfl); (simp (disch := omega) only [go_sem, ↓reduceIte, dk, ↓lk, Int.reduceBEq, Int.reduceBNe, Bool.true_bne, Bool.false_bne, Bool.not_true, Bool.not_false, hy, hk, hk2] <;> with_reducible rfl))
        | ((first | apply awR hΓ | apply awG | apply awH mixedOK hΓ rfl (by kernel_rfl) | apply ovE rfl); (simp (disch := omega) only [go_sem, ↓reduceIte, dk, ↓lk, Int.reduceBEq, Int.reduceBNe, Bool.true_bne, Bool.false_bne, Bool.not_true, Bool.not_false, hy, hk, hk2] <;> with_reducible rfl); exact trivial)
        | rfl)
      exact ⟨(some ([], (y1, y2, y3)), i + 1), ⟨by dsimp only; omega, hpre, by simp [outM]⟩, by dsimp only; omega, Weak.v (by (simp [ConvF, lookV, Conv, ints, outM]; done)) (by (simp (disch := omega) only [TabSub, look, if_pos, if_neg, Obj.refsOK, refsOKs, AV.refsOK, decide_eq_true_eq, Bool.and_true, Bool.and_self, outM] ) <;> ((repeat' apply And.intro) <;> first | exact True.intro | omega | (simp; done) | rfl))⟩
    | some q =>
      obtain ⟨pre, c1, c2, c3⟩ := q
      dsimp only at hpre
      have hO : outM (some (pre, (c1, c2, c3))) = pre ++ [(c1, c2, c3)] := rfl
      rw [hO] at hol ⊢
      have hOl : (pre ++ [(c1, c2, c3)]).length = pre.length + 1 := by simp
      have hOc : ∀ h, (pre ++ [(c1, c2, c3)])[pre.length]'h = (c1, c2, c3) := fun h => by simp
      have hset : ((pre ++ [(c1, c2, c3)]).map eSp).set pre.length (.agg [.str c1, i64 c2, i64 (max c3 y3)]) = (pre ++ [(c1, c2, max c3 y3)]).map eSp := by simp [eSp]
      have hk : decide ((pre.length : Int) ≥ 0) = true := decide_eq_true (by omega)
      have hkk : (((pre.length + 1 : Nat) : Int) - 1) = (pre.length : Int) := by omega
      have hkn : (pre.length : Int).toNat = pre.length := by omega
      generalize hOO : pre ++ [(c1, c2, c3)] = O at *
      rw [hOl] at hol ⊢
      cases ka : (c1 == y1)
      · rw [ka] at hpre
        simp only [Bool.false_and, Bool.false_eq_true, if_false] at hpre
        repeat (first
          | (apply axJ; (focus ((with_reducible constructor) <;> rfl)))
          | (apply awT mixedOK hΓ (by kernel_rfl); (simp (disch := omega) only [go_sem, ↓reduceIte, dk, ↓lk, Int.reduceBEq, Int.reduceBNe, Bool.true_bne, Bool.false_bne, Bool.not_true, Bool.not_false, hy, hk, hkk, hkn, hOl, hOc, ka] <;> with_reducible rfl))
          | ((first | apply awR hΓ | apply awG | apply awH mixedOK hΓ rfl (by kernel_rfl) | apply ovE rfl); (simp (disch := omega) only [go_sem, ↓reduceIte, dk, ↓lk, Int.reduceBEq, Int.reduceBNe, Bool.true_bne, Bool.false_bne, Bool.not_true, Bool.not_false, hy, hk, hkk, hkn, hOl, hOc, ka] <;> with_reducible rfl); exact trivial)
          | rfl)
        exact ⟨(some (O, (y1, y2, y3)), i + 1), ⟨by dsimp only; omega, hpre, by dsimp only; rw [outM_len]; dsimp only; omega⟩, by dsimp only; omega, by dsimp only [outM]; rw [hmy]; exact Weak.v (by (simp [ConvF, lookV, Conv, ints, List.length_append, hOl]; done)) (by (simp (disch := omega) only [TabSub, look, if_pos, if_neg, Obj.refsOK, refsOKs, AV.refsOK, decide_eq_true_eq, Bool.and_true, Bool.and_self, List.length_append, hOl] ) <;> ((repeat' apply And.intro) <;> first | exact True.intro | omega | (simp; done) | rfl))⟩
      cases kb : decide (c3 ≥ y2)
      · rw [ka, kb] at hpre
        simp only [Bool.and_false, Bool.false_eq_true, if_false] at hpre
        repeat (first
          | (apply axJ; (focus ((with_reducible constructor) <;> rfl)))
          | (apply awT mixedOK hΓ (by kernel_rfl); (simp (disch := omega) only [go_sem, ↓reduceIte, dk, ↓lk, Int.reduceBEq, Int.reduceBNe, Bool.true_bne, Bool.false_bne, Bool.not_true, Bool.not_false, hy, hk, hkk, hkn, hOl, hOc, ka, kb] <;> with_reducible rfl))
          | ((first | apply awR hΓ | apply awG | apply awH mixedOK hΓ rfl (by kernel_rfl) | apply ovE rfl); (simp (disch := omega) only [go_sem, ↓reduceIte, dk, ↓lk, Int.reduceBEq, Int.reduceBNe, Bool.true_bne, Bool.false_bne, Bool.not_true, Bool.not_false, hy, hk, hkk, hkn, hOl, hOc, ka, kb] <;> with_reducible rfl); exact trivial)
          | rfl)
        exact ⟨(some (O, (y1, y2, y3)), i + 1), ⟨by dsimp only; omega, hpre, by dsimp only; rw [outM_len]; dsimp only; omega⟩, by dsimp only; omega, by dsimp only [outM]; rw [hmy]; exact Weak.v (by (simp [ConvF, lookV, Conv, ints, List.length_append, hOl]; done)) (by (simp (disch := omega) only [TabSub, look, if_pos, if_neg, Obj.refsOK, refsOKs, AV.refsOK, decide_eq_true_eq, Bool.and_true, Bool.and_self, List.length_append, hOl] ) <;> ((repeat' apply And.intro) <;> first | exact True.intro | omega | (simp; done) | rfl))⟩
      · rw [ka, kb] at hpre
        simp only [Bool.and_self, if_true] at hpre
        (repeat (first | (apply axJ; (focus ((with_reducible constructor) <;> rfl))) | ((first | apply awR hΓ | apply awG | apply ovE rfl); (simp (disch := omega) only [go_sem, ↓reduceIte, dk, ↓lk, Int.reduceBEq, Int.reduceBNe, Bool.true_bne, Bool.false_bne, Bool.not_true, Bool.not_false, hy, hk, hkk, hkn, hOl, hOc, ka, kb] <;> with_reducible rfl); exact trivial) | rfl))
        (apply awp_regf mixedOK hΓ (by kernel_rfl); (simp (disch := omega) only [go_sem, ↓reduceIte, dk, ↓lk, Int.reduceBEq, Int.reduceBNe, Bool.true_bne, Bool.false_bne, Bool.not_true, Bool.not_false, hy, hk, hkk, hkn, hOl, hOc, ka, kb] <;> with_reducible rfl); (simp only [go_sem] <;> with_reducible rfl))
        (repeat (first | (apply axJ; (focus ((with_reducible constructor) <;> rfl))) | ((first | apply awR hΓ | apply awG | apply ovE rfl); (simp (disch := omega) only [go_sem, ↓reduceIte, dk, ↓lk, Int.reduceBEq, Int.reduceBNe, Bool.true_bne, Bool.false_bne, Bool.not_true, Bool.not_false, hy, hk, hkk, hkn, hOl, hOc, ka, kb] <;> with_reducible rfl); exact trivial) | rfl))
        (apply awp_regm (nst := false) (nst' := false) 12 mixedOK hΓ (by kernel_rfl); (simp (disch := omega) only [go_sem, ↓reduceIte, ↓lk, dk, hkn, hOl, hOc, hset, look_upd] <;> with_reducible rfl); (simp (disch := omega) only [go_sem, ↓reduceIte] <;> with_reducible rfl); (focus rfl); (focus rfl); (simp (disch := omega) only [go_sem, ↓reduceIte, ↓lk, dk, hkn, hOl, hOc, hset, look_upd] <;> with_reducible rfl); (focus (first | (simp (disch := omega) only [go_sem, ↓reduceIte, ↓lk, dk, hkn, hOl, hOc, hset, look_upd]; done) | (simp (disch := omega) only [go_sem, ↓reduceIte, ↓lk, dk, hkn, hOl, hOc, hset, look_upd]; omega))); (focus (dsimp only [List.take_succ_cons, List.take_zero]; (repeat (apply same2_cons; (focus (first | (left; decide) | (right; simp (disch := omega) only [go_sem, ↓reduceIte, ↓lk, dk, hkn, hOl, hOc, hset, look_upd]; done))); (simp (disch := omega) only [go_sem, ↓reduceIte, ↓lk, dk, hkn, hOl, hOc, hset, look_upd] <;> with_reducible rfl))); exact same2_nil)); (simp (disch := omega) only [go_sem, ↓reduceIte, ↓lk, dk, hkn, hOl, hOc, hset, look_upd] <;> with_reducible rfl))
        repeat (first
          | (apply axJ; (focus ((with_reducible constructor) <;> rfl)))
          | (apply awT mixedOK hΓ (by kernel_rfl); (simp (disch := omega) only [go_sem, ↓reduceIte, dk, ↓lk, Int.reduceBEq, Int.reduceBNe, Bool.true_bne, Bool.false_bne, Bool.not_true, Bool.not_false] <;> with_reducible rfl))
          | ((first | apply awR hΓ | apply awG | apply awH mixedOK hΓ rfl (by kernel_rfl) | apply ovE rfl); (simp (disch := omega) only [go_sem, ↓reduceIte, dk, ↓lk, Int.reduceBEq, Int.reduceBNe, Bool.true_bne, Bool.false_bne, Bool.not_true, Bool.not_false] <;> with_reducible rfl); exact trivial)
          | rfl)
        exact ⟨(some (pre, (c1, c2, max c3 y3)), i + 1), ⟨by dsimp only; omega, hpre, by dsimp only; rw [outM_len]; dsimp only; omega⟩, by dsimp only; omega, by dsimp only [outM]; exact Weak.v (by (simp [ConvF, lookV, Conv, ints, List.length_append]; done)) (by (simp (disch := omega) only [TabSub, look, if_pos, if_neg, Obj.refsOK, refsOKs, AV.refsOK, decide_eq_true_eq, Bool.and_true, Bool.and_self, List.length_append] ) <;> ((repeat' apply And.intro) <;> first | exact True.intro | omega | (simp; done) | rfl))⟩
end Go.Ab
namespace Go.Ab
open Go Go.RowKit Go.Proofs
set_option maxRecDepth 10000
set_option maxHeartbeats 16000000
end Go.Ab
namespace Go.Ab
open Go Go.RowKit
end Go.Ab
namespace Go.Ab
open Go Go.RowKit Go.Proofs
set_option maxRecDepth 10000
set_option maxHeartbeats 40000000
def eLR (p : (List Tk × List Sp) × Int) : D := .tup [.list (p.1.1.map eTk), .list (p.1.2.map eSp), i64 p.2]
def w0 (l : List Tk) : List Wd := l.map fun t => (t, [])
theorem lineG_eq (fs : List Fl) (us : List Mc) (l : List Tk) : lineG fs us l = if decide ((l.length : Int) > 256) then (([], []), 10) else if l.all (fun t => validB t.1 t.2) then (((loopG fs us 256 (w0 l) []).1.1.map (·.1), setG (loopG fs us 256 (w0 l) []).1.2), (loopG fs us 256 (w0 l) []).2) else (([], []), 1) := by
  unfold lineG printE w0
  split
  · rfl
  · split <;> rfl
end Go.Ab
