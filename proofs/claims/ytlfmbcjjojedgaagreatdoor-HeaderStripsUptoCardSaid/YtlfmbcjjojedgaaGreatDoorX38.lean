/-
  One text of the proof (own work): contracts of functions of the program, by the abstract machine.
-/
import Derived.Shelf.Sort.Plain
import Derived.Shelf.Slices.In.SortNone
import Derived.Shelf.Slices.CompactS
import Derived.Sort.OwnSorted
import Derived.Test.YtlfmbcjjojedgaaGreatDoorX26
import Derived.Test.YtlfmbcjjojedgaaGreatDoorX23
import Derived.Test.YtlfmbcjjojedgaaGreatDoorX37
import Derived.Test.YtlfmbcjjojedgaaGreatDoorX19
import Derived.Test.YtlfmbcjjojedgaaGreatDoorX36
import Derived.Test.YtlfmbcjjojedgaaGreatDoorX34
import Derived.Test.YtlfmbcjjojedgaaGreatDoorX35
import Derived.Test.YtlfmbcjjojedgaaGreatDoorX20
import Derived.Test.YtlfmbcjjojedgaaGreatDoorX22
set_option linter.unusedVariables false
set_option linter.unusedSimpArgs false
namespace Go.Ab
open Go Go.RowKit Go.Proofs Go.Shelf Go.Sort
set_option maxRecDepth 10000
set_option maxHeartbeats 4000000
theorem comp_lib (l : List Bs) : compB l = Lib.compact l := by
  have key : ∀ m, m ≤ l.length → (l.take m).foldl cpStep [] = Lib.compactUpTo l.toArray m ∧ (0 < m → (Lib.compactUpTo l.toArray m).getLast? = some l[m - 1]!) := by
    intro m
    induction m with
    | zero => intro _; exact ⟨rfl, fun h => absurd h (Nat.lt_irrefl _)⟩
    | succ m ih =>
      intro hm
      obtain ⟨h1, h2⟩ := ih (by omega)
      have hget : l[m]! = l[m] := getElem!_pos l m hm
      rw [List.take_add_one, List.getElem?_eq_getElem (by omega), List.foldl_append, h1, Lib.compactUpTo_succ]
      show cpStep _ l[m] = _ ∧ _
      have ha : l.toArray[m]! = l[m] := by rw [getElem!_pos _ m (by simp; omega)]; simp
      by_cases h0 : m = 0
      · subst h0
        rw [Lib.keeps_lt_one _ 0 (by omega), if_pos rfl, ha]
        refine ⟨?_, fun _ => ?_⟩
        · unfold cpStep
          rw [if_neg (by simp [Lib.compactUpTo])]
        · rw [List.getLast?_concat, hget]
      · have h3 := h2 (by omega)
        have hget2 : l[m - 1]! = l[m - 1] := getElem!_pos l (m - 1) (by omega)
        have ha2 : l.toArray[m - 1]! = l[m - 1] := by rw [getElem!_pos _ (m - 1) (by simp; omega)]; simp
        rw [hget2] at h3
        by_cases he : l[m] = l[m - 1]
        · rw [Lib.keeps_neg (by omega) (by rw [ha, ha2, he]), if_neg (by decide), List.append_nil]
          refine ⟨?_, fun _ => ?_⟩
          · unfold cpStep
            rw [h3, if_pos (by rw [he]; simp)]
          · rw [h3, show m + 1 - 1 = m from rfl, hget, he]
        · rw [Lib.keeps_pos (by rw [ha, ha2]; exact he), if_pos rfl, ha]
          refine ⟨?_, fun _ => ?_⟩
          · unfold cpStep
            rw [h3, if_neg (by simpa using fun e => he e.symm)]
          · rw [List.getLast?_concat, show m + 1 - 1 = m from rfl, hget]
  have := (key l.length (Nat.le_refl _)).1
  rw [List.take_length] at this
  exact this
def unS : D → Bs
  | .str s => s
  | _ => []
theorem unS_map (l : List Bs) : (l.map D.str).map unS = l := by
  rw [List.map_map]
  exact (List.map_congr_left fun _ _ => rfl).trans (List.map_id _)
theorem strs_scalar (l : List Bs) : (l.map D.str).all D.scalar = true := by
  rw [List.all_map]
  simp [D.scalar]
theorem strs_val (l : List Bs) : (l.map D.str).map D.val = l.map encStr := by
  rw [List.map_map]
  rfl
def strsD (l : List D) : Prop := ∃ ss : List Bs, l = ss.map .str ∧ ss.length ≤ 1000000000
theorem holds_soft {w : World} {g : Nat} {cur : Array Value} {e : TypeId} {fr : Nat × Nat} {ss : List Bs} (hb : w.heap[g]? = some (.cells cur e fr)) (hs : Soft fr cur.size) (hl : ss.length ≤ cur.size) (ht : cur.toList.take ss.length = ss.map encStr) : Holds encStr w g 0 ss.toArray := by
  intro j hj
  have hj' : j < ss.length := by simpa using hj
  refine ⟨?_, ?_⟩
  · have h1 : (cur.toList.take ss.length)[j]? = (ss.map encStr)[j]? := by rw [ht]
    rw [List.getElem?_take_of_lt hj'] at h1
    simp only [World.cell?, hb, Nat.zero_add]
    simp only [Option.isSome_none, Bool.false_eq_true, if_false]
    rw [← Array.getElem?_toList, h1]
    simp [hj']
  · have := hs j (by omega)
    obtain ⟨lo, hi⟩ := fr
    simp only [World.frozen?, hb, Nat.zero_add, Bool.and_eq_false_iff, decide_eq_false_iff_not]
    exact Classical.not_and_iff_not_or_not.1 this
theorem turn_put {w : World} {g n cap : Nat} {cur : Array Value} {e : TypeId} {fr : Nat × Nat} {ds ts : List Bs} {q : Nat} {os : Array Go.Obj} (hb : w.heap[g]? = some (.cells cur e fr)) (hs : Soft fr cur.size) (hl : ds.length ≤ cur.size) (hc : cap ≤ maxLen) (hz : cur.size = cap * 1) (hp : ts <+: ds) :
    RowTurn w (grow (putRow encStr (Sort.ahead w q) g 0 ds.toArray) os) e (.slice (some ⟨g, 0, none⟩) n cap) (.slice (some ⟨g, 0, none⟩) ts.length cap) (ts.map encStr) := by
  have hgr := grownBy_sorted (w := w) (g := g) (n := q) (os := os) ds.toArray
  refine ⟨?_, hgr.os, hgr.tape, hgr.output, hgr.size, fun b h => h, fun b h1 h2 => hgr.block b h1 (fun e => h2 e.symm)⟩
  rw [List.length_map]
  have hlen := hp.length_le
  have hsz : (putCells encStr 0 ds.toArray cur).size = cur.size := by simp [putCells]
  refine ⟨by simp, .inr ⟨g, cap, _, rfl, Nat.zero_le _, ⟨fr, heap_sorted _ hb, by rw [hsz]; exact hs⟩, by omega, hc, by rw [hsz]; exact hz, ?_⟩⟩
  have h1 := take_putCells cur ds hl
  obtain ⟨t, rfl⟩ := hp
  have h2 := congrArg (List.take ts.length) h1
  rw [List.take_take, Nat.min_eq_left hlen, List.map_append, List.take_left' (by simp)] at h2
  rw [Nat.mul_one]
  exact h2
theorem turn_refl (w : World) (e : TypeId) (v : Value) (hv : v = .slice none 0 0 ∨ ∃ a cap, v = .slice a 0 cap) (h : ownsM w 0 e 1 v 0 []) : RowTurn w w e v v [] := ⟨h, rfl, rfl, rfl, Nat.le_refl _, fun _ h => h, fun _ _ _ => rfl⟩
noncomputable def g_sortS := locSpec (fun l : List D => [.row 0 l.length]) (fun l => [.row 9 1 l]) strsD (fun l => (.junk, [.row 9 1 ((sortB (l.map unS)).map .str)]))
theorem f_sortS_ok : LocOK Tryz.prog 57 g_sortS := loc_row1 Tryz.func57 (by kernel_rfl) (by kernel_rfl)
  (fun l hl => by
    obtain ⟨ss, rfl, _⟩ := hl
    rw [unS_map]
    exact ⟨strs_scalar _, strs_scalar _, by simp [sortB]⟩)
  fun l hl w v hv => by
    obtain ⟨ss, rfl, hs⟩ := hl
    rw [unS_map, strs_val, List.length_map] at *
    rcases hv.2 with ⟨rfl, h0⟩ | ⟨g, cap, cur, rfl, _, ⟨fr, hb, hso⟩, hnc, hcm, hcz, ht⟩
    · have : ss = [] := List.eq_nil_of_length_eq_zero h0
      subst this
      refine (Any.slices_Sort_string_none lay190 none 0 w).mono ?_
      rintro e w' ⟨rfl, rfl⟩
      exact ⟨⟨_, rfl⟩, by rw [show sortB [] = [] from by simp [sortB]]; exact turn_refl _ _ _ (.inl rfl) hv⟩
    · rw [Nat.mul_one] at ht
      refine (Any.slices_Sort_string lay190 g 0 cap ss w (holds_soft hb hso (by omega) ht) (heap_lt hb) (by omega)).mono ?_
      rintro e w' ⟨rfl, n, os, rfl⟩
      have hls : (sortB ss).length = ss.length := by simp [sortB]
      have h := turn_put (w := w) (n := ss.length) (ds := sortB ss) (ts := sortB ss) (q := n) (os := os) hb hso (by omega) hcm hcz (List.prefix_refl _)
      rw [hls] at h
      exact ⟨⟨_, rfl⟩, h⟩
theorem g_sortS_eq {ss : List Bs} (h : ss.length ≤ 1000000000) : g_sortS [.row 0 ss.length] [.row 9 1 (ss.map .str)] = some (.junk, [.row 9 1 ((sortB ss).map .str)]) := by
  have := locSpec_eq (enc := fun l : List D => [AV.row 0 l.length]) (eno := fun l => [Obj.row 9 1 l]) (dom := strsD) (out := fun l => (AV.junk, [Obj.row 9 1 ((sortB (l.map unS)).map .str)])) (x := ss.map .str) ⟨ss, rfl, h⟩ (fun y _ hy => by
    simp only [List.cons.injEq, Obj.row.injEq, and_true, true_and] at hy
    rw [hy])
  rw [unS_map, List.length_map] at this
  exact this
noncomputable def g_compS := locSpec (fun l : List D => [.row 0 l.length]) (fun l => [.row 9 1 l]) strsD (fun l => (.row 1 ((compB (l.map unS)).map D.str).length, [.dead, .row 9 1 ((compB (l.map unS)).map .str)]))
theorem comp_len (l : List Bs) : (compB l).length ≤ l.length := by
  have key : ∀ (l acc : List Bs), (l.foldl cpStep acc).length ≤ acc.length + l.length := by
    intro l
    induction l with
    | nil => intro acc; exact Nat.le_refl _
    | cons x l ih =>
      intro acc
      rw [List.foldl_cons, List.length_cons]
      have := ih (cpStep acc x)
      have h2 : (cpStep acc x).length ≤ acc.length + 1 := by
        unfold cpStep
        split
        · omega
        · simp
      omega
  have := key l []
  rw [List.length_nil] at this
  unfold compB
  omega
theorem f_compS_ok : LocOK Tryz.prog 58 g_compS := loc_row1c Tryz.func58 (by kernel_rfl) (by kernel_rfl)
  (fun l hl => by
    obtain ⟨ss, rfl, _⟩ := hl
    rw [unS_map]
    exact ⟨strs_scalar _, strs_scalar _⟩)
  fun l hl w v hv => by
    obtain ⟨ss, rfl, hs⟩ := hl
    rw [unS_map, strs_val, List.length_map] at *
    have hcl := comp_len ss
    rcases hv.2 with ⟨rfl, h0⟩ | ⟨g, cap, cur, rfl, _, ⟨fr, hb, hso⟩, hnc, hcm, hcz, ht⟩
    · have : ss = [] := List.eq_nil_of_length_eq_zero h0
      subst this
      refine (Any.slices_Compact_string_empty lay194 none 0 w).mono ?_
      rintro e w' ⟨rfl, rfl⟩
      exact ⟨_, rfl, turn_refl _ _ _ (.inl rfl) hv⟩
    · rw [Nat.mul_one] at ht
      refine (Any.slices_Compact_string lay194 g 0 cap ss w (holds_soft hb hso (by omega) ht) (by omega) hnc).mono ?_
      rw [← comp_lib]
      rintro e w' ⟨rfl, n, rfl⟩
      have h := turn_put (w := w) (n := ss.length) (ds := compB ss ++ List.replicate (ss.length - (compB ss).length) []) (ts := compB ss) (q := n) (os := #[]) hb hso (by simp; omega) hcm hcz (List.prefix_append _ _)
      rw [grow_empty] at h
      exact ⟨_, rfl, h⟩
theorem g_compS_eq {ss : List Bs} (h : ss.length ≤ 1000000000) : g_compS [.row 0 ss.length] [.row 9 1 (ss.map .str)] = some (.row 1 (compB ss).length, [.dead, .row 9 1 ((compB ss).map .str)]) := by
  have := locSpec_eq (enc := fun l : List D => [AV.row 0 l.length]) (eno := fun l => [Obj.row 9 1 l]) (dom := strsD) (out := fun l => (AV.row 1 ((compB (l.map unS)).map D.str).length, [Obj.dead, Obj.row 9 1 ((compB (l.map unS)).map .str)])) (x := ss.map .str) ⟨ss, rfl, h⟩ (fun y _ hy => by
    simp only [List.cons.injEq, Obj.row.injEq, and_true, true_and] at hy
    rw [hy])
  rw [unS_map, List.length_map, List.length_map] at this
  exact this
end Go.Ab
namespace Go.Ab
open Go Go.RowKit Go.Proofs
set_option maxRecDepth 10000
set_option maxHeartbeats 16000000
theorem holdT_take {l : List Hd} {i : Nat} (hi : i < l.length) : holdT (l.take (i + 1)) = holdT (l.take i) ++ (if isK 1 l[i] then [l[i].text] else []) := by
  unfold holdT
  rw [List.take_add_one, List.getElem?_eq_getElem hi, List.filter_append, List.map_append]
  congr 1
  show ([l[i]].filter (isK 1)).map Hd.text = _
  rw [List.filter_cons]
  split <;> rfl
theorem holdT_len (l : List Hd) : (holdT l).length ≤ l.length := by
  unfold holdT
  rw [List.length_map]
  exact List.length_filter_le _ _
theorem call_sortS {ss : List Bs} (h : ss.length ≤ 1000000000) (k n : Nat) : callLoc k ⟨[(5, .row 9 1 (ss.map .str))], n⟩ g_sortS [.row 5 ss.length] = some (.junk, ⟨[(5, .row 9 1 ((sortB ss).map .str))], k⟩) :=
  (callLoc_of (fp := [5]) rfl rfl rfl (g_sortS_eq h) (by simp)).trans (by simp [ren, rens, backTo, putAll, upd, renO, Heap.get, look])
theorem call_compS {ss : List Bs} (h : ss.length ≤ 1000000000) (k n : Nat) (hk : ¬ k = 5) : callLoc k ⟨[(5, .row 9 1 (ss.map .str))], n⟩ g_compS [.row 5 ss.length] = some (.row k (compB ss).length, ⟨[(5, .dead), (k, .row 9 1 ((compB ss).map .str))], k + 1⟩) :=
  (callLoc_of (fp := [5]) rfl rfl rfl (g_compS_eq h) (by simp)).trans (by simp [ren, rens, backTo, putAll, upd, renO, Heap.get, look, hk])
theorem sortB_len (l : List Bs) : (sortB l).length = l.length := by simp [sortB]
noncomputable def g_holdP36 : List D → Option D := encSpec (fun x : (List Hd) => [.list (x.map eHd)]) (fun x : (List Hd) => x.length ≤ 1000000) (fun x : (List Hd) => .list ((holdP x).map .str))
theorem g_holdP36_eq {l : List Hd} (hd : l.length ≤ 1000000) : g_holdP36 [.list (l.map eHd)] = some (.list ((holdP l).map .str)) := encSpec_eq (x := l) hd fun y hy => by
    simp only [List.cons.injEq, and_true, true_and, D.str.injEq, D.int.injEq, D.list.injEq, D.bool.injEq, D.agg.injEq, D.clo.injEq, Int.natCast_inj, inj_ie, eHd_ie] at hy
    rw [hy]
theorem f_holdP36_ok : PureOK Tryz.prog 22 false g_holdP36 := by
  have hΓ := Γq f_sortS_ok (Γq f_compS_ok (Γn))
  refine pure_enc (n := 31) (rs := [.tmp 2]) Tryz.func22 (by kernel_rfl) rfl (by kernel_rfl) (by kernel_rfl) ?_
  rintro l hd
  (try dsimp only at hd ⊢)
  refine ⟨fun h => (by cases h), fun k hz0 => ?_⟩
  unfold holdP
  rw [start_frame (by simp)]; simp only [enumV, go_sem, emptyH]
  repeat (first
    | (apply axJ; (focus ((with_reducible constructor) <;> rfl)))
    | (apply awT mixedOK hΓ (by kernel_rfl); (simp (disch := omega) only [go_sem, ↓reduceIte, dk, ↓lk] <;> with_reducible rfl))
    | ((first | apply awR hΓ | apply awG | apply awH mixedOK hΓ rfl (by kernel_rfl) | apply ovE rfl); (simp (disch := omega) only [go_sem, ↓reduceIte, dk, ↓lk] <;> with_reducible rfl); exact trivial)
    | rfl)
  refine awp_weak (Weak.nilrowF (i := 3) 9 (sz := 1) (by omega) (by omega) rfl) ?_
  refine awp_loop_at (X := Nat) (fun i => (frame 31 [(3, .row 5 (holdT (l.take i)).length), (6, .data (.list (l.map eHd))), (7, .data (i64 l.length)), (8, .data (i64 i))])) (fun i => [(5, .row 9 1 ((holdT (l.take i)).map .str))]) 6
    (fun i => i ≤ l.length) (fun i => l.length - i) 0 (Nat.zero_le _) (Weak.v (by (simp [ConvF, lookV, Conv, ints, upd, List.take_zero, holdT, List.filter_nil]; done)) (by (simp (disch := omega) only [TabSub, look, if_pos, if_neg, Obj.refsOK, refsOKs, AV.refsOK, decide_eq_true_eq, Bool.and_true, Bool.and_self, upd, List.take_zero, holdT, List.filter_nil] ) <;> ((repeat' apply And.intro) <;> first | exact True.intro | omega | (simp; done) | rfl))) ?_
  intro i hi
  (try dsimp only at hi ⊢)
  by_cases hi2 : i < l.length
  · have hst := holdT_take hi2
    have hle := holdT_len (l.take i)
    rw [List.length_take] at hle
    generalize hy : l[i] = y at *
    have hk : (y.kind == 1) = isK 1 y := rfl
    generalize isK 1 y = c at *
    generalize holdT (l.take i) = acc at *
    cases c
    · rw [if_neg (by decide), List.append_nil] at hst
      repeat (first
        | (apply axJ; (focus ((with_reducible constructor) <;> rfl)))
        | (apply awT mixedOK hΓ (by kernel_rfl); (simp (disch := omega) only [go_sem, ↓reduceIte, dk, ↓lk, Int.reduceBEq, Int.reduceBNe, Bool.true_bne, Bool.false_bne, Bool.not_true, Bool.not_false, hy, hk, eHd_eq] <;> with_reducible rfl))
        | ((first | apply awR hΓ | apply awG | apply awH mixedOK hΓ rfl (by kernel_rfl) | apply ovE rfl); (simp (disch := omega) only [go_sem, ↓reduceIte, dk, ↓lk, Int.reduceBEq, Int.reduceBNe, Bool.true_bne, Bool.false_bne, Bool.not_true, Bool.not_false, hy, hk, eHd_eq] <;> with_reducible rfl); exact trivial)
        | rfl)
      exact ⟨i + 1, by omega, by omega, by rw [hst]; exact Weak.w⟩
    · rw [if_pos rfl] at hst
      have hm : (acc ++ [y.text]).map D.str = acc.map D.str ++ [.str y.text] := by rw [List.map_append]; rfl
      repeat (first
        | (apply axJ; (focus ((with_reducible constructor) <;> rfl)))
        | (apply awT mixedOK hΓ (by kernel_rfl); (simp (disch := omega) only [go_sem, ↓reduceIte, dk, ↓lk, Int.reduceBEq, Int.reduceBNe, Bool.true_bne, Bool.false_bne, Bool.not_true, Bool.not_false, hy, hk, eHd_eq] <;> with_reducible rfl))
        | ((first | apply awR hΓ | apply awG | apply awH mixedOK hΓ rfl (by kernel_rfl) | apply ovE rfl); (simp (disch := omega) only [go_sem, ↓reduceIte, dk, ↓lk, Int.reduceBEq, Int.reduceBNe, Bool.true_bne, Bool.false_bne, Bool.not_true, Bool.not_false, hy, hk, eHd_eq] <;> with_reducible rfl); exact trivial)
        | rfl)
      exact ⟨i + 1, by omega, by omega, by rw [hst]; exact Weak.v (by (simp [ConvF, lookV, Conv, ints, hm]; done)) (by (simp (disch := omega) only [TabSub, look, if_pos, if_neg, Obj.refsOK, refsOKs, AV.refsOK, decide_eq_true_eq, Bool.and_true, Bool.and_self, hm] ) <;> ((repeat' apply And.intro) <;> first | exact True.intro | omega | (simp; done) | rfl))⟩
  · have hi3 : i = l.length := by omega
    subst hi3
    rw [List.take_length]
    have hle := holdT_len l
    generalize holdT l = t at *
    have e1 := fun k n => call_sortS (ss := t) (by omega) k n
    have e2 := fun k n hk => call_compS (ss := sortB t) (by rw [sortB_len]; omega) k n hk
    have hsl := sortB_len t
    rw [hsl] at e2
    have hcl := comp_len (sortB t)
    repeat (first
      | (apply axJ; (focus ((with_reducible constructor) <;> rfl)))
      | (apply awT mixedOK hΓ (by kernel_rfl); (simp (disch := omega) only [go_sem, ↓reduceIte, dk, ↓lk, Int.reduceBEq, Int.reduceBNe, Bool.true_bne, Bool.false_bne, Bool.not_true, Bool.not_false, ↓e1, ↓e2] <;> with_reducible rfl))
      | ((first | apply awR hΓ | apply awG | apply awH mixedOK hΓ rfl (by kernel_rfl) | apply ovE rfl); (simp (disch := omega) only [go_sem, ↓reduceIte, dk, ↓lk, Int.reduceBEq, Int.reduceBNe, Bool.true_bne, Bool.false_bne, Bool.not_true, Bool.not_false, ↓e1, ↓e2] <;> with_reducible rfl); exact trivial)
      | rfl)
    rw [Nat.sub_zero, List.take_of_length_le (by simp)]
end Go.Ab
namespace Go.Ab
open Go Go.RowKit Go.Proofs
set_option maxRecDepth 100000
set_option maxHeartbeats 16000000
abbrev wkT : Bs := [110, 111, 116, 101, 32, 50, 10, 32, 32, 47, 47, 32, 76, 105, 99, 101, 110, 115, 101, 58, 32, 97, 108, 100, 101, 114, 32, 111, 114, 32, 98, 105, 114, 99, 104, 32, 42, 47, 10, 67, 111, 112, 121, 114, 105, 103, 104, 116, 58, 32, 32, 32, 65, 100, 97, 10, 76, 105, 99, 101, 110, 115, 101, 58]
abbrev wkL : List Hd := [⟨0, 1, [97, 108, 100, 101, 114, 32, 111, 114, 32, 98, 105, 114, 99, 104]⟩, ⟨1, 2, [65, 100, 97]⟩]
theorem wk_scan : scanB wkT = wkL := by kernel_rfl
theorem wk_decl : (declGo [] wkL).2 = (0, 0) := by kernel_rfl
theorem wk_fmt : fmtX (declGo [] wkL).1 = ([97, 108, 100, 101, 114, 32, 111, 114, 32, 98, 105, 114, 99, 104], 0) := by kernel_rfl
theorem wk_bd : (declGo [] wkL).1.Bd 1099511627776 := decl_inv _ _ (fun _ h => by cases h) (by decide)
theorem wk_w : writeB 0 [97, 108, 100, 101, 114] = ([35, 32, 76, 105, 99, 101, 110, 115, 101, 58, 32, 97, 108, 100, 101, 114], 0) := by kernel_rfl
theorem wk_p : putB [97, 10, 76, 105, 99, 101, 110, 115, 101, 58, 32, 120, 10, 98] 0 [121] = ([35, 32, 76, 105, 99, 101, 110, 115, 101, 58, 32, 121, 10, 97, 10, 98], 0) := by kernel_rfl
theorem wk_h : holdT wkL = [[65, 100, 97]] := by kernel_rfl
theorem wk_hp : holdP wkL = [[65, 100, 97]] := by
  obtain ⟨h1, h2⟩ := holdP_ok wkL
  rw [wk_h] at h2
  exact strict_eq _ _ h1 (List.pairwise_singleton _ _) h2
theorem wk_s : stripB [97, 10, 59, 32, 67, 111, 112, 121, 114, 105, 103, 104, 116, 58, 32, 120, 10] = [97, 10] := by kernel_rfl
noncomputable def g_wk36 : List D → Option D := encSpec (fun _ : Unit => []) (fun _ => True) (fun _ => .bool true)
theorem g_wk36_eq : g_wk36 [] = some (.bool true) := encSpec_eq (x := ()) trivial fun _ _ => rfl
theorem f_wk36_ok : PureOK Tryz.prog 11 true g_wk36 := by
  have hΓ := (Γo f_scan_ok (Γp f_declP_ok (Γp f_writeP_ok (Γp f_putP_ok (Γp f_fmtP_ok (Γp f_equalH_ok (Γp f_holdP36_ok (Γp f_equalS_ok (Γp f_stripP_ok (Γn))))))))))
  refine pure_enc (n := 72) (rs := [.tmp 0]) Tryz.func11 (by kernel_rfl) rfl (by kernel_rfl) (by kernel_rfl) ?_
  rintro _ _
  refine ⟨fun _ => .bool _, fun k hz0 => ?_⟩
  have p1 := g_scan_eq (s := wkT) (by decide)
  rw [wk_scan] at p1
  have p2 := g_declP_eq (l := wkL) ⟨by decide, by decide⟩
  have p3 := g_fmtP_eq wk_bd
  rw [wk_fmt] at p3
  rw [show declGo [] wkL = ((declGo [] wkL).1, 0, 0) from Prod.ext rfl wk_decl] at p2
  generalize (declGo [] wkL).1 = X at *
  have p4 := g_writeP_eq (m := 0) (s := [97, 108, 100, 101, 114]) (by decide)
  rw [wk_w] at p4
  have p5 := g_putP_eq (s := [97, 10, 76, 105, 99, 101, 110, 115, 101, 58, 32, 120, 10, 98]) (m := 0) (u := [121]) ⟨by decide, by decide⟩
  rw [wk_p] at p5
  have p6 := g_equalH_eq (a := wkL) (b := wkL) ⟨by decide, by decide⟩
  rw [decide_eq_true rfl] at p6
  have p7 := g_holdP36_eq (l := wkL) (by decide)
  rw [wk_hp] at p7
  have p8 := g_equalS_eq (a := [[65, 100, 97]]) (b := [[65, 100, 97]]) ⟨by decide, by decide⟩
  rw [BEq.rfl] at p8
  have p9 := g_stripP_eq (s := [97, 10, 59, 32, 67, 111, 112, 121, 114, 105, 103, 104, 116, 58, 32, 120, 10]) (by decide)
  rw [wk_s] at p9
  simp only [eHd_eq, ePr, eFmt, eX_eq, List.map_cons, List.map_nil] at p1 p2 p3 p4 p5 p6 p7 p8 p9
  rw [start_frame (by simp)]; simp only [enumV, go_sem, emptyH]
  repeat (first
    | (apply axJ; (focus ((with_reducible constructor) <;> rfl)))
    | (apply awT mixedOK hΓ (by kernel_rfl); (simp (disch := omega) only [go_sem, ↓reduceIte, dk, ↓lk, Int.reduceBEq, Int.reduceBNe, Bool.true_bne, Bool.false_bne, Bool.not_true, Bool.not_false, Int.reduceToNat, List.getElem?_cons_zero, List.getElem?_cons_succ, BEq.rfl, ↓ty_build26, p1, p2, p3, p4, p5] <;> with_reducible rfl))
    | ((first | apply awR hΓ | apply awG | apply awH mixedOK hΓ rfl (by kernel_rfl) | apply ovE rfl); (simp (disch := omega) only [go_sem, ↓reduceIte, dk, ↓lk, Int.reduceBEq, Int.reduceBNe, Bool.true_bne, Bool.false_bne, Bool.not_true, Bool.not_false, Int.reduceToNat, List.getElem?_cons_zero, List.getElem?_cons_succ, BEq.rfl, ↓ty_build26, p1, p2, p3, p4, p5] <;> with_reducible rfl); exact trivial)
    | rfl)
  refine awp_weak (show Weak _ _ _ ((frame 72 [(1, .data (.list [.agg [.int .i64 0, .int .i64 1, .str [97, 108, 100, 101, 114, 32, 111, 114, 32, 98, 105, 114, 99, 104]], .agg [.int .i64 1, .int .i64 2, .str [65, 100, 97]]])), (3, .data (.int .i64 0)), (4, .data (.int .i64 0)), (5, .data (.str [35, 32, 76, 105, 99, 101, 110, 115, 101, 58, 32, 97, 108, 100, 101, 114])), (6, .data (.int .i64 0)), (7, .data (.str [35, 32, 76, 105, 99, 101, 110, 115, 101, 58, 32, 121, 10, 97, 10, 98])), (8, .data (.int .i64 0)), (9, .data (.str [97, 108, 100, 101, 114, 32, 111, 114, 32, 98, 105, 114, 99, 104])), (10, .data (.int .i64 0))])) ⟨[], 32⟩ from Weak.v (by (simp [ConvF, lookV, Conv, ints, Heap.get, look]; done)) (by (simp (disch := omega) only [TabSub, look, if_pos, if_neg, Obj.refsOK, refsOKs, AV.refsOK, decide_eq_true_eq, Bool.and_true, Bool.and_self, Heap.get, look] ) <;> ((repeat' apply And.intro) <;> first | exact True.intro | omega | (simp; done) | rfl))) ?_
  apply awR hΓ
  · simp (maxSteps := 4000000) (disch := omega) only [go_sem, ↓reduceIte, dk, ↓lk, Int.reduceBEq, Int.reduceBNe, Bool.true_bne, Bool.false_bne, Bool.not_true, Bool.not_false, Int.reduceToNat, Int.reduceAdd, List.getElem?_cons_zero, List.getElem?_cons_succ, BEq.rfl, List.append_eq, List.cons_append, List.nil_append, ↓ty_build26, p1, p2, p3, p4, p5, p6, p7, p8, p9]
    with_reducible rfl
  exact trivial
  repeat (first
    | (apply axJ; (focus ((with_reducible constructor) <;> rfl)))
    | (apply awT mixedOK hΓ (by kernel_rfl); (simp (disch := omega) only [go_sem, ↓reduceIte, dk] <;> with_reducible rfl))
    | ((first | apply awR hΓ | apply awG | apply awH mixedOK hΓ rfl (by kernel_rfl) | apply ovE rfl); (simp (disch := omega) only [go_sem, ↓reduceIte, dk] <;> with_reducible rfl); exact trivial)
    | rfl)
  try rfl
end Go.Ab
namespace Go.Ab
open Go Go.RowKit Go.Proofs
set_option maxRecDepth 10000
set_option maxHeartbeats 16000000
end Go.Ab
namespace Go.Ab
open Go Go.RowKit Go.Proofs
set_option maxRecDepth 10000
set_option maxHeartbeats 16000000
theorem scanB_len (s : Bs) : (scanB s).length ≤ s.length + 1 := Nat.le_trans (scanGo_len _ _) (splitB_len 10 s)
end Go.Ab
namespace Go.Ab
open Go Go.RowKit Go.Proofs
set_option maxRecDepth 10000
set_option maxHeartbeats 4000000
end Go.Ab
namespace Go.Ab
open Go Go.RowKit
end Go.Ab
namespace Go.Ab
open Go Go.RowKit Go.Proofs
set_option maxRecDepth 10000
set_option maxHeartbeats 8000000
structure Gp where
  name : Bs
  words : List Bs
def eGp (g : Gp) : D := .agg [.str g.name, .list (g.words.map .str)]
end Go.Ab
namespace Go.Ab
open Go Go.RowKit Go.Proofs
set_option maxRecDepth 10000
set_option maxHeartbeats 8000000
@[go_sem] theorem elemsOK_gp (l : List Gp) : elemsOK 2 (l.map eGp) = true := elemsOK_map (f := eGp) (fun _ => ⟨by rfl, by rfl⟩) l
@[go_sem] theorem eGp_eq (g : Gp) : eGp g = .agg [.str g.name, .list (g.words.map .str)] := rfl
end Go.Ab
namespace Go.Ab
open Go Go.RowKit Go.Proofs
set_option maxRecDepth 10000
set_option maxHeartbeats 8000000
structure Stp where
  line : Int
  kind : Int
  inn : List Bs
  usg : List Bs
  wds : List Bs
  out : Bs
def eSt (x : Stp) : D := .agg [i64 x.line, i64 x.kind, .list (x.inn.map .str), .list (x.usg.map .str), .list (x.wds.map .str), .str x.out]
@[go_sem] theorem eSt_eq (x : Stp) : eSt x = .agg [.int .i64 x.line, .int .i64 x.kind, .list (x.inn.map .str), .list (x.usg.map .str), .list (x.wds.map .str), .str x.out] := rfl
@[go_sem] theorem elemsOK_st (l : List Stp) : elemsOK 6 (l.map eSt) = true := elemsOK_map (f := eSt) (fun _ => ⟨by rfl, by rfl⟩) l
structure StOK (x : Stp) : Prop where
  i : x.inn.length ≤ 1099511627776 ∧ ∀ w ∈ x.inn, w.length ≤ 1099511627776
  u : x.usg.length ≤ 1099511627776 ∧ ∀ w ∈ x.usg, w.length ≤ 1099511627776
  w : x.wds.length ≤ 1099511627776 ∧ ∀ w ∈ x.wds, w.length ≤ 1099511627776
  o : x.out.length ≤ 1099511627776
end Go.Ab
namespace Go.Ab
open Go Go.RowKit Go.Proofs
set_option maxRecDepth 10000
set_option maxHeartbeats 16000000
end Go.Ab
namespace Go.Ab
open Go Go.RowKit Go.Proofs
set_option maxRecDepth 10000
set_option maxHeartbeats 16000000
end Go.Ab
namespace Go.Ab
open Go Go.RowKit Go.Proofs
set_option maxRecDepth 10000
set_option maxHeartbeats 8000000
def WL (l : List Bs) : Prop := l.length ≤ 1099511627776 ∧ ∀ w ∈ l, w.length ≤ 1099511627776
end Go.Ab
namespace Go.Ab
open Go Go.RowKit Go.Proofs
set_option maxRecDepth 10000
set_option maxHeartbeats 8000000
end Go.Ab
namespace Go.Ab
open Go Go.RowKit Go.Proofs
set_option maxRecDepth 10000
set_option maxHeartbeats 16000000
def listS : List Bs → Bs
  | [] => []
  | w :: r => [32] ++ w ++ listS r
theorem listS_len : ∀ l : List Bs, l.length ≤ (listS l).length
  | [] => Nat.le_refl _
  | w :: r => by
    have := listS_len r
    rw [listS]
    simp only [List.length_append, List.length_cons, List.length_nil]
    omega
structure TX (x : Stp) : Prop where
  i : (listS x.inn).length ≤ 1000000000
  u : (listS x.usg).length ≤ 1000000000
  w : (listS x.wds).length ≤ 1000000000
  o : x.out.length ≤ 1000000000
end Go.Ab
namespace Go.Ab
open Go Go.RowKit Go.Proofs
set_option maxRecDepth 10000
set_option maxHeartbeats 8000000
end Go.Ab
namespace Go.Ab
open Go Go.RowKit Go.Proofs
set_option maxRecDepth 10000
set_option maxHeartbeats 8000000
structure PX (x : Stp) : Prop where
  i : (listS x.inn).length ≤ 100000
  u : (listS x.usg).length ≤ 100000
  w : (listS x.wds).length ≤ 100000
  o : x.out.length ≤ 100000
theorem listS_mem : ∀ {l : List Bs} {w : Bs}, w ∈ l → w.length ≤ (listS l).length
  | v :: r, w, h => by
    rw [listS]
    simp only [List.length_append]
    rcases List.mem_cons.1 h with rfl | h
    · omega
    · have := listS_mem h; omega
theorem PX.tx {x : Stp} (h : PX x) : TX x := ⟨Nat.le_trans h.i (by decide), Nat.le_trans h.u (by decide), Nat.le_trans h.w (by decide), Nat.le_trans h.o (by decide)⟩
theorem wl_of {l : List Bs} {n : Nat} (h : (listS l).length ≤ n) (hn : n ≤ 1099511627776) : WL l := ⟨Nat.le_trans (Nat.le_trans (listS_len l) h) hn, fun w hw => Nat.le_trans (Nat.le_trans (listS_mem hw) h) hn⟩
theorem PX.ok {x : Stp} (h : PX x) : StOK x := ⟨wl_of h.i (by decide), wl_of h.u (by decide), wl_of h.w (by decide), Nat.le_trans h.o (by decide)⟩
end Go.Ab
namespace Go.Ab
open Go Go.RowKit Go.Proofs
set_option maxRecDepth 10000
set_option maxHeartbeats 8000000
end Go.Ab
namespace Go.Ab
open Go Go.RowKit Go.Proofs
set_option maxRecDepth 10000
set_option maxHeartbeats 8000000
end Go.Ab
namespace Go.Ab
open Go Go.RowKit Go.Proofs
set_option maxRecDepth 10000
set_option maxHeartbeats 8000000
end Go.Ab
namespace Go.Ab
open Go Go.RowKit Go.Proofs
set_option maxRecDepth 10000
set_option maxHeartbeats 16000000
structure Pt where
  sep : Bs
  least : Int
  many : Bool
def ePt (p : Pt) : D := .agg [.str p.sep, i64 p.least, .bool p.many]
@[go_sem] theorem ePt_eq (p : Pt) : ePt p = .agg [.str p.sep, .int .i64 p.least, .bool p.many] := rfl
@[go_sem] theorem elemsOK_pt (l : List Pt) : elemsOK 3 (l.map ePt) = true := elemsOK_map (f := ePt) (fun _ => ⟨by rfl, by rfl⟩) l
end Go.Ab
namespace Go.Ab
open Go Go.RowKit Go.Proofs
set_option maxRecDepth 10000
set_option maxHeartbeats 8000000
def eRow (l : List Pt) : D := .list (l.map ePt)
@[go_sem] theorem eRow_eq (l : List Pt) : eRow l = .list (l.map ePt) := rfl
@[go_sem] theorem elemsOK_row (l : List (List Pt)) : elemsOK 1 (l.map eRow) = true := elemsOK_map (f := eRow) (fun _ => ⟨by rfl, by rfl⟩) l
end Go.Ab
namespace Go.Ab
open Go Go.RowKit Go.Proofs
set_option maxRecDepth 10000
set_option maxHeartbeats 8000000
end Go.Ab
namespace Go.Ab
open Go Go.RowKit Go.Proofs
set_option maxRecDepth 10000
set_option maxHeartbeats 8000000
theorem idx_split (c : UInt8) : ∀ s : Bs, (Lib.indexByte s c = -1 ∧ splitB c s = [s]) ∨ ∃ k : Nat, Lib.indexByte s c = (k : Int) ∧ k < s.length ∧ splitB c s = s.take k :: splitB c (s.drop (k + 1))
  | [] => .inl ⟨rfl, rfl⟩
  | b :: l => by
    rw [Lib.indexByte, splitB]
    by_cases hb : (b == c) = true
    · rw [if_pos hb, if_pos hb]
      exact .inr ⟨0, rfl, by simp, rfl⟩
    · rw [if_neg hb, if_neg hb]
      rcases idx_split c l with ⟨h1, h2⟩ | ⟨k, h1, h2, h3⟩
      · rw [h1, h2]
        exact .inl ⟨rfl, rfl⟩
      · rw [h1, h3]
        have hk : ((k : Int) == -1) = false := by rw [beq_eq_false_iff_ne]; omega
        rw [hk]
        exact .inr ⟨k + 1, rfl, by simp; omega, rfl⟩
theorem split_count (c : UInt8) : ∀ s : Bs, (splitB c s).length = s.count c + 1
  | [] => rfl
  | b :: l => by
    have ih := split_count c l
    rw [splitB, List.count_cons]
    split
    · rw [List.length_cons, ih]
    · rw [cons1_len (splitB_ne c l), ih]
end Go.Ab
namespace Go.Ab
open Go Go.RowKit
section
variable {P : Program} {f : FuncId} {fn : Func} {e : TypeId} {dom : List D × Nat × Nat → Prop} {out : List D × Nat × Nat → List D}
theorem row1_arg3 {c : Ctx} {l : List D} {i j : Int} {θ : Nat → Value} {w : World} {vs : Array Value} (hsc : l.all D.scalar = true) (hsim : HSim c ⟨enumO 0 [.row e 1 l], 1⟩ θ w) (hvs : vs.size = 3)
    (hv : ∀ k (hk : k < [AV.row 0 l.length, .data (.int .i64 i), .data (.int .i64 j)].length) u, vs[k]? = some u → VR ⟨enumO 0 [.row e 1 l], 1⟩ θ w (vis c ⟨enumO 0 [.row e 1 l], 1⟩ θ w) ([AV.row 0 l.length, .data (.int .i64 i), .data (.int .i64 j)][k]) u) :
    vs = #[θ 0, .int .i64 i, .int .i64 j] ∧ ownsM w 0 e 1 (θ 0) l.length (l.map D.val) ∧ (∀ b, blk (θ 0) = some b → c.n0 ≤ b ∨ c.Init b) := by
  obtain ⟨h1, h2, h3⟩ := row1_arg (vs := #[vs[0]'(by omega)]) hsc hsim rfl fun k hk u hu => by
    match k, hk with
    | 0, _ =>
      simp only [List.getElem?_toArray, List.getElem?_cons_zero, Option.some.injEq] at hu
      subst hu
      exact hv 0 (by simp) _ (Array.getElem?_eq_getElem _)
  have h0 : vs[0]'(by omega) = θ 0 := by
    have := congrArg (fun a : Array Value => a[0]?) h1
    simpa using this
  have k1 : vs[1]'(by omega) = .int .i64 i := by
    have := hv 1 (by simp) (vs[1]'(by omega)) (Array.getElem?_eq_getElem _)
    cases this with
    | data d v h => exact scalar_val rfl h
  have k2 : vs[2]'(by omega) = .int .i64 j := by
    have := hv 2 (by simp) (vs[2]'(by omega)) (Array.getElem?_eq_getElem _)
    cases this with
    | data d v h => exact scalar_val rfl h
  refine ⟨Array.ext hvs fun n i1 i2 => ?_, h2, h3⟩
  match n, i2 with
  | 0, _ => exact h0
  | 1, _ => exact k1
  | 2, _ => exact k2
theorem loc_row1d (hf : P.funcs[f]? = some fn) (hname : (fn.name == "runtime.NumGoroutine") = false) (hb : fn.body.isNone = false)
    (hd : ∀ y, dom y → y.1.all D.scalar = true ∧ (out y).all D.scalar = true)
    (h : ∀ y, dom y → ∀ (w : World) (v : Value), ownsM w 0 e 1 v y.1.length (y.1.map D.val) → Calls P f #[v, .int .i64 (y.2.1 : Int), .int .i64 (y.2.2 : Int)] w fun ex w' => ∃ v', ex = .returned v' ∧ RowTurn w w' e v v' ((out y).map D.val)) :
    LocOK P f (locSpec (fun y => [.row 0 y.1.length, .data (.int .i64 (y.2.1 : Int)), .data (.int .i64 (y.2.2 : Int))]) (fun y => [.row e 1 y.1]) dom (fun y => (.row 1 (out y).length, [.dead, .row e 1 (out y)]))) := by
  intro xs os r os' hg _ c θ w vs hbase hsim hvs hvals
  unfold locSpec at hg
  split at hg
  · rename_i hh
    obtain ⟨h1, h2, h3⟩ := hh.choose_spec
    generalize hh.choose = y at h1 h2 h3 hg
    simp only [Option.some.injEq, Prod.mk.injEq] at hg
    obtain ⟨rfl, rfl⟩ := hg
    subst h1 h2
    obtain ⟨s1, s2⟩ := hd y h3
    obtain ⟨e1, e2, e3⟩ := row1_arg3 s1 hsim hvs hvals
    rw [e1]
    refine ⟨⟨fn, hf, hname, hb⟩, (h y h3 w (θ 0) e2).mono ?_⟩
    rintro ex w' ⟨v', rfl, ht⟩
    obtain ⟨o1, o2⟩ := scalar_one s2
    have hown := ht.own
    rw [List.length_map] at hown
    generalize out y = ol at *
    obtain ⟨l, i, j⟩ := y
    dsimp only at *
    have hnr : ¬ (⟨enumO 0 [.row e 1 l], 1⟩ : Heap).ref 1 := by
      rintro (h | h)
      · exact absurd h (Nat.lt_irrefl _)
      · rw [get_enumO] at h
        simp at h
    obtain ⟨q1, _, q3⟩ := hsim.shift (w' := w') (o := 0) (k := 1) (x0 := .row e 1 l) (x := .row e 1 ol) (val := v') hnr rfl rfl ht.block ht.size ht.blk' fun hvr => by
      refine ⟨by decide, o1, by rw [flat_scalar s2]; exact o2, ol.map D.val, hown, fun b hb2 => e3 b (ht.blk' b hb2), fun i hi u hu => ?_⟩
      rw [flat_scalar s2] at hi
      simp only [flat_scalar s2]
      rw [List.getElem?_map, List.getElem?_eq_getElem hi] at hu
      simp only [Option.map_some, Option.some.injEq] at hu
      subst hu
      exact scalar_reads (List.all_eq_true.1 s2 _ (List.getElem_mem hi))
    replace q1 : HSim c ⟨enumO 0 [.dead, .row e 1 ol], 1⟩ (updθ θ 1 v') w' := q1
    replace q3 : HLe ⟨enumO 0 [.row e 1 l], 1⟩ θ ⟨enumO 0 [.dead, .row e 1 ol], 1⟩ (updθ θ 1 v') := q3
    have hsl : ∃ ao cap, v' = .slice ao ol.length cap := by
      rcases hown.2 with ⟨h1, h2⟩ | ⟨g, cap, cur, h1, _⟩
      · exact ⟨none, 0, by rw [h1, h2]⟩
      · exact ⟨_, _, h1⟩
    refine ⟨v', rfl, updθ θ 1 v', q1.bump (n := 2) (Nat.le_succ 1), ?_, ⟨ht.os, ht.tape, ht.output, ht.size, fun b b1 b2 => ht.block b (Nat.lt_of_lt_of_le b1 hsim.size) fun hbl => ?_⟩, ?_⟩
    · refine .row 1 _ _ (by obtain ⟨ao, cap, rfl⟩ := hsl; cases ao <;> rfl) (.inl (Nat.lt_succ_self 1)) fun x m hx hm => ?_
      rw [get_enumO] at hx
      simp only [List.getElem?_cons_succ, List.getElem?_cons_zero, Option.some.injEq] at hx
      subst hx
      simp only [Obj.rlen, Option.some.injEq] at hm
      subst hm
      exact ⟨Nat.le_refl _, fun _ => by simp [updθ]⟩
    · rcases e3 b hbl with h4 | h4
      · omega
      · exact b2 h4
    · intro o x' ho hx
      exact q3.evo (Nat.le_refl 1) o x' ho hx
  · cases hg
end
end Go.Ab
