/-
  One text of the proof (own work): contracts of functions of the program, by the abstract machine.
-/
import Derived.WalkKit
import Derived.Maps.AppendAt
import Derived.Laws.OwnMore
import Derived.Laws.IdiomCopy
import Derived.Laws.IdiomStrings
set_option linter.unusedVariables false
set_option linter.unusedSimpArgs false
namespace Go.Ab
open Go Go.RowKit
inductive D where
  | bool (b : Bool)
  | int (k : IntKind) (n : Int)
  | str (s : List UInt8)
  | list (l : List D)
  | nilp
  | ref (cs : List D)
  | agg (cs : List D)
  | clo (f : FuncId) (caps : List D)
  | tup (ds : List D)
  | map (ks vs : List D)
  | set (ss : List (List UInt8))
  deriving Inhabited
def D.cells : D → List D
  | .agg cs => cs
  | d => [d]
def D.one : D → Bool
  | .agg _ => false
  | .tup _ => false
  | _ => true
def flat (l : List D) : List D := l.flatMap D.cells
theorem flat_cons (d : D) (l : List D) : flat (d :: l) = d.cells ++ flat l := rfl
theorem flat_append (l r : List D) : flat (l ++ r) = flat l ++ flat r := by simp [flat]
theorem flat_length {l : List D} {sz : Nat} (h : ∀ d ∈ l, d.cells.length = sz) : (flat l).length = l.length * sz := by
  induction l with
  | nil => simp [flat]
  | cons d l ih =>
    rw [flat_cons, List.length_append, h d (by simp), ih (fun x hx => h x (by simp [hx])), List.length_cons, Nat.succ_mul, Nat.add_comm]
theorem flat_get {l : List D} {sz : Nat} (h : ∀ d ∈ l, d.cells.length = sz) {i j : Nat} {d : D} (hd : l[i]? = some d) (hj : j < sz) :
    (flat l)[i * sz + j]? = d.cells[j]? := by
  induction l generalizing i with
  | nil => simp at hd
  | cons x l ih =>
    rw [flat_cons]
    have hx := h x (by simp)
    cases i with
    | zero =>
      simp at hd
      subst hd
      rw [Nat.zero_mul, Nat.zero_add, List.getElem?_append_left (by omega)]
    | succ i =>
      simp at hd
      rw [List.getElem?_append_right (by rw [hx, Nat.succ_mul]; omega), hx, show (i + 1) * sz + j - sz = i * sz + j from by rw [Nat.succ_mul]; omega]
      exact ih (fun y hy => h y (by simp [hy])) hd
def Born (es : Array MapEntry) (clock : Nat) : Prop := (∀ x ∈ es.toList, x.born < clock) ∧ (es.toList.map (·.born)).Nodup
def SetObj (ss : List (List UInt8)) (es : Array MapEntry) : Prop := (es.toList.map (·.key)).Nodup ∧ es.size ≤ ss.length ∧
  (∀ e ∈ es.toList, ∃ s ∈ ss, e.key = .string ⟨s.toArray⟩ ∧ e.val = .bool true) ∧ ∀ s ∈ ss, ∃ e ∈ es.toList, e.key = .string ⟨s.toArray⟩
inductive DR (w : World) (B : Nat → Prop) : D → Value → Prop where
  | bool (b : Bool) : DR w B (.bool b) (.bool b)
  | int (k : IntKind) (n : Int) : DR w B (.int k n) (.int k n)
  | str (s : List UInt8) : DR w B (.str s) (.string ⟨s.toArray⟩)
  | nilp : DR w B .nilp (.pointer none)
  | empty (ao : Option Addr) (cap : Nat) : DR w B (.list []) (.slice ao 0 cap)
  | list (l : List D) (a : Addr) (cap sz : Nat) (u : Nat → Value) (hb : B a.block) (hc : l.length ≤ cap) (hs : ∀ d ∈ l, d.cells.length = sz)
      (ho : ∀ d ∈ flat l, d.one = true) (hm : ∀ i, i < (flat l).length → w.cell? (a.add i) = some (u i))
      (h : ∀ i (hi : i < (flat l).length), DR w B ((flat l)[i]) (u i)) : DR w B (.list l) (.slice (some a) l.length cap)
  | ref (cs : List D) (a : Addr) (u : Nat → Value) (hb : B a.block) (ho : ∀ d ∈ cs, d.one = true) (hm : ∀ i, i < cs.length → w.cell? (a.add i) = some (u i))
      (h : ∀ i (hi : i < cs.length), DR w B (cs[i]) (u i)) : DR w B (.ref cs) (.pointer (some a))
  | agg (cs : List D) (vs : Array Value) (u : Nat → Value) (hz : vs.size = cs.length) (ho : ∀ d ∈ cs, d.one = true) (hv : ∀ i, i < cs.length → vs[i]? = some (u i))
      (h : ∀ i (hi : i < cs.length), DR w B (cs[i]) (u i)) : DR w B (.agg cs) (.agg vs)
  | clo (f : FuncId) (cs : List D) (vs : Array Value) (u : Nat → Value) (hz : vs.size = cs.length) (hv : ∀ i, i < cs.length → vs[i]? = some (u i))
      (h : ∀ i (hi : i < cs.length), DR w B (cs[i]) (u i)) : DR w B (.clo f cs) (.func (.func f) #[] vs)
  | tup (cs : List D) (vs : Array Value) (u : Nat → Value) (hz : vs.size = cs.length) (hv : ∀ i, i < cs.length → vs[i]? = some (u i))
      (h : ∀ i (hi : i < cs.length), DR w B (cs[i]) (u i)) : DR w B (.tup cs) (.tuple vs)
  | nilmap : DR w B (.map [] []) (.map none)
  | map (ks vs : List D) (b clock : Nat) (es : Array MapEntry) (hb : B b) (hw : w.heap[b]? = some (.map es clock)) (hk : es.size = ks.length) (hv : es.size = vs.length) (hst : Born es clock)
      (h1 : ∀ i (hi : i < ks.length) e, es[i]? = some e → DR w B (ks[i]) e.key) (h2 : ∀ i (hi : i < vs.length) e, es[i]? = some e → DR w B (vs[i]) e.val) : DR w B (.map ks vs) (.map (some b))
  | set (ss : List (List UInt8)) (b clock : Nat) (es : Array MapEntry) (hb : B b) (hw : w.heap[b]? = some (.map es clock)) (hst : Born es clock) (hs : SetObj ss es) : DR w B (.set ss) (.map (some b))
theorem block_add (a : Addr) (n : Nat) : (a.add n).block = a.block := by unfold Addr.add; split <;> rfl
theorem add_add (a : Addr) (i j : Nat) : (a.add i).add j = a.add (i + j) := by
  unfold Addr.add
  by_cases hi : i = 0 <;> by_cases hj : j = 0 <;> simp [hi, hj, Nat.add_assoc]
theorem DR.mono {w w' : World} {B B' : Nat → Prop} {d : D} {v : Value} (h : DR w B d v) (hk : ∀ b, B b → B' b ∧ w'.heap[b]? = w.heap[b]?) : DR w' B' d v := by
  have hcell : ∀ (a : Addr) (i : Nat) (x : Value), B a.block → w.cell? (a.add i) = some x → w'.cell? (a.add i) = some x := by
    intro a i x hb hx
    rw [World.cell?_of_block (w := w) (by rw [block_add]; exact (hk _ hb).2)]
    exact hx
  induction h with
  | bool b => exact .bool b
  | int k n => exact .int k n
  | str s => exact .str s
  | nilp => exact .nilp
  | empty ao cap => exact .empty ao cap
  | list l a cap sz u hb hc hs ho hm _ ih => exact .list l a cap sz u (hk _ hb).1 hc hs ho (fun i hi => hcell a i _ hb (hm i hi)) ih
  | ref cs a u hb ho hm _ ih => exact .ref cs a u (hk _ hb).1 ho (fun i hi => hcell a i _ hb (hm i hi)) ih
  | agg cs vs u hz ho hv _ ih => exact .agg cs vs u hz ho hv ih
  | clo f cs vs u hz hv _ ih => exact .clo f cs vs u hz hv ih
  | tup cs vs u hz hv _ ih => exact .tup cs vs u hz hv ih
  | nilmap => exact .nilmap
  | map ks vs b clock es hb hw hs hv hst _ _ ih1 ih2 => exact .map ks vs b clock es (hk _ hb).1 ((hk _ hb).2.trans hw) hs hv hst ih1 ih2
  | set ss b clock es hb hw hst hs => exact .set ss b clock es (hk _ hb).1 ((hk _ hb).2.trans hw) hst hs
theorem DR.oneCell {w : World} {B : Nat → Prop} {d : D} {v : Value} (h : DR w B d v) (ho : d.one = true) : v.oneCell' = true := by
  cases h <;> simp_all [D.one, Value.oneCell']
inductive D.Flat : D → Prop where
  | bool (b : Bool) : D.Flat (.bool b)
  | int (k : IntKind) (n : Int) : D.Flat (.int k n)
  | str (s : List UInt8) : D.Flat (.str s)
  | nilp : D.Flat .nilp
  | agg (cs : List D) (h : ∀ d ∈ cs, D.Flat d) : D.Flat (.agg cs)
  | tup (cs : List D) (h : ∀ d ∈ cs, D.Flat d) : D.Flat (.tup cs)
theorem DR.flat {w w' : World} {B B' : Nat → Prop} {d : D} {v : Value} (h : DR w B d v) (hf : d.Flat) : DR w' B' d v := by
  induction h with
  | bool b => exact .bool b
  | int k n => exact .int k n
  | str s => exact .str s
  | nilp => exact .nilp
  | empty ao cap => cases hf
  | list l a cap sz u hb hc hs ho hm _ ih => cases hf
  | ref cs a u hb ho hm _ ih => cases hf
  | agg cs vs u hz ho hv _ ih =>
    cases hf with
    | agg _ hh => exact .agg cs vs u hz ho hv (fun i hi => ih i hi (hh _ (List.getElem_mem hi)))
  | clo f cs vs u hz hv _ ih => cases hf
  | tup cs vs u hz hv _ ih =>
    cases hf with
    | tup _ hh => exact .tup cs vs u hz hv (fun i hi => ih i hi (hh _ (List.getElem_mem hi)))
  | nilmap => cases hf
  | map ks vs b clock es hb hw hs hv _ _ _ ih1 ih2 => cases hf
  | set ss b clock es hb hw hst hs => cases hf
theorem DR.int_eq {w : World} {B : Nat → Prop} {k : IntKind} {n : Int} {v : Value} (h : DR w B (.int k n) v) : v = .int k n := by cases h; rfl
theorem DR.bool_eq {w : World} {B : Nat → Prop} {b : Bool} {v : Value} (h : DR w B (.bool b) v) : v = .bool b := by cases h; rfl
theorem DR.str_eq {w : World} {B : Nat → Prop} {s : List UInt8} {v : Value} (h : DR w B (.str s) v) : v = .string ⟨s.toArray⟩ := by cases h; rfl
theorem DR.agg_inv {w : World} {B : Nat → Prop} {cs : List D} {v : Value} (h : DR w B (.agg cs) v) :
    ∃ (vs : Array Value) (u : Nat → Value), v = .agg vs ∧ vs.size = cs.length ∧ (∀ d ∈ cs, d.one = true) ∧ (∀ i, i < cs.length → vs[i]? = some (u i)) ∧ ∀ i (hi : i < cs.length), DR w B (cs[i]) (u i) := by
  cases h with
  | agg _ vs u hz ho hv h => exact ⟨vs, u, rfl, hz, ho, hv, h⟩
theorem DR.ref_inv {w : World} {B : Nat → Prop} {cs : List D} {v : Value} (h : DR w B (.ref cs) v) :
    ∃ (a : Addr) (u : Nat → Value), v = .pointer (some a) ∧ B a.block ∧ (∀ d ∈ cs, d.one = true) ∧ (∀ i, i < cs.length → w.cell? (a.add i) = some (u i)) ∧ ∀ i (hi : i < cs.length), DR w B (cs[i]) (u i) := by
  cases h with
  | ref _ a u hb ho hm h => exact ⟨a, u, rfl, hb, ho, hm, h⟩
theorem DR.list_inv {w : World} {B : Nat → Prop} {l : List D} {v : Value} (h : DR w B (.list l) v) :
    ∃ (ao : Option Addr) (cap : Nat), v = .slice ao l.length cap ∧ (l = [] ∨ ∃ (a : Addr) (sz : Nat) (u : Nat → Value), ao = some a ∧ B a.block ∧ l.length ≤ cap ∧ (∀ d ∈ l, d.cells.length = sz) ∧
      (∀ d ∈ Ab.flat l, d.one = true) ∧ (∀ i, i < (Ab.flat l).length → w.cell? (a.add i) = some (u i)) ∧ ∀ i (hi : i < (Ab.flat l).length), DR w B ((Ab.flat l)[i]) (u i)) := by
  cases h with
  | empty ao cap => exact ⟨ao, cap, rfl, .inl rfl⟩
  | list _ a cap sz u hb hc hs ho hm h => exact ⟨some a, cap, rfl, .inr ⟨a, sz, u, rfl, hb, hc, hs, ho, hm, h⟩⟩
end Go.Ab
namespace Go.Ab
open Go Go.RowKit
def Soft (fr : Nat × Nat) (n : Nat) : Prop := ∀ j, j < n → ¬ (fr.1 ≤ j ∧ j < fr.2)
theorem soft0 (n : Nat) : Soft (0, 0) n := fun j _ h => by simp at h
def ownsM (w : World) (base : Nat) (e : TypeId) (size : Nat) (v : Value) (n : Nat) (xs : List Value) : Prop :=
  xs.length = n * size ∧
  ((v = .slice none 0 0 ∧ n = 0) ∨
   ∃ g cap cur, v = .slice (some ⟨g, 0, none⟩) n cap ∧ base ≤ g ∧ (∃ fr, w.heap[g]? = some (.cells cur e fr) ∧ Soft fr cur.size) ∧ n ≤ cap ∧ cap ≤ maxLen ∧ cur.size = cap * size ∧ cur.toList.take (n * size) = xs)
section
variable {P : Program} {w w' : World} {base : Nat} {e : TypeId} {sz n : Nat} {v : Value} {xs : List Value}
theorem ownsM.of (h : w.ownsRow base e sz v n xs) : ownsM w base e sz v n xs := by
  refine ⟨h.1, ?_⟩
  rcases h.2 with h1 | ⟨g, cap, cur, h1, h2, h3, h4⟩
  · exact .inl h1
  · exact .inr ⟨g, cap, cur, h1, h2, ⟨_, h3, soft0 _⟩, h4⟩
theorem ownsRow_base {base' : Nat} (h : ownsM w base e sz v n xs) (hb : base' ≤ base) : ownsM w base' e sz v n xs := by
  refine ⟨h.1, ?_⟩
  rcases h.2 with h1 | ⟨g, cap, cur, h1, h2, h3⟩
  · exact .inl h1
  · exact .inr ⟨g, cap, cur, h1, by omega, h3⟩
theorem ownsRow_one (h : ownsM w base e sz v n xs) : v.oneCell' = true := by
  rcases h.2 with ⟨rfl, _⟩ | ⟨g, cap, cur, rfl, h2, h3⟩ <;> rfl
theorem ownsM.cellAt {g cap : Nat} (h : ownsM w base e sz (.slice (some ⟨g, 0, none⟩) n cap) n xs) (j : Nat) (hj : j < n * sz) : w.cell? ⟨g, j, none⟩ = xs[j]? := by
  rcases h.2 with ⟨h1, _⟩ | ⟨g', cap', cur, h1, _, ⟨fr, hg, _⟩, _, _, _, ht⟩
  · cases h1
  · simp only [Value.slice.injEq, Option.some.injEq, Addr.mk.injEq, and_true, true_and] at h1
    obtain ⟨rfl, rfl⟩ := h1
    rw [cell_of_row w g _ cur e fr hg, ← ht, List.getElem?_take, if_pos hj]
    simp
theorem ownsM.cells (h : ownsM w base e sz v n xs) {g : Nat} (hg : v.ownBlock = some g) : ∀ j u, xs[j]? = some u → w.cell? ((⟨g, 0, none⟩ : Addr).add j) = some u := by
  rcases h.2 with ⟨rfl, _⟩ | ⟨g', cap', cur, rfl, _, ⟨fr, hh, _⟩, _, _, _, ht⟩
  · simp [Value.ownBlock] at hg
  · simp only [Value.ownBlock, Option.some.injEq] at hg
    subst hg
    intro j u hj
    rw [Addr.add_lit, cell_of_row w g' _ cur e fr hh]
    rw [← ht, List.getElem?_take] at hj
    split at hj
    · simpa using hj
    · cases hj
theorem ownsM_lit (w : World) (cs : Array Value) (n : Nat) (hb : base ≤ w.heap.size) (hm : n ≤ maxLen) (hs : cs.size = n * sz) :
    ownsM (w.alloc (.cells cs e)) base e sz (.slice (some ⟨w.heap.size, 0, none⟩) n n) n cs.toList := .of (World.ownsRow_lit w cs n hb hm hs)
def overV (off : Nat) (xs l : List Value) : List Value := l.take off ++ xs ++ l.drop (off + xs.length)
theorem overV_length {off : Nat} {xs l : List Value} (h : off + xs.length ≤ l.length) : (overV off xs l).length = l.length := by simp [overV]; omega
theorem setRow_setRow (w : World) (g : Nat) (a b : Array Value) : (w.setRow g a).setRow g b = w.setRow g b := by
  unfold World.setRow
  congr 1
  apply Array.ext_getElem?
  intro i
  simp only [Array.getElem?_modify]
  by_cases h : g = i
  · subst h
    simp only [if_true]
    cases hh : w.heap[g]? with
    | none => rfl
    | some o => cases o <;> rfl
  · simp [h]
theorem setCells_row {g : Nat} {fr : Nat × Nat} : ∀ (vs : List Value) (o : Nat) (cur : Array Value) (w : World), w.heap[g]? = some (.cells cur e fr) → o + vs.length ≤ cur.size → w.setCells g o vs = w.setRow g (overV o vs cur.toList).toArray
  | [], o, cur, w, h, hl => by
    have : (overV o [] cur.toList).toArray = cur := by simp [overV]
    rw [this, World.setCells]
    have hh : (w.setRow g cur).heap = w.heap := by
      apply Array.ext_getElem?
      intro i
      by_cases hi : i = g
      · subst hi; rw [h]; exact setRow_heap w i cur cur e fr h
      · exact setRow_other w g i cur hi
    cases w
    simp only [World.setRow] at hh ⊢
    rw [hh]
  | v :: r, o, cur, w, h, hl => by
    simp only [List.length_cons] at hl
    rw [World.setCells, setCell_eq_setRow w g o cur e fr v h, setCells_row r (o + 1) (cur.setIfInBounds o v) _ (setRow_heap w g cur _ e fr h) (by simp; omega), setRow_setRow]
    congr 2
    simp only [overV, Array.toList_setIfInBounds, List.length_cons]
    apply List.ext_getElem?
    intro k
    simp only [List.append_assoc, List.getElem?_append, List.length_take, List.length_set, Array.length_toList, List.getElem?_take, List.getElem?_set, List.getElem?_drop, List.length_cons]
    by_cases c1 : k < o
    · simp [show k < min (o + 1) cur.size by omega, show k < min o cur.size by omega, c1, show k < o + 1 by omega, show ¬ o = k by omega]
    · by_cases c2 : k = o
      · subst c2
        simp [show k < min (k + 1) cur.size by omega, show ¬ k < min k cur.size by omega, show min k cur.size = k by omega, show k < cur.size by omega]
      · have e1 : ¬ k < min (o + 1) cur.size := by omega
        have e2 : ¬ k < min o cur.size := by omega
        rw [if_neg e1, if_neg e2, show min (o + 1) cur.size = o + 1 by omega, show min o cur.size = o by omega]
        have e3 : k - o = (k - (o + 1)) + 1 := by omega
        by_cases c3 : k - (o + 1) < r.length
        · rw [if_pos c3, if_pos (by omega), e3, List.getElem?_cons_succ]
        · rw [if_neg c3, if_neg (by omega), if_neg (by omega)]
          congr 1
          omega
theorem run_storeCells_soft {g off : Nat} {fr : Nat × Nat} {cur : Array Value} {vs : List Value} (hg : w.heap[g]? = some (.cells cur e fr)) (hs : Soft fr cur.size) (hfit : off + vs.length ≤ cur.size) (h1 : ∀ u ∈ vs, u.oneCell' = true) :
    (storeCells ⟨g, off, none⟩ vs).run P w = .ok () (w.setRow g (overV off vs cur.toList).toArray) := by
  have h := run_storeCells_cells (P := P) g off vs 0 w (fun j hj => by
      rw [cell_of_row w g _ cur e fr hg, Array.getElem?_eq_getElem (show off + 0 + j < cur.size by omega)]; rfl) (fun j hj => by
      have := hs (off + 0 + j) (by omega)
      simp only [World.frozen?, hg]
      obtain ⟨lo, hi⟩ := fr
      simp only [Bool.and_eq_false_iff, decide_eq_false_iff_not]
      exact Classical.not_and_iff_not_or_not.1 this) h1
  rw [h, Nat.add_zero, setCells_row vs off cur w hg hfit]
theorem run_append_soft (t ty : TypeId) {i : TypeInfo} (ht : P.underlying t = some (.slice e)) (hi : P.info? e = some i)
    {g sLen sCap : Nat} {fr : Nat × Nat} {cur : Array Value} (hg : w.heap[g]? = some (.cells cur e fr)) (hs : Soft fr cur.size) (a : Addr) (m c : Nat) {news : List Value} (hl : news.length = m * i.size)
    (hnews : ∀ j u, news[j]? = some u → w.cell? (a.add j) = some u) (h1 : ∀ u ∈ news, u.oneCell' = true) (hroom : sLen + m ≤ sCap) (hfit : sLen * i.size + news.length ≤ cur.size) :
    (Builtin.append_ #[t, t] ty #[.slice (some ⟨g, 0, none⟩) sLen sCap, .slice (some a) m c]).run P w = .ok (.slice (some ⟨g, 0, none⟩) (sLen + m) sCap) (w.setRow g (overV (sLen * i.size) news cur.toList).toArray) := by
  have hf := run_firstCells_some (P := P) w i.size m a m c news hl hnews
  have hst := run_storeCells_soft (P := P) (off := sLen * i.size) hg hs hfit h1
  simp [Builtin.append_, run_underlying ht, sizeOf, typeInfo, hi, Builtin.lenOf, hroom, hf, Addr.add_lit, hst]
theorem run_append_ownsM (t ty : TypeId) {i : TypeInfo} {z : Value} (ht : P.underlying t = some (.slice e)) (hi : P.info? e = some i) (hz : i.zero = some z) (hzs : z.cells.size = i.size) (hsz : 0 < i.size)
    (hown : ownsM w base e i.size v n xs) (a : Addr) (m c : Nat) {news : List Value} (hl : news.length = m * i.size) (hnews : ∀ j u, news[j]? = some u → w.cell? (a.add j) = some u) (h1 : ∀ u ∈ news, u.oneCell' = true)
    (h63 : n + m ≤ maxLen) (hbytes : (n + m) * i.bytes ≤ 140737488355328) (hbase : base ≤ w.heap.size) :
    ∃ v' w', (Builtin.append_ #[t, t] ty #[v, .slice (some a) m c]).run P w = .ok v' w' ∧ ownsM w' base e i.size v' (n + m) (xs ++ news) ∧ w.grownBy w' v.ownBlock ∧ (v'.ownBlock = v.ownBlock ∨ v'.ownBlock = some w.heap.size) := by
  have hsmall : n + m ≤ 9223372036854775807 := by simp only [maxLen] at h63; omega
  have hlen : (xs ++ news).length = (n + m) * i.size := by rw [List.length_append, hown.1, hl, Nat.add_mul]
  rcases hown.2 with ⟨rfl, rfl⟩ | ⟨g, cap, cur, rfl, hbg, ⟨fr, hg, hso⟩, hnc, hcm, hcs, htake⟩
  · have hx : xs = [] := List.eq_nil_of_length_eq_zero (by simpa using hown.1)
    subst hx
    obtain ⟨v', w', h2, h3, h4, _, h5⟩ := run_append_own_at (P := P) w base t ty e i z i.size i.bytes ht hi hz rfl rfl hzs hsz (.slice none 0 0) 0 [] (World.ownsRow_nil w base e i.size) a m c news hl hnews h1 h63 hbytes hbase
    exact ⟨v', w', h2, .of h3, h4, h5⟩
  · by_cases hroom : n + m ≤ cap
    · have hfit : n * i.size + news.length ≤ cur.size := by rw [hl, hcs, ← Nat.add_mul]; exact Nat.mul_le_mul_right _ hroom
      have hr := run_append_soft (P := P) t ty ht hi hg hso a m c hl hnews h1 hroom hfit
      have hz2 : (overV (n * i.size) news cur.toList).toArray.size = cur.size := by
        rw [List.size_toArray, overV_length (by simpa using hfit), Array.length_toList]
      refine ⟨_, _, hr, ⟨hlen, .inr ⟨g, cap, _, rfl, hbg, ⟨fr, setRow_heap w g cur _ e _ hg, by rw [hz2]; exact hso⟩, hroom, hcm, by rw [hz2]; exact hcs, ?_⟩⟩, ⟨rfl, rfl, rfl, by simp, fun k _ hk => setRow_other w g k _ (fun e => hk (by simp [Value.ownBlock, e]))⟩, Or.inl rfl⟩
      simp only [overV]
      rw [htake, ← hlen]
      exact List.take_left
    · have holds : ∀ j u, xs[j]? = some u → w.cell? ((⟨g, 0, none⟩ : Addr).add j) = some u := fun j u hj => by
        rw [Addr.add_lit, cell_of_row w g _ cur e fr hg]
        rw [← htake, List.getElem?_take] at hj
        split at hj
        · simpa using hj
        · cases hj
      have hr := run_append_grow (P := P) w t ty e i z ht hi hz ⟨g, 0, none⟩ n cap xs hown.1 holds a m c news hl hnews (by omega) (by omega) (growslice_fits (by omega) hbytes)
      have hge := grownCap_ge w (n + m) cap e
      have hcm2 : grownCap w (n + m) cap e ≤ maxLen := grownCap_le_maxLen w (n + m) cap e h63
      refine ⟨_, _, hr, .of ⟨hlen, .inr ⟨w.heap.size, _, _, rfl, hbase, heap_alloc_new w.drew _, hge, hcm2, ?_, ?_⟩⟩, ⟨rfl, rfl, rfl, by simp, fun k hk _ => heap_alloc_old w.drew _ (show k < w.drew.heap.size from hk)⟩, Or.inr rfl⟩
      · simp only [Array.size_append, List.size_toArray, size_zeroCells, hzs, hown.1, hl, ← Nat.add_mul]
        congr 1
        omega
      · simp only [Array.toList_append, List.append_assoc]
        rw [← List.append_assoc, ← hlen]
        exact List.take_left
end
end Go.Ab
namespace Go.Ab
open Go Go.RowKit
inductive AV where
  | data (d : D)
  | junk
  | nils
  | ptr (o off : Nat)
  | row (o n : Nat)
  | rref (o n i off : Nat)
  | agg (l : List AV)
  | tup (l : List AV)
  | fn (f : FuncId) (l : List AV)
  | bnd (f : FuncId) (l : List AV)
  | mref (o : Nat)
  deriving Inhabited
inductive Obj where
  | box (cs : List AV)
  | row (e : TypeId) (sz : Nat) (l : List D)
  | arr (e : TypeId) (sz n : Nat) (cs : List AV)
  | frz (l : List D)
  | map (ks vs : List D)
  | dead
def Obj.live : Obj → Bool
  | .frz _ => false
  | .dead => false
  | _ => true
def Obj.rlen : Obj → Option Nat
  | .row _ _ l => some l.length
  | .arr _ _ n _ => some n
  | .frz l => some l.length
  | _ => none
def Obj.rsz : Obj → Option Nat
  | .row _ sz _ => some sz
  | .arr _ sz _ _ => some sz
  | _ => none
def Obj.evo : Obj → Obj → Prop
  | .box _, .box _ => True
  | .row e sz l, .row e' sz' l' => e = e' ∧ sz = sz' ∧ l.length ≤ l'.length
  | .row _ _ l, .frz l' => l.length ≤ l'.length
  | .arr e sz n _, .arr e' sz' n' _ => e = e' ∧ sz = sz' ∧ n ≤ n'
  | .arr _ _ n _, .frz l' => n ≤ l'.length
  | .arr e sz n _, .row e' sz' l' => e = e' ∧ sz = sz' ∧ n ≤ l'.length
  | .frz l, .frz l' => l.length ≤ l'.length
  | .map _ _, .map _ _ => True
  | _, .dead => True
  | _, _ => False
theorem Obj.evo_refl (x : Obj) : x.evo x := by cases x <;> simp [Obj.evo]
theorem Obj.evo_rlen {x x' : Obj} (h : x.evo x') {m' : Nat} (hm : x'.rlen = some m') : ∃ m, x.rlen = some m ∧ m ≤ m' := by
  cases x <;> cases x' <;> simp_all [Obj.evo, Obj.rlen]
theorem Obj.evo_rsz {x x' : Obj} (h : x.evo x') {z : Nat} (hz : x'.rsz = some z) : x.rsz = some z := by
  cases x <;> cases x' <;> simp_all [Obj.evo, Obj.rsz]
theorem Obj.evo_trans {x y z : Obj} (h : x.evo y) (k : y.evo z) : x.evo z := by
  cases x <;> cases y <;> simp only [Obj.evo] at h <;> cases z <;> simp only [Obj.evo] at k ⊢
  all_goals first | exact ⟨h.1.trans k.1, h.2.1.trans k.2.1, Nat.le_trans h.2.2 k.2.2⟩ | exact Nat.le_trans h.2.2 k | exact Nat.le_trans h k
theorem Obj.evo_same {x y z : Obj} (h : x.evo y) (k : y.evo z) (he : x.rlen = z.rlen) : x.rlen = y.rlen ∧ y.rlen = z.rlen := by
  cases hz : z.rlen with
  | none =>
    rw [hz] at he
    cases hy : y.rlen with
    | none => exact ⟨he, rfl⟩
    | some m => obtain ⟨m', h1, _⟩ := Obj.evo_rlen h hy; rw [he] at h1; cases h1
  | some m =>
    obtain ⟨m1, h1, h2⟩ := Obj.evo_rlen k hz
    obtain ⟨m2, h3, h4⟩ := Obj.evo_rlen h h1
    rw [he, hz] at h3
    cases h3
    have : m1 = m := Nat.le_antisymm h2 h4
    subst this
    exact ⟨by rw [he, hz, h1], h1⟩
theorem Obj.evo_box {x : Obj} {cs : List AV} (h : x.evo (.box cs)) : ∃ cs0, x = .box cs0 := by cases x <;> simp_all [Obj.evo]
theorem Obj.evo_map {x : Obj} {ks vs : List D} (h : x.evo (.map ks vs)) : ∃ a b, x = .map a b := by cases x <;> simp_all [Obj.evo]
structure Heap where
  tab : List (Nat × Obj)
  next : Nat
def look : List (Nat × Obj) → Nat → Option Obj
  | [], _ => none
  | (k, x) :: r, o => if o = k then some x else look r o
def upd : List (Nat × Obj) → Nat → Obj → List (Nat × Obj)
  | [], o, x => [(o, x)]
  | (k, y) :: r, o, x => if o = k then (k, x) :: r else (k, y) :: upd r o x
theorem look_upd (t : List (Nat × Obj)) (o : Nat) (x : Obj) (p : Nat) : look (upd t o x) p = if p = o then some x else look t p := by
  induction t with
  | nil => simp only [upd, look]
  | cons y r ih =>
    obtain ⟨k, y⟩ := y
    simp only [upd]
    by_cases h : o = k
    · subst h
      simp only [if_true, look]
      by_cases hp : p = o <;> simp [hp]
    · simp only [if_neg h, look, ih]
      by_cases hp : p = k
      · subst hp
        simp [Ne.symm h]
      · simp [hp]
def Heap.get (H : Heap) (o : Nat) : Option Obj := look H.tab o
def Heap.set (H : Heap) (o : Nat) (x : Obj) : Heap := { H with tab := upd H.tab o x }
def Heap.ref (H : Heap) (o : Nat) : Prop := o < H.next ∨ (H.get o).isSome
theorem Heap.get_set (H : Heap) (o : Nat) (x : Obj) (p : Nat) : (H.set o x).get p = if p = o then some x else H.get p := look_upd _ _ _ _
theorem Heap.ref_set {H : Heap} {o p : Nat} {x : Obj} (h : H.ref p) : (H.set o x).ref p := by
  rcases h with h | h
  · exact .inl h
  · refine .inr ?_
    rw [Heap.get_set]
    by_cases hp : p = o <;> simp [hp, h]
def blk : Value → Option Nat
  | .pointer (some a) => some a.block
  | .slice (some a) _ _ => some a.block
  | .map (some b) => some b
  | _ => none
inductive VR (H : Heap) (θ : Nat → Value) (w : World) (B : Nat → Prop) : AV → Value → Prop where
  | data (d : D) (v : Value) (h : DR w B d v) : VR H θ w B (.data d) v
  | junk (v : Value) : VR H θ w B .junk v
  | nils : VR H θ w B .nils (.slice none 0 0)
  | ptr (o off : Nat) (v : Value) (hv : v.oneCell' = true) (hr : H.ref o) (h : ∀ cs, H.get o = some (.box cs) → ∃ b, θ o = .pointer (some ⟨b, 0, none⟩) ∧ v = .pointer (some ⟨b, off, none⟩)) : VR H θ w B (.ptr o off) v
  | row (o n : Nat) (v : Value) (hv : v.oneCell' = true) (hr : H.ref o) (h : ∀ x m, H.get o = some x → x.rlen = some m → n ≤ m ∧ (m = n → v = θ o)) : VR H θ w B (.row o n) v
  | rref (o n i off : Nat) (v : Value) (hv : v.oneCell' = true) (hr : H.ref o)
      (h : ∀ x m sz, H.get o = some x → x.rlen = some m → x.rsz = some sz → n ≤ m ∧ (m = n → ∃ g cap, θ o = .slice (some ⟨g, 0, none⟩) n cap ∧ v = .pointer (some ⟨g, i * sz + off, none⟩))) : VR H θ w B (.rref o n i off) v
  | mref (o : Nat) (v : Value) (hv : v.oneCell' = true) (hr : H.ref o) (h : ∀ ks vs, H.get o = some (.map ks vs) → v = θ o) : VR H θ w B (.mref o) v
  | agg (l : List AV) (vs : Array Value) (u : Nat → Value) (hz : vs.size = l.length) (hv : ∀ i, i < l.length → vs[i]? = some (u i) ∧ (u i).oneCell' = true)
      (h : ∀ i (hi : i < l.length), VR H θ w B (l[i]) (u i)) : VR H θ w B (.agg l) (.agg vs)
  | tup (l : List AV) (vs : Array Value) (u : Nat → Value) (hz : vs.size = l.length) (hv : ∀ i, i < l.length → vs[i]? = some (u i))
      (h : ∀ i (hi : i < l.length), VR H θ w B (l[i]) (u i)) : VR H θ w B (.tup l) (.tuple vs)
  | fn (f : FuncId) (l : List AV) (vs : Array Value) (u : Nat → Value) (hz : vs.size = l.length) (hv : ∀ i, i < l.length → vs[i]? = some (u i))
      (h : ∀ i (hi : i < l.length), VR H θ w B (l[i]) (u i)) : VR H θ w B (.fn f l) (.func (.func f) #[] vs)
  | bnd (f : FuncId) (l : List AV) (vs : Array Value) (u : Nat → Value) (hz : vs.size = l.length) (hv : ∀ i, i < l.length → vs[i]? = some (u i))
      (h : ∀ i (hi : i < l.length), VR H θ w B (l[i]) (u i)) : VR H θ w B (.bnd f l) (.func (.func f) vs #[])
structure HLe (H : Heap) (θ : Nat → Value) (H' : Heap) (θ' : Nat → Value) : Prop where
  ref : ∀ o, H.ref o → H'.ref o
  obj : ∀ o x', H.ref o → H'.get o = some x' → ∃ x, H.get o = some x ∧ x.evo x' ∧ (x.rlen = x'.rlen → θ' o = θ o)
theorem HLe.refl (H : Heap) (θ : Nat → Value) : HLe H θ H θ := ⟨fun _ h => h, fun _ x _ h => ⟨x, h, x.evo_refl, fun _ => rfl⟩⟩
theorem HLe.trans {H1 H2 H3 : Heap} {θ1 θ2 θ3 : Nat → Value} (h : HLe H1 θ1 H2 θ2) (k : HLe H2 θ2 H3 θ3) : HLe H1 θ1 H3 θ3 :=
  ⟨fun o ho => k.ref o (h.ref o ho), fun o z ho hz => by
    obtain ⟨y, hy, e2, t2⟩ := k.obj o z (h.ref o ho) hz
    obtain ⟨x, hx, e1, t1⟩ := h.obj o y ho hy
    exact ⟨x, hx, Obj.evo_trans e1 e2, fun he => by
      obtain ⟨r1, r2⟩ := Obj.evo_same e1 e2 he
      rw [t2 r2, t1 r1]⟩⟩
theorem VR.mono {H H' : Heap} {θ θ' : Nat → Value} {w w' : World} {B B' : Nat → Prop} {x : AV} {v : Value} (h : VR H θ w B x v)
    (hk : ∀ b, B b → B' b ∧ w'.heap[b]? = w.heap[b]?) (hl : HLe H θ H' θ') : VR H' θ' w' B' x v := by
  induction h with
  | data d v h => exact .data d v (h.mono hk)
  | junk v => exact .junk v
  | nils => exact .nils
  | ptr o off v hv hr h =>
    refine .ptr o off v hv (hl.ref o hr) fun cs' hcs => ?_
    obtain ⟨x, hx, he, ht⟩ := hl.obj o _ hr hcs
    obtain ⟨cs, rfl⟩ := Obj.evo_box he
    rw [ht rfl]
    exact h cs hx
  | row o n v hv hr h =>
    refine .row o n v hv (hl.ref o hr) (fun x' m' hx' hm' => ?_)
    obtain ⟨x, hx, he, ht⟩ := hl.obj o _ hr hx'
    obtain ⟨m, hm, hle⟩ := Obj.evo_rlen he hm'
    obtain ⟨h3, h4⟩ := h x m hx hm
    refine ⟨by omega, fun hn => ?_⟩
    have : m = m' := by omega
    rw [ht (by rw [hm, hm', this])]
    exact h4 (by omega)
  | rref o n i off v hv hr h =>
    refine .rref o n i off v hv (hl.ref o hr) (fun x' m' sz hx' hm' hz' => ?_)
    obtain ⟨x, hx, he, ht⟩ := hl.obj o _ hr hx'
    obtain ⟨m, hm, hle⟩ := Obj.evo_rlen he hm'
    obtain ⟨h3, h4⟩ := h x m sz hx hm (Obj.evo_rsz he hz')
    refine ⟨by omega, fun hn => ?_⟩
    have : m = m' := by omega
    rw [ht (by rw [hm, hm', this])]
    exact h4 (by omega)
  | mref o v hv hr h =>
    refine .mref o v hv (hl.ref o hr) (fun ks vs hx' => ?_)
    obtain ⟨x, hx, he, ht⟩ := hl.obj o _ hr hx'
    obtain ⟨a, b, rfl⟩ := Obj.evo_map he
    rw [ht rfl]
    exact h a b hx
  | agg l vs u hz hv _ ih => exact .agg l vs u hz hv ih
  | tup l vs u hz hv _ ih => exact .tup l vs u hz hv ih
  | fn f l vs u hz hv _ ih => exact .fn f l vs u hz hv ih
  | bnd f l vs u hz hv _ ih => exact .bnd f l vs u hz hv ih
structure Ctx where
  n0 : Nat
  Bl : Nat → Prop
  Init : Nat → Prop
  apart : ∀ b, Bl b → ¬ Init b
  base : Nat
def own (H : Heap) (θ : Nat → Value) (b : Nat) : Prop := ∃ o x, H.get o = some x ∧ x.live = true ∧ blk (θ o) = some b
def vis (c : Ctx) (H : Heap) (θ : Nat → Value) (w : World) (b : Nat) : Prop := b < w.heap.size ∧ ¬ own H θ b ∧ (b < c.n0 → c.Bl b ∨ c.Init b)
def ObjR (c : Ctx) (H : Heap) (θ : Nat → Value) (w : World) : Obj → Value → Prop
  | .box cs, v => ∃ b e vs, v = .pointer (some ⟨b, 0, none⟩) ∧ w.heap[b]? = some (.cells vs e (0, 0)) ∧ vs.size = cs.length ∧ (c.n0 ≤ b ∨ c.Init b) ∧
      ∀ i (hi : i < cs.length) u, vs[i]? = some u → VR H θ w (vis c H θ w) (cs[i]) u ∧ u.oneCell' = true
  | .row e sz l, v => 0 < sz ∧ (∀ d ∈ l, d.cells.length = sz) ∧ (∀ d ∈ flat l, d.one = true) ∧ ∃ vs, ownsM w 0 e sz v l.length vs ∧ (∀ b, blk v = some b → c.n0 ≤ b ∨ c.Init b) ∧
      ∀ i (hi : i < (flat l).length) u, vs[i]? = some u → DR w (vis c H θ w) ((flat l)[i]) u
  | .arr e sz n cs, v => 0 < sz ∧ cs.length = n * sz ∧ ∃ vs, ownsM w 0 e sz v n vs ∧ (∀ b, blk v = some b → c.n0 ≤ b ∨ c.Init b) ∧
      ∀ i (hi : i < cs.length) u, vs[i]? = some u → VR H θ w (vis c H θ w) (cs[i]) u ∧ u.oneCell' = true
  | .frz l, v => DR w (vis c H θ w) (.list l) v
  | .map ks vs, v => ∃ b clock es, v = .map (some b) ∧ w.heap[b]? = some (.map es clock) ∧ (c.n0 ≤ b ∨ c.Init b) ∧ es.size = ks.length ∧ es.size = vs.length ∧ Born es clock ∧
      (∀ i (hi : i < ks.length) e, es[i]? = some e → DR w (vis c H θ w) (ks[i]) e.key) ∧ ∀ i (hi : i < vs.length) e, es[i]? = some e → DR w (vis c H θ w) (vs[i]) e.val
  | .dead, _ => True
structure HSim (c : Ctx) (H : Heap) (θ : Nat → Value) (w : World) : Prop where
  size : c.n0 ≤ w.heap.size
  objs : ∀ o x, H.get o = some x → ObjR c H θ w x (θ o)
  inj : ∀ o o' x x', H.get o = some x → H.get o' = some x' → x.live = true → x'.live = true → o ≠ o' → ∀ b, blk (θ o) = some b → blk (θ o') ≠ some b
structure St (c : Ctx) (H : Heap) (θ : Nat → Value) (w : World) (sl : List AV) (a : Act) : Prop where
  sim : HSim c H θ w
  defers : a.defers = []
  size : a.tmps.size = sl.length
  vals : ∀ (i : Nat) (x : AV) (v : Value), sl[i]? = some x → a.tmps[i]? = some v → VR H θ w (vis c H θ w) x v
structure Kept (c : Ctx) (w w' : World) : Prop where
  os : w'.os = w.os
  tape : w'.tape = w.tape
  output : w'.output = w.output
  size : w.heap.size ≤ w'.heap.size
  block : ∀ b, b < c.n0 → ¬ c.Init b → w'.heap[b]? = w.heap[b]?
theorem Kept.refl (c : Ctx) (w : World) : Kept c w w := ⟨rfl, rfl, rfl, Nat.le_refl _, fun _ _ _ => rfl⟩
theorem Kept.trans {c : Ctx} {w w1 w2 : World} (h : Kept c w w1) (k : Kept c w1 w2) : Kept c w w2 :=
  ⟨k.os.trans h.os, k.tape.trans h.tape, k.output.trans h.output, Nat.le_trans h.size k.size, fun b h1 h2 => (k.block b h1 h2).trans (h.block b h1 h2)⟩
def Heap.bnd (H : Heap) (m : Nat) : Prop := ∀ o, (H.get o).isSome → o < m
structure StW (c : Ctx) (H : Heap) (θ : Nat → Value) (w : World) (sl : List AV) (a : Act) : Prop where
  st : St c H θ w sl a
  wf : H.bnd H.next
  base : c.base ≤ H.next
def Evo (b : Nat) (H : Heap) (θ : Nat → Value) (H' : Heap) (θ' : Nat → Value) : Prop :=
  ∀ o x', o < b → H'.get o = some x' → ∃ x, H.get o = some x ∧ x.evo x' ∧ (x.rlen = x'.rlen → θ' o = θ o)
theorem Evo.refl (b : Nat) (H : Heap) (θ : Nat → Value) : Evo b H θ H θ := fun _ x _ h => ⟨x, h, x.evo_refl, fun _ => rfl⟩
theorem Evo.trans {b : Nat} {H1 H2 H3 : Heap} {θ1 θ2 θ3 : Nat → Value} (h : Evo b H1 θ1 H2 θ2) (k : Evo b H2 θ2 H3 θ3) : Evo b H1 θ1 H3 θ3 := fun o z ho hz => by
  obtain ⟨y, hy, e2, t2⟩ := k o z ho hz
  obtain ⟨x, hx, e1, t1⟩ := h o y ho hy
  exact ⟨x, hx, Obj.evo_trans e1 e2, fun he => by
    obtain ⟨r1, r2⟩ := Obj.evo_same e1 e2 he
    rw [t2 r2, t1 r1]⟩
theorem HLe.evo {b : Nat} {H H' : Heap} {θ θ' : Nat → Value} (h : HLe H θ H' θ') (hb : b ≤ H.next) : Evo b H θ H' θ' := fun o x' ho hx => h.obj o x' (.inl (by omega)) hx
def awp (P : Program) (c : Ctx) (code : Code) (Q : Exit → List AV → Heap → Prop) (sl : List AV) (H : Heap) : Prop :=
  ∀ θ w a, StW c H θ w sl a → code.wp P (fun e a' w' => ∃ sl' H' θ', Q e sl' H' ∧ StW c H' θ' w' sl' a' ∧ Kept c w w' ∧ Evo c.base H θ H' θ') a w
section
variable {P : Program} {c : Ctx} {Q : Exit → List AV → Heap → Prop} {sl : List AV} {H : Heap}
theorem awp_mono {code : Code} {Q' : Exit → List AV → Heap → Prop} (h : awp P c code Q sl H) (hq : ∀ e sl H, Q e sl H → Q' e sl H) : awp P c code Q' sl H :=
  fun θ w a hs => Go.wp_mono (h θ w a hs) fun _ _ _ ⟨sl', H', θ', q, s, k⟩ => ⟨sl', H', θ', hq _ _ _ q, s, k⟩
theorem awp_skip (h : Q .normal sl H) : awp P c .skip Q sl H := fun θ w a hs => wp_skip ⟨sl, H, θ, h, hs, Kept.refl c w, Evo.refl _ _ _⟩
theorem awp_label {l : Nat} (h : Q .normal sl H) : awp P c (.label l) Q sl H := fun θ w a hs => wp_label ⟨sl, H, θ, h, hs, Kept.refl c w, Evo.refl _ _ _⟩
theorem awp_exit {id : Nat} (h : Q (.exit id) sl H) : awp P c (.exit id) Q sl H := fun θ w a hs => wp_exit ⟨sl, H, θ, h, hs, Kept.refl c w, Evo.refl _ _ _⟩
theorem awp_ret (h : Q .ret sl H) : awp P c .ret Q sl H := fun θ w a hs => wp_ret ⟨sl, H, θ, h, hs, Kept.refl c w, Evo.refl _ _ _⟩
def thenA (K : List AV → Heap → Prop) (Q : Exit → List AV → Heap → Prop) : Exit → List AV → Heap → Prop
  | .normal, sl, H => K sl H
  | e, sl, H => Q e sl H
theorem awp_seq {x y : Code} (h : awp P c x (thenA (awp P c y Q) Q) sl H) : awp P c (.seq x y) Q sl H := by
  intro θ w a hs
  refine wp_seq (Go.wp_mono (h θ w a hs) ?_)
  rintro e a' w' ⟨sl', H', θ', q, s, k, v⟩
  cases e with
  | normal => exact Go.wp_mono (q θ' w' a' s) fun _ _ _ ⟨sl2, H2, θ2, q2, s2, k2, v2⟩ => ⟨sl2, H2, θ2, q2, s2, k.trans k2, v.trans v2⟩
  | exit id => exact ⟨sl', H', θ', q, s, k, v⟩
  | goto l => exact ⟨sl', H', θ', q, s, k, v⟩
  | ret => exact ⟨sl', H', θ', q, s, k, v⟩
  | panic ch => exact ⟨sl', H', θ', q, s, k, v⟩
  | outgrown => exact ⟨sl', H', θ', q, s, k, v⟩
def inBlockA (id : Nat) (Q : Exit → List AV → Heap → Prop) : Exit → List AV → Heap → Prop
  | .exit id', sl, H => if id' = id then Q .normal sl H else Q (.exit id') sl H
  | e, sl, H => Q e sl H
theorem awp_block {id : Nat} {x : Code} (h : awp P c x (inBlockA id Q) sl H) : awp P c (.block id x) Q sl H := by
  intro θ w a hs
  refine wp_block (Go.wp_mono (h θ w a hs) ?_)
  rintro e a' w' ⟨sl', H', θ', q, s, k⟩
  cases e with
  | exit id' =>
    simp only [Exit.inBlock, inBlockA] at q ⊢
    split
    · rename_i h1; rw [if_pos h1] at q; exact ⟨sl', H', θ', q, s, k⟩
    · rename_i h1; rw [if_neg h1] at q; exact ⟨sl', H', θ', q, s, k⟩
  | normal => exact ⟨sl', H', θ', q, s, k⟩
  | goto l => exact ⟨sl', H', θ', q, s, k⟩
  | ret => exact ⟨sl', H', θ', q, s, k⟩
  | panic ch => exact ⟨sl', H', θ', q, s, k⟩
  | outgrown => exact ⟨sl', H', θ', q, s, k⟩
end
end Go.Ab
namespace Go.Ab
open Go Go.RowKit
def updθ (θ : Nat → Value) (k : Nat) (v : Value) : Nat → Value := fun o => if o = k then v else θ o
theorem heap_lt {w : World} {b : Nat} {o : Go.Obj} (h : w.heap[b]? = some o) : b < w.heap.size := (Array.getElem?_eq_some_iff.1 h).1
theorem ObjR.lt {c : Ctx} {H : Heap} {θ : Nat → Value} {w : World} {x : Obj} {v : Value} (h : ObjR c H θ w x v) (hx : x.live = true) {b : Nat} (hb : blk v = some b) : b < w.heap.size := by
  cases x with
  | box cs =>
    obtain ⟨b', e, vs, rfl, hh, _⟩ := h
    simp [blk] at hb
    subst hb
    exact heap_lt hh
  | row e sz l =>
    obtain ⟨_, _, _, vs, hown, _⟩ := h
    rcases hown.2 with ⟨rfl, _⟩ | ⟨g, cap, cur, rfl, _, ⟨_, hh, _⟩, _⟩
    · simp [blk] at hb
    · simp [blk] at hb
      subst hb
      exact heap_lt hh
  | arr e sz n cs =>
    obtain ⟨_, _, vs, hown, _⟩ := h
    rcases hown.2 with ⟨rfl, _⟩ | ⟨g, cap, cur, rfl, _, ⟨_, hh, _⟩, _⟩
    · simp [blk] at hb
    · simp [blk] at hb
      subst hb
      exact heap_lt hh
  | frz l => cases hx
  | map ks vs =>
    obtain ⟨b', clock, es, rfl, hh, _⟩ := h
    simp [blk] at hb
    subst hb
    exact heap_lt hh
  | dead => cases hx
theorem own_lt {c : Ctx} {H : Heap} {θ : Nat → Value} {w : World} (hs : HSim c H θ w) {b : Nat} (h : own H θ b) : b < w.heap.size := by
  obtain ⟨o, x, hg, hx, hb⟩ := h
  exact (hs.objs o x hg).lt hx hb
theorem ObjR.mono {c : Ctx} {H H' : Heap} {θ θ' : Nat → Value} {w w' : World} {x : Obj} {v : Value} (h : ObjR c H θ w x v)
    (hk : ∀ b, vis c H θ w b → vis c H' θ' w' b ∧ w'.heap[b]? = w.heap[b]?) (hl : HLe H θ H' θ') (hb : x.live = true → ∀ b, blk v = some b → w'.heap[b]? = w.heap[b]?) : ObjR c H' θ' w' x v := by
  cases x with
  | box cs =>
    obtain ⟨b', e, vs, rfl, hh, hz, hown, hv⟩ := h
    refine ⟨b', e, vs, rfl, ?_, hz, hown, fun i hi u hu => ⟨(hv i hi u hu).1.mono hk hl, (hv i hi u hu).2⟩⟩
    rw [hb rfl b' rfl]
    exact hh
  | row e sz l =>
    obtain ⟨h0, h1, h2, vs, hown, hbl, hv⟩ := h
    refine ⟨h0, h1, h2, vs, ⟨hown.1, ?_⟩, hbl, fun i hi u hu => (hv i hi u hu).mono hk⟩
    rcases hown.2 with h3 | ⟨g, cap, cur, rfl, h4, hh, h5⟩
    · exact .inl h3
    · refine .inr ⟨g, cap, cur, rfl, h4, ?_, h5⟩
      rw [hb rfl g rfl]
      exact hh
  | arr e sz n cs =>
    obtain ⟨h0, h1, vs, hown, hbl, hv⟩ := h
    refine ⟨h0, h1, vs, ⟨hown.1, ?_⟩, hbl, fun i hi u hu => ⟨(hv i hi u hu).1.mono hk hl, (hv i hi u hu).2⟩⟩
    rcases hown.2 with h3 | ⟨g, cap, cur, rfl, h4, hh, h5⟩
    · exact .inl h3
    · refine .inr ⟨g, cap, cur, rfl, h4, ?_, h5⟩
      rw [hb rfl g rfl]
      exact hh
  | frz l => exact DR.mono h hk
  | map ks vs =>
    obtain ⟨b', clock, es, rfl, hh, hown, h1, h2, hst, h3, h4⟩ := h
    refine ⟨b', clock, es, rfl, ?_, hown, h1, h2, hst, fun i hi e he => (h3 i hi e he).mono hk, fun i hi e he => (h4 i hi e he).mono hk⟩
    rw [hb rfl b' rfl]
    exact hh
  | dead => trivial
theorem HSim.grow {c : Ctx} {H : Heap} {θ : Nat → Value} {w w' : World} (hs : HSim c H θ w) (hw : ∀ b, b < w.heap.size → w'.heap[b]? = w.heap[b]?) (hz : w.heap.size ≤ w'.heap.size) :
    HSim c H θ w' ∧ (∀ b, vis c H θ w b → vis c H θ w' b ∧ w'.heap[b]? = w.heap[b]?) := by
  have hk : ∀ b, vis c H θ w b → vis c H θ w' b ∧ w'.heap[b]? = w.heap[b]? := fun b ⟨h1, h2, h3⟩ => ⟨⟨by omega, h2, h3⟩, hw b h1⟩
  exact ⟨⟨Nat.le_trans hs.size hz, fun o x hg => (hs.objs o x hg).mono hk (HLe.refl _ _) (fun hx b hb => hw b ((hs.objs o x hg).lt hx hb)), hs.inj⟩, hk⟩
theorem St.grow {c : Ctx} {H : Heap} {θ : Nat → Value} {w w' : World} {sl : List AV} {a : Act} (hs : St c H θ w sl a) (hw : ∀ b, b < w.heap.size → w'.heap[b]? = w.heap[b]?) (hz : w.heap.size ≤ w'.heap.size) :
    St c H θ w' sl a :=
  have h := hs.sim.grow hw hz
  ⟨h.1, hs.defers, hs.size, fun i x v h1 h2 => (hs.vals i x v h1 h2).mono h.2 (HLe.refl _ _)⟩
theorem St.put {c : Ctx} {H : Heap} {θ : Nat → Value} {w : World} {sl : List AV} {a : Act} (hs : St c H θ w sl a) {x : AV} {v : Value} (hx : VR H θ w (vis c H θ w) x v) (d : Nat) :
    St c H θ w (sl.set d x) (a.put (some d) v) := by
  refine ⟨hs.sim, hs.defers, by simp [Act.put, hs.size], fun i y u hy hu => ?_⟩
  simp only [Act.put, Array.getElem?_setIfInBounds] at hu
  rw [List.getElem?_set] at hy
  by_cases hd : d = i
  · subst hd
    rw [if_pos rfl] at hy hu
    split at hu
    · split at hy
      · simp at hu hy
        subst hu
        subst hy
        exact hx
      · cases hy
    · cases hu
  · rw [if_neg hd] at hy hu
    exact hs.vals i y u hy hu
theorem St.putO {c : Ctx} {H : Heap} {θ : Nat → Value} {w : World} {sl : List AV} {a : Act} (hs : St c H θ w sl a) {x : AV} {v : Value} (hx : VR H θ w (vis c H θ w) x v) (d : Option Nat) :
    St c H θ w (match d with | some d => sl.set d x | none => sl) (a.put d v) := by
  cases d with
  | some d => exact hs.put hx d
  | none => exact hs
theorem HSim.add {c : Ctx} {H : Heap} {θ : Nat → Value} {w w' : World} (hs : HSim c H θ w) {k : Nat} {x : Obj} {val : Value} (hk : ¬ H.ref k)
    (hw : ∀ b, b < w.heap.size → w'.heap[b]? = w.heap[b]?) (hz : w.heap.size ≤ w'.heap.size) (hf : ∀ b, blk val = some b → w.heap.size ≤ b)
    (hobj : (∀ y u, VR H θ w (vis c H θ w) y u → VR (H.set k x) (updθ θ k val) w' (vis c (H.set k x) (updθ θ k val) w') y u) → ObjR c (H.set k x) (updθ θ k val) w' x val) :
    HSim c (H.set k x) (updθ θ k val) w' ∧ (∀ y u, VR H θ w (vis c H θ w) y u → VR (H.set k x) (updθ θ k val) w' (vis c (H.set k x) (updθ θ k val) w') y u) ∧ HLe H θ (H.set k x) (updθ θ k val) := by
  have hne : ∀ o, H.ref o → o ≠ k := fun o ho e => hk (e ▸ ho)
  have hget : ∀ o, H.ref o → (H.set k x).get o = H.get o := fun o ho => by rw [Heap.get_set, if_neg (hne o ho)]
  have hθ : ∀ o, H.ref o → updθ θ k val o = θ o := fun o ho => by simp [updθ, hne o ho]
  have hle : HLe H θ (H.set k x) (updθ θ k val) := by
    refine ⟨fun o ho => Heap.ref_set ho, fun o x' ho h => ?_⟩
    rw [hget o ho] at h
    exact ⟨x', h, x'.evo_refl, fun _ => hθ o ho⟩
  have hown : ∀ b, b < w.heap.size → own (H.set k x) (updθ θ k val) b → own H θ b := by
    rintro b hb ⟨o, y, hg, hy, hbl⟩
    rw [Heap.get_set] at hg
    by_cases ho : o = k
    · subst ho
      simp only [updθ, if_true] at hbl
      have := hf b hbl
      omega
    · rw [if_neg ho] at hg
      simp only [updθ, if_neg ho] at hbl
      exact ⟨o, y, hg, hy, hbl⟩
  have hv : ∀ b, vis c H θ w b → vis c (H.set k x) (updθ θ k val) w' b ∧ w'.heap[b]? = w.heap[b]? := fun b ⟨h1, h2, h3⟩ =>
    ⟨⟨by omega, fun h => h2 (hown b h1 h), h3⟩, hw b h1⟩
  have hvr : ∀ y u, VR H θ w (vis c H θ w) y u → VR (H.set k x) (updθ θ k val) w' (vis c (H.set k x) (updθ θ k val) w') y u := fun y u h => h.mono hv hle
  refine ⟨⟨Nat.le_trans hs.size hz, fun o y hg => ?_, fun o o' y y' hg hg' hy hy' hne' b hb hb' => ?_⟩, hvr, hle⟩
  · rw [Heap.get_set] at hg
    by_cases ho : o = k
    · subst ho
      simp only [if_true, Option.some.injEq] at hg
      subst hg
      simp only [updθ, if_true]
      exact hobj hvr
    · rw [if_neg ho] at hg
      simp only [updθ, if_neg ho]
      exact (hs.objs o y hg).mono hv hle (fun hy b hb => hw b ((hs.objs o y hg).lt hy hb))
  · rw [Heap.get_set] at hg hg'
    by_cases ho : o = k
    · subst ho
      rw [if_neg (Ne.symm hne')] at hg'
      simp only [updθ, if_true] at hb
      simp only [updθ, if_neg (Ne.symm hne')] at hb'
      have h1 := hf b hb
      have h2 := (hs.objs o' y' hg').lt hy' hb'
      omega
    · rw [if_neg ho] at hg
      simp only [updθ, if_neg ho] at hb
      by_cases ho' : o' = k
      · subst ho'
        simp only [updθ, if_true] at hb'
        have h1 := hf b hb'
        have h2 := (hs.objs o y hg).lt hy hb
        omega
      · rw [if_neg ho'] at hg'
        simp only [updθ, if_neg ho'] at hb'
        exact hs.inj o o' y y' hg hg' hy hy' hne' b hb hb'
theorem St.add {c : Ctx} {H : Heap} {θ : Nat → Value} {w w' : World} {sl : List AV} {a : Act} (hs : St c H θ w sl a) {k : Nat} {x : Obj} {val : Value} (hk : ¬ H.ref k)
    (hw : ∀ b, b < w.heap.size → w'.heap[b]? = w.heap[b]?) (hz : w.heap.size ≤ w'.heap.size) (hf : ∀ b, blk val = some b → w.heap.size ≤ b)
    (hobj : (∀ y u, VR H θ w (vis c H θ w) y u → VR (H.set k x) (updθ θ k val) w' (vis c (H.set k x) (updθ θ k val) w') y u) → ObjR c (H.set k x) (updθ θ k val) w' x val) :
    St c (H.set k x) (updθ θ k val) w' sl a ∧ (∀ y u, VR H θ w (vis c H θ w) y u → VR (H.set k x) (updθ θ k val) w' (vis c (H.set k x) (updθ θ k val) w') y u) ∧ HLe H θ (H.set k x) (updθ θ k val) :=
  have h := hs.sim.add hk hw hz hf hobj
  ⟨⟨h.1, hs.defers, hs.size, fun i y v h1 h2 => h.2.1 y v (hs.vals i y v h1 h2)⟩, h.2⟩
theorem HSim.turn {c : Ctx} {H : Heap} {θ : Nat → Value} {w w' : World} (hs : HSim c H θ w) {k : Nat} {x0 x : Obj} {val : Value} (hg0 : H.get k = some x0) (hx0 : x0.live = true) (hx : x.live = true)
    (hw : ∀ b, b < w.heap.size → blk (θ k) ≠ some b → w'.heap[b]? = w.heap[b]?) (hz : w.heap.size ≤ w'.heap.size) (hf : ∀ b, blk val = some b → blk (θ k) = some b ∨ w.heap.size ≤ b)
    (hevo : x0.evo x) (hsame : x0.rlen = x.rlen → val = θ k)
    (hobj : (∀ y u, VR H θ w (vis c H θ w) y u → VR (H.set k x) (updθ θ k val) w' (vis c (H.set k x) (updθ θ k val) w') y u) → ObjR c (H.set k x) (updθ θ k val) w' x val) :
    HSim c (H.set k x) (updθ θ k val) w' ∧ (∀ y u, VR H θ w (vis c H θ w) y u → VR (H.set k x) (updθ θ k val) w' (vis c (H.set k x) (updθ θ k val) w') y u) ∧ HLe H θ (H.set k x) (updθ θ k val) := by
  have hle : HLe H θ (H.set k x) (updθ θ k val) := by
    refine ⟨fun o ho => Heap.ref_set ho, fun o x' ho h => ?_⟩
    rw [Heap.get_set] at h
    by_cases hok : o = k
    · subst hok
      simp only [if_true, Option.some.injEq] at h
      subst h
      exact ⟨x0, hg0, hevo, fun he => by simp only [updθ, if_true]; exact hsame he⟩
    · rw [if_neg hok] at h
      exact ⟨x', h, x'.evo_refl, fun _ => by simp [updθ, hok]⟩
  have hown' : ∀ b, own (H.set k x) (updθ θ k val) b → own H θ b ∨ w.heap.size ≤ b := by
    rintro b ⟨o, y, hg, hy, hbl⟩
    rw [Heap.get_set] at hg
    by_cases ho : o = k
    · subst ho
      simp only [updθ, if_true] at hbl
      rcases hf b hbl with h | h
      · exact .inl ⟨o, x0, hg0, hx0, h⟩
      · exact .inr h
    · rw [if_neg ho] at hg
      simp only [updθ, if_neg ho] at hbl
      exact .inl ⟨o, y, hg, hy, hbl⟩
  have hv : ∀ b, vis c H θ w b → vis c (H.set k x) (updθ θ k val) w' b ∧ w'.heap[b]? = w.heap[b]? := fun b ⟨h1, h2, h3⟩ => by
    refine ⟨⟨by omega, fun h => ?_, h3⟩, hw b h1 (fun h => h2 ⟨k, x0, hg0, hx0, h⟩)⟩
    rcases hown' b h with h | h
    · exact h2 h
    · omega
  have hvr : ∀ y u, VR H θ w (vis c H θ w) y u → VR (H.set k x) (updθ θ k val) w' (vis c (H.set k x) (updθ θ k val) w') y u := fun y u h => h.mono hv hle
  refine ⟨⟨Nat.le_trans hs.size hz, fun o y hg => ?_, fun o o' y y' hg hg' hy hy' hne' b hb hb' => ?_⟩, hvr, hle⟩
  · rw [Heap.get_set] at hg
    by_cases ho : o = k
    · subst ho
      simp only [if_true, Option.some.injEq] at hg
      subst hg
      simp only [updθ, if_true]
      exact hobj hvr
    · rw [if_neg ho] at hg
      simp only [updθ, if_neg ho]
      exact (hs.objs o y hg).mono hv hle (fun hy b hb => hw b ((hs.objs o y hg).lt hy hb) (hs.inj o k y x0 hg hg0 hy hx0 ho b hb))
  · rw [Heap.get_set] at hg hg'
    by_cases ho : o = k
    · subst ho
      rw [if_neg (Ne.symm hne')] at hg'
      simp only [updθ, if_true] at hb
      simp only [updθ, if_neg (Ne.symm hne')] at hb'
      have h2 := (hs.objs o' y' hg').lt hy' hb'
      rcases hf b hb with h1 | h1
      · exact hs.inj o o' x0 y' hg0 hg' hx0 hy' hne' b h1 hb'
      · omega
    · rw [if_neg ho] at hg
      simp only [updθ, if_neg ho] at hb
      by_cases ho' : o' = k
      · subst ho'
        simp only [updθ, if_true] at hb'
        have h2 := (hs.objs o y hg).lt hy hb
        rcases hf b hb' with h1 | h1
        · exact hs.inj o o' y x0 hg hg0 hy hx0 ho b hb h1
        · omega
      · rw [if_neg ho'] at hg'
        simp only [updθ, if_neg ho'] at hb'
        exact hs.inj o o' y y' hg hg' hy hy' hne' b hb hb'
end Go.Ab
