/-
  Plain data and what it means that a value of the model reads as it: the first text of a small abstract machine over the model (own work).
-/
import Derived.WalkKit
set_option linter.unusedVariables false
set_option linter.unusedSimpArgs false
namespace Go.Ab
open Go Go.RowKit

/-- Plain, immutable data. -/
inductive D where
  | bool (b : Bool)
  | int (k : IntKind) (n : Int)
  | str (s : List UInt8)
  | list (l : List D)
  | nilp
  | ref (cs : List D)
  | agg (cs : List D)
  | clo (f : FuncId) (caps : List D)
  | tup (ds : List D)
  | map (ks vs : List D)
  deriving Inhabited

def D.cells : D → List D
  | .agg cs => cs
  | d => [d]
def D.one : D → Bool
  | .agg _ => false
  | .tup _ => false
  | _ => true
def flat (l : List D) : List D := l.flatMap D.cells
theorem flat_nil : flat [] = [] := rfl
theorem flat_cons (d : D) (l : List D) : flat (d :: l) = d.cells ++ flat l := rfl
theorem flat_append (l r : List D) : flat (l ++ r) = flat l ++ flat r := by simp [flat]
theorem flat_length {l : List D} {sz : Nat} (h : ∀ d ∈ l, d.cells.length = sz) : (flat l).length = l.length * sz := by
  induction l with
  | nil => simp [flat]
  | cons d l ih =>
    rw [flat_cons, List.length_append, h d (by simp), ih (fun x hx => h x (by simp [hx])), List.length_cons, Nat.succ_mul, Nat.add_comm]
theorem flat_get {l : List D} {sz : Nat} (h : ∀ d ∈ l, d.cells.length = sz) {i j : Nat} {d : D} (hd : l[i]? = some d) (hj : j < sz) :
    (flat l)[i * sz + j]? = d.cells[j]? := by
  induction l generalizing i with
  | nil => simp at hd
  | cons x l ih =>
    rw [flat_cons]
    have hx := h x (by simp)
    cases i with
    | zero =>
      simp at hd
      subst hd
      rw [Nat.zero_mul, Nat.zero_add, List.getElem?_append_left (by omega)]
    | succ i =>
      simp at hd
      rw [List.getElem?_append_right (by rw [hx, Nat.succ_mul]; omega), hx, show (i + 1) * sz + j - sz = i * sz + j from by rw [Nat.succ_mul]; omega]
      exact ih (fun y hy => h y (by simp [hy])) hd

/-- 'v reads as d' in the world 'w', through blocks that 'B' lets. -/
inductive DR (w : World) (B : Nat → Prop) : D → Value → Prop where
  | bool (b : Bool) : DR w B (.bool b) (.bool b)
  | int (k : IntKind) (n : Int) : DR w B (.int k n) (.int k n)
  | str (s : List UInt8) : DR w B (.str s) (.string ⟨s.toArray⟩)
  | nilp : DR w B .nilp (.pointer none)
  | empty (ao : Option Addr) (cap : Nat) : DR w B (.list []) (.slice ao 0 cap)
  | list (l : List D) (a : Addr) (cap sz : Nat) (u : Nat → Value) (hb : B a.block) (hc : l.length ≤ cap) (hs : ∀ d ∈ l, d.cells.length = sz)
      (ho : ∀ d ∈ flat l, d.one = true) (hm : ∀ i, i < (flat l).length → w.cell? (a.add i) = some (u i))
      (h : ∀ i (hi : i < (flat l).length), DR w B ((flat l)[i]) (u i)) : DR w B (.list l) (.slice (some a) l.length cap)
  | ref (cs : List D) (a : Addr) (u : Nat → Value) (hb : B a.block) (ho : ∀ d ∈ cs, d.one = true) (hm : ∀ i, i < cs.length → w.cell? (a.add i) = some (u i))
      (h : ∀ i (hi : i < cs.length), DR w B (cs[i]) (u i)) : DR w B (.ref cs) (.pointer (some a))
  | agg (cs : List D) (vs : Array Value) (u : Nat → Value) (hz : vs.size = cs.length) (ho : ∀ d ∈ cs, d.one = true) (hv : ∀ i, i < cs.length → vs[i]? = some (u i))
      (h : ∀ i (hi : i < cs.length), DR w B (cs[i]) (u i)) : DR w B (.agg cs) (.agg vs)
  | clo (f : FuncId) (cs : List D) (vs : Array Value) (u : Nat → Value) (hz : vs.size = cs.length) (hv : ∀ i, i < cs.length → vs[i]? = some (u i))
      (h : ∀ i (hi : i < cs.length), DR w B (cs[i]) (u i)) : DR w B (.clo f cs) (.func (.func f) #[] vs)
  | tup (cs : List D) (vs : Array Value) (u : Nat → Value) (hz : vs.size = cs.length) (hv : ∀ i, i < cs.length → vs[i]? = some (u i))
      (h : ∀ i (hi : i < cs.length), DR w B (cs[i]) (u i)) : DR w B (.tup cs) (.tuple vs)
  | nilmap : DR w B (.map [] []) (.map none)
  | map (ks vs : List D) (b clock : Nat) (es : Array MapEntry) (hb : B b) (hw : w.heap[b]? = some (.map es clock)) (hk : es.size = ks.length) (hv : es.size = vs.length)
      (h1 : ∀ i (hi : i < ks.length) e, es[i]? = some e → DR w B (ks[i]) e.key) (h2 : ∀ i (hi : i < vs.length) e, es[i]? = some e → DR w B (vs[i]) e.val) : DR w B (.map ks vs) (.map (some b))

theorem block_add (a : Addr) (n : Nat) : (a.add n).block = a.block := by unfold Addr.add; split <;> rfl
theorem add_add (a : Addr) (i j : Nat) : (a.add i).add j = a.add (i + j) := by
  unfold Addr.add
  by_cases hi : i = 0 <;> by_cases hj : j = 0 <;> simp [hi, hj, Nat.add_assoc]

theorem DR.mono {w w' : World} {B B' : Nat → Prop} {d : D} {v : Value} (h : DR w B d v) (hk : ∀ b, B b → B' b ∧ w'.heap[b]? = w.heap[b]?) : DR w' B' d v := by
  have hcell : ∀ (a : Addr) (i : Nat) (x : Value), B a.block → w.cell? (a.add i) = some x → w'.cell? (a.add i) = some x := by
    intro a i x hb hx
    rw [World.cell?_of_block (w := w) (by rw [block_add]; exact (hk _ hb).2)]
    exact hx
  induction h with
  | bool b => exact .bool b
  | int k n => exact .int k n
  | str s => exact .str s
  | nilp => exact .nilp
  | empty ao cap => exact .empty ao cap
  | list l a cap sz u hb hc hs ho hm _ ih => exact .list l a cap sz u (hk _ hb).1 hc hs ho (fun i hi => hcell a i _ hb (hm i hi)) ih
  | ref cs a u hb ho hm _ ih => exact .ref cs a u (hk _ hb).1 ho (fun i hi => hcell a i _ hb (hm i hi)) ih
  | agg cs vs u hz ho hv _ ih => exact .agg cs vs u hz ho hv ih
  | clo f cs vs u hz hv _ ih => exact .clo f cs vs u hz hv ih
  | tup cs vs u hz hv _ ih => exact .tup cs vs u hz hv ih
  | nilmap => exact .nilmap
  | map ks vs b clock es hb hw hs hv _ _ ih1 ih2 => exact .map ks vs b clock es (hk _ hb).1 ((hk _ hb).2.trans hw) hs hv ih1 ih2

theorem DR.oneCell {w : World} {B : Nat → Prop} {d : D} {v : Value} (h : DR w B d v) (ho : d.one = true) : v.oneCell' = true := by
  cases h <;> simp_all [D.one, Value.oneCell']

/-- Data without memory. -/
inductive D.Flat : D → Prop where
  | bool (b : Bool) : D.Flat (.bool b)
  | int (k : IntKind) (n : Int) : D.Flat (.int k n)
  | str (s : List UInt8) : D.Flat (.str s)
  | nilp : D.Flat .nilp
  | agg (cs : List D) (h : ∀ d ∈ cs, D.Flat d) : D.Flat (.agg cs)
  | tup (cs : List D) (h : ∀ d ∈ cs, D.Flat d) : D.Flat (.tup cs)

theorem DR.flat {w w' : World} {B B' : Nat → Prop} {d : D} {v : Value} (h : DR w B d v) (hf : d.Flat) : DR w' B' d v := by
  induction h with
  | bool b => exact .bool b
  | int k n => exact .int k n
  | str s => exact .str s
  | nilp => exact .nilp
  | empty ao cap => cases hf
  | list l a cap sz u hb hc hs ho hm _ ih => cases hf
  | ref cs a u hb ho hm _ ih => cases hf
  | agg cs vs u hz ho hv _ ih =>
    cases hf with
    | agg _ hh => exact .agg cs vs u hz ho hv (fun i hi => ih i hi (hh _ (List.getElem_mem hi)))
  | clo f cs vs u hz hv _ ih => cases hf
  | tup cs vs u hz hv _ ih =>
    cases hf with
    | tup _ hh => exact .tup cs vs u hz hv (fun i hi => ih i hi (hh _ (List.getElem_mem hi)))
  | nilmap => cases hf
  | map ks vs b clock es hb hw hs hv _ _ ih1 ih2 => cases hf

/-! What a reading tells of the value. -/
theorem DR.int_eq {w : World} {B : Nat → Prop} {k : IntKind} {n : Int} {v : Value} (h : DR w B (.int k n) v) : v = .int k n := by cases h; rfl
theorem DR.bool_eq {w : World} {B : Nat → Prop} {b : Bool} {v : Value} (h : DR w B (.bool b) v) : v = .bool b := by cases h; rfl
theorem DR.str_eq {w : World} {B : Nat → Prop} {s : List UInt8} {v : Value} (h : DR w B (.str s) v) : v = .string ⟨s.toArray⟩ := by cases h; rfl
theorem DR.agg_inv {w : World} {B : Nat → Prop} {cs : List D} {v : Value} (h : DR w B (.agg cs) v) :
    ∃ (vs : Array Value) (u : Nat → Value), v = .agg vs ∧ vs.size = cs.length ∧ (∀ d ∈ cs, d.one = true) ∧ (∀ i, i < cs.length → vs[i]? = some (u i)) ∧ ∀ i (hi : i < cs.length), DR w B (cs[i]) (u i) := by
  cases h with
  | agg _ vs u hz ho hv h => exact ⟨vs, u, rfl, hz, ho, hv, h⟩
theorem DR.ref_inv {w : World} {B : Nat → Prop} {cs : List D} {v : Value} (h : DR w B (.ref cs) v) :
    ∃ (a : Addr) (u : Nat → Value), v = .pointer (some a) ∧ B a.block ∧ (∀ d ∈ cs, d.one = true) ∧ (∀ i, i < cs.length → w.cell? (a.add i) = some (u i)) ∧ ∀ i (hi : i < cs.length), DR w B (cs[i]) (u i) := by
  cases h with
  | ref _ a u hb ho hm h => exact ⟨a, u, rfl, hb, ho, hm, h⟩
/-- A slice's reading: its length; and, where it is not empty, where its cells lie. -/
theorem DR.list_inv {w : World} {B : Nat → Prop} {l : List D} {v : Value} (h : DR w B (.list l) v) :
    ∃ (ao : Option Addr) (cap : Nat), v = .slice ao l.length cap ∧ (l = [] ∨ ∃ (a : Addr) (sz : Nat) (u : Nat → Value), ao = some a ∧ B a.block ∧ l.length ≤ cap ∧ (∀ d ∈ l, d.cells.length = sz) ∧
      (∀ d ∈ Ab.flat l, d.one = true) ∧ (∀ i, i < (Ab.flat l).length → w.cell? (a.add i) = some (u i)) ∧ ∀ i (hi : i < (Ab.flat l).length), DR w B ((Ab.flat l)[i]) (u i)) := by
  cases h with
  | empty ao cap => exact ⟨ao, cap, rfl, .inl rfl⟩
  | list _ a cap sz u hb hc hs ho hm h => exact ⟨some a, cap, rfl, .inr ⟨a, sz, u, rfl, hb, hc, hs, ho, hm, h⟩⟩
end Go.Ab
