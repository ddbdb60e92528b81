/-
  One text of the proof (own work): contracts of functions of the program, by the abstract machine.
-/
import Derived.Test.YtpecnbkfahekdaaAbLaw
import Derived.Test.YtpecnbkfahekdaaTy18
import Derived.Test.YtpecnbkfahekdaaA1
import Derived.Test.YtpecnbkfahekdaaA2
import Derived.Test.YtpecnbkfahekdaaRows
set_option linter.unusedVariables false
set_option linter.unusedSimpArgs false
namespace Go.Ab
open Go Go.RowKit Go.Proofs
open Go.Proofs.Ytpecnbkfahekdaa
set_option maxRecDepth 4000
mutual
theorem bulk_le {H : Type} : ∀ d : DataW H, bulk d ≤ Rows.uptoBulk d
  | .lit l => by cases l <;> simp [bulk, Rows.uptoBulk]
  | .nil => by simp [bulk, Rows.uptoBulk]
  | .ptr d => by have := bulk_le d; simp only [bulk, Rows.uptoBulk]; omega
  | .slice a b => by have := bulkAll_le a; have := bulkAll_le b; simp only [bulk, Rows.uptoBulk]; omega
  | .agg a => by have := bulkAll_le a; simp only [bulk, Rows.uptoBulk]; omega
  | .iface _ d => by have := bulk_le d; simp only [bulk, Rows.uptoBulk]; omega
  | .map es => by simp [bulk, Rows.uptoBulk]
  | .held _ => by simp [bulk, Rows.uptoBulk]
theorem bulkAll_le {H : Type} : ∀ l : List (DataW H), bulkAll l ≤ Rows.uptoBulkAll l
  | [] => by simp [bulkAll, Rows.uptoBulkAll]
  | d :: r => by have := bulk_le d; have := bulkAll_le r; simp only [bulkAll, Rows.uptoBulkAll]; omega
end
theorem trodAll_len {H : Type} {enc : TypeId × Value → H} {P : Program} {W : World} : ∀ (ts : List TypeId) (vs : List Value) (ds : List (DataW H)) (ps : List MemPlace), DataW.TrodAll enc P W 0 (fun _ => true) true ts vs ds ps → ds.length = ts.length
  | [], vs, ds, ps, h => by
    obtain ⟨rfl, rfl, rfl⟩ := ChangeShapes.trodAll_nil h
    rfl
  | t :: ts, vs, ds, ps, h => by
    obtain ⟨v, vs', d, ds', p, q, rfl, rfl, rfl, h1, h2⟩ := ChangeShapes.trodAll_cons h
    simp [trodAll_len ts vs' ds' q h2]
theorem list_choose {α β γ : Type} {f : α → γ} {g : β → γ} : ∀ (ls : List α), (∀ c ∈ ls, ∃ x, f c = g x) → ∃ l : List β, ls.map f = l.map g ∧ l.length = ls.length
  | [], _ => ⟨[], rfl, rfl⟩
  | c :: ls, h => by
    obtain ⟨x, hx⟩ := h c List.mem_cons_self
    obtain ⟨l, h1, h2⟩ := list_choose ls fun c hc => h c (List.mem_cons_of_mem _ hc)
    exact ⟨x :: l, by simp [hx, h1], by simp [h2]⟩
def tyE : Ty := .struct [.int .i64, .int .i64, .int .i64]
def tyG : Ty := .struct [.slice .str, .slice tyE]
theorem has_edge {n : Nat} {cs : List D} (h : HasTy n tyE cs) : ∃ e : Edge, tyE.pack cs = eD e := by
  simp only [tyE, HasTy, HasTyL] at h
  obtain ⟨_, _, ⟨a, _, rfl⟩, ⟨_, _, ⟨b, _, rfl⟩, ⟨_, _, ⟨c, _, rfl⟩, rfl, rfl⟩, rfl⟩, rfl⟩ := h
  exact ⟨⟨a, b, c⟩, rfl⟩
theorem has_graph {n : Nat} {cs : List D} (h : HasTy n tyG cs) : ∃ g : Graph, tyG.pack cs = gD g ∧ g.nodes.length ≤ n ∧ g.edges.length ≤ n := by
  simp only [tyG, HasTy, HasTyL] at h
  obtain ⟨_, _, ⟨ls, hl, hs, rfl⟩, ⟨_, _, ⟨es, he, hes, rfl⟩, rfl, rfl⟩, rfl⟩ := h
  obtain ⟨l, h1, h2⟩ := list_choose (f := Ty.str.pack) (g := D.str) ls fun c hc => by
    obtain ⟨s, _, rfl⟩ := hs c hc
    exact ⟨s, rfl⟩
  obtain ⟨m, h3, h4⟩ := list_choose (f := tyE.pack) (g := eD) es fun c hc => has_edge (hes c hc)
  refine ⟨⟨l, m⟩, ?_, by simp only [h2]; exact hl, by simp only [h4]; exact he⟩
  simp only [Ty.pack, tyG, List.singleton_append, List.append_nil, h1, h3, gD]
theorem has_int {n : Nat} {cs : List D} (h : HasTy n (.int .i64) cs) : ∃ x : Int, (Ty.int .i64).pack cs = i64 x := by
  obtain ⟨x, _, rfl⟩ := h
  exact ⟨x, rfl⟩
theorem has_gii {n : Nat} {xs : List D} (h : HasTys n [tyG, .int .i64, .int .i64] xs) : ∃ (g : Graph) (a b : Int), xs = [gD g, i64 a, i64 b] ∧ g.nodes.length ≤ n ∧ g.edges.length ≤ n := by
  simp only [HasTys] at h
  obtain ⟨c1, _, h1, ⟨c2, _, h2, ⟨c3, _, h3, rfl, rfl⟩, rfl⟩, rfl⟩ := h
  obtain ⟨g, e1, b1, b2⟩ := has_graph h1
  obtain ⟨a, e2⟩ := has_int h2
  obtain ⟨b, e3⟩ := has_int h3
  exact ⟨g, a, b, by rw [e1, e2, e3], b1, b2⟩
theorem has_g {n : Nat} {xs : List D} (h : HasTys n [tyG] xs) : ∃ g : Graph, xs = [gD g] ∧ g.nodes.length ≤ n ∧ g.edges.length ≤ n := by
  simp only [HasTys] at h
  obtain ⟨c1, _, h1, rfl, rfl⟩ := h
  obtain ⟨g, e1, b1, b2⟩ := has_graph h1
  exact ⟨g, by rw [e1], b1, b2⟩
theorem has_gi {n : Nat} {xs : List D} (h : HasTys n [tyG, .int .i64] xs) : ∃ (g : Graph) (a : Int), xs = [gD g, i64 a] ∧ g.nodes.length ≤ n ∧ g.edges.length ≤ n := by
  simp only [HasTys] at h
  obtain ⟨c1, _, h1, ⟨c2, _, h2, rfl, rfl⟩, rfl⟩ := h
  obtain ⟨g, e1, b1, b2⟩ := has_graph h1
  obtain ⟨a, e2⟩ := has_int h2
  exact ⟨g, a, by rw [e1, e2], b1, b2⟩
theorem laid18 : laidOutB Try.prog = true := by kernel_rfl
theorem own18 : ownKnob Try.prog.godebug = none := by kernel_rfl
end Go.Ab
