/-
  One text of the proof (own work): contracts of functions of the program, by the abstract machine.
-/
import Derived.Test.YtmcgfohokniepaaAbLaw
import Derived.Test.YtmcgfohokniepaaK0
import Derived.Test.YtmcgfohokniepaaRows
set_option linter.unusedVariables false
set_option linter.unusedSimpArgs false
namespace Go.Ab
open Go Go.RowKit Go.Proofs
open Go.Proofs.Ytmcgfohokniepaa
set_option maxRecDepth 4000
mutual
theorem bulk_le {H : Type} : ∀ d : DataW H, bulk d ≤ Rows.uptoBulk d
  | .lit l => by cases l <;> simp [bulk, Rows.uptoBulk]
  | .nil => by simp [bulk, Rows.uptoBulk]
  | .ptr d => by have := bulk_le d; simp only [bulk, Rows.uptoBulk]; omega
  | .slice a b => by have := bulkAll_le a; have := bulkAll_le b; simp only [bulk, Rows.uptoBulk]; omega
  | .agg a => by have := bulkAll_le a; simp only [bulk, Rows.uptoBulk]; omega
  | .iface _ d => by have := bulk_le d; simp only [bulk, Rows.uptoBulk]; omega
  | .map es => by simp [bulk, Rows.uptoBulk]
  | .held _ => by simp [bulk, Rows.uptoBulk]
theorem bulkAll_le {H : Type} : ∀ l : List (DataW H), bulkAll l ≤ Rows.uptoBulkAll l
  | [] => by simp [bulkAll, Rows.uptoBulkAll]
  | d :: r => by have := bulk_le d; have := bulkAll_le r; simp only [bulkAll, Rows.uptoBulkAll]; omega
end
theorem trodAll_len {H : Type} {enc : TypeId × Value → H} {P : Program} {W : World} : ∀ (ts : List TypeId) (vs : List Value) (ds : List (DataW H)) (ps : List MemPlace), DataW.TrodAll enc P W 0 (fun _ => true) true ts vs ds ps → ds.length = ts.length
  | [], vs, ds, ps, h => by
    obtain ⟨rfl, rfl, rfl⟩ := ChangeShapes.trodAll_nil h
    rfl
  | t :: ts, vs, ds, ps, h => by
    obtain ⟨v, vs', d, ds', p, q, rfl, rfl, rfl, h1, h2⟩ := ChangeShapes.trodAll_cons h
    simp [trodAll_len ts vs' ds' q h2]
theorem list_choose {α β γ : Type} {f : α → γ} {g : β → γ} : ∀ (ls : List α), (∀ c ∈ ls, ∃ x, f c = g x) → ∃ l : List β, ls.map f = l.map g ∧ l.length = ls.length
  | [], _ => ⟨[], rfl, rfl⟩
  | c :: ls, h => by
    obtain ⟨x, hx⟩ := h c List.mem_cons_self
    obtain ⟨l, h1, h2⟩ := list_choose ls fun c hc => h c (List.mem_cons_of_mem _ hc)
    exact ⟨x :: l, by simp [hx, h1], by simp [h2]⟩
theorem has_int {n : Nat} {cs : List D} (h : HasTy n (.int .i64) cs) : ∃ x : Int, (Ty.int .i64).pack cs = i64 x := by
  obtain ⟨x, _, rfl⟩ := h
  exact ⟨x, rfl⟩
theorem has_str {n : Nat} {cs : List D} (h : HasTy n .str cs) : ∃ s : List UInt8, s.length ≤ n ∧ Ty.str.pack cs = .str s := by
  obtain ⟨s, hl, rfl⟩ := h
  exact ⟨s, hl, rfl⟩
theorem has_s {n : Nat} {xs : List D} (h : HasTys n [.str] xs) : ∃ s : List UInt8, s.length ≤ n ∧ xs = [.str s] := by
  simp only [HasTys] at h
  obtain ⟨c1, _, h1, rfl, rfl⟩ := h
  obtain ⟨s, hl, e1⟩ := has_str h1
  exact ⟨s, hl, by rw [e1]⟩
theorem laid51 : laidOutB Try.prog = true := by kernel_rfl
theorem own51 : ownKnob Try.prog.godebug = none := by kernel_rfl
end Go.Ab
