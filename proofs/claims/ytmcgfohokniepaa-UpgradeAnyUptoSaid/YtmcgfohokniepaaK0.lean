/-
  One text of the proof (own work): contracts of functions of the program, by the abstract machine.
-/
import Derived.Test.YtmcgfohokniepaaTy51
import Derived.Test.YtmcgfohokniepaaAbEval
import Derived.Test.YtmcgfohokniepaaAbEval
set_option linter.unusedVariables false
set_option linter.unusedSimpArgs false
namespace Go.Ab
open Go Go.RowKit Go.Proofs
set_option maxRecDepth 4000
set_option maxHeartbeats 1000000

theorem mixedOK : Try.prog.follows .mixedOrders = true := by kernel_rfl
@[go_sem] abbrev i64 (n : Int) : D := .int .i64 n
@[go_sem] abbrev u64 (n : Int) : D := .int .u64 n
@[go_sem] abbrev u8 (n : Int) : D := .int .u8 n
abbrev ints (l : List Int) : D := .list (l.map i64)
theorem i64_inj (a b : Int) (h : i64 a = i64 b) : a = b := by simpa [i64] using h
theorem u64_inj (a b : Int) (h : u64 a = u64 b) : a = b := by simpa [u64] using h
/-- A list over the first numbers. -/
def tab (n : Nat) (f : Nat → Int) : List Int := (List.range n).map f
theorem tab_len (n : Nat) (f : Nat → Int) : (tab n f).length = n := by simp [tab]
theorem tab_get {n : Nat} {f : Nat → Int} {v : Nat} (h : v < (tab n f).length) : (tab n f)[v] = f v := by simp [tab]
theorem tab_getD {n : Nat} {f : Nat → Int} {v : Nat} (h : v < n) : (tab n f).getD v 0 = f v := by
  rw [List.getD_eq_getElem?_getD, List.getElem?_eq_getElem (by rw [tab_len]; exact h), Option.getD_some, tab_get]
theorem tab_set {n : Nat} {f : Nat → Int} {v : Nat} (x : Int) : (tab n f).set v x = tab n fun u => if u = v then x else f u := by
  refine List.ext_getElem (by simp [tab]) fun i h1 h2 => ?_
  rw [List.getElem_set]
  simp only [tab, List.getElem_map, List.getElem_range]
  by_cases h : v = i
  · simp [h]
  · simp [h, Ne.symm h]
theorem tab_congr {n : Nat} {f g : Nat → Int} (h : ∀ v, v < n → f v = g v) : tab n f = tab n g := List.map_congr_left fun v hv => h v (List.mem_range.1 hv)
def Γ0 : FuncId → Option CSpec := fun _ => none
theorem Γ0_ok : ∀ f s, Γ0 f = some s → SpecOK Try.prog f s := fun _ _ h => by cases h
@[go_sem] theorem dec_true {h : Decidable True} : @decide True h = true := by simp
theorem wrapu_in {n : Int} (h : 0 ≤ n) (h' : n < 18446744073709551616) : IntKind.wrap .u64 n = n := by
  simp only [IntKind.wrap, IntKind.bits, IntKind.signed, Bool.false_and, Bool.false_eq_true, if_false]
  exact Int.emod_eq_of_lt h (by simpa using h')
end Go.Ab
