/-
  One text of the proof (own work): contracts of functions of the program, by the abstract machine.
-/
import Derived.Test.YtmcgfohokniepaaK5
import Derived.Test.YtmcgfohokniepaaAbRun
import Derived.Lib.Bytealg
set_option linter.unusedVariables false
set_option linter.unusedSimpArgs false
namespace Go.Ab
open Go Go.RowKit Go.Proofs
set_option maxRecDepth 100000

theorem call109 (s : ByteArray) (c : Int) (w : World) :
    Calls Try.prog 109 #[.string s, .int .u8 c] w fun e w' => e = .returned (.int .i64 (Lib.indexByte s.data.toList c.toNat.toUInt8)) ∧ w' = w := by
  go_enter Try.func109, Try.ntmps109
  go_wp2
  rw [run_callFunc_extern Try.func128 (by kernel_rfl) (by kernel_rfl) (by kernel_rfl) (e := Extern.BytealgIndexByte.indexByte) (by kernel_rfl), Lib.run_indexByteString]
  simp only [Result.andThen]
  rw [Oper.upon_value]
  go_wp2
  go_ret
  exact ⟨rfl, rfl⟩
/-- The first place of a byte, or -1. -/
def g109 : List D → Option D
  | [.str s, .int .u8 c] => some (.int .i64 (Lib.indexByte s c.toNat.toUInt8))
  | _ => none
theorem f109_ok : PureOK Try.prog 109 true g109 := by
  intro ds d hd
  unfold g109 at hd
  split at hd
  · rename_i s c
    simp only [Option.some.injEq] at hd
    subst hd
    refine ⟨fun _ => .int _ _, fun w B vs hB hz hvs => ⟨⟨_, Try.func109, rfl, rfl⟩, ?_⟩⟩
    have h0 : vs[0]? = some (.string ⟨s.toArray⟩) := by
      obtain ⟨u, hu⟩ : ∃ u, vs[0]? = some u := ⟨_, Array.getElem?_eq_getElem (by simp at hz; omega)⟩
      have := hvs 0 (by simp) u hu
      rw [hu, this.str_eq]
    have h1 : vs[1]? = some (.int .u8 c) := by
      obtain ⟨u, hu⟩ : ∃ u, vs[1]? = some u := ⟨_, Array.getElem?_eq_getElem (by simp at hz; omega)⟩
      have := hvs 1 (by simp) u hu
      rw [hu, this.int_eq]
    have hv : vs = #[.string ⟨s.toArray⟩, .int .u8 c] := by
      apply Array.ext_getElem?
      intro i
      match i with
      | 0 => exact h0
      | 1 => exact h1
      | i + 2 => rw [Array.getElem?_eq_none (by simp at hz; omega), Array.getElem?_eq_none (by simp)]
    rw [hv]
    refine (call109 ⟨s.toArray⟩ c w).mono ?_
    rintro e w' ⟨rfl, rfl⟩
    exact ⟨_, rfl, .int _ _, Below.refl _ _⟩
  · cases hd
theorem pure_sub {f : FuncId} {fl : Bool} {g g' : List D → Option D} (h : PureOK Try.prog f fl g) (hs : ∀ ds d, g' ds = some d → g ds = some d) : PureOK Try.prog f fl g' := fun ds d hd => h ds d (hs ds d hd)
def eqL : List UInt8 → List UInt8 → Bool
  | [], [] => true
  | x :: r, y :: r' => Nat.beq x.toNat y.toNat && eqL r r'
  | _, _ => false
theorem eqL_eq : ∀ {a b : List UInt8}, eqL a b = true → a = b
  | [], [], _ => rfl
  | x :: r, y :: r', h => by
    simp only [eqL, Bool.and_eq_true] at h
    rw [UInt8.toNat_inj.1 (Nat.eq_of_beq_eq_true h.1), eqL_eq h.2]
  | [], _ :: _, h => by simp [eqL] at h
  | _ :: _, [], h => by simp [eqL] at h
def g57T : List D → Option D
  | [.str s] => if eqL s inD then some (.str outD) else if eqL s inE then some (.str outE) else none
  | _ => none
theorem f57T_ok : PureOK Try.prog 57 true g57T := pure_sub f57_ok fun ds d hd => by
  unfold g57T at hd
  split at hd
  · split at hd
    · rename_i h
      simp only [Option.some.injEq] at hd
      subst hd
      rw [eqL_eq h, g57_eq (by decide), sum_d]
    · split at hd
      · rename_i h
        simp only [Option.some.injEq] at hd
        subst hd
        rw [eqL_eq h, g57_eq (by decide), sum_e]
      · cases hd
  · cases hd
noncomputable def Γa : FuncId → Option CSpec := fun f => if Nat.beq f 57 then some (.pure true g57T) else if Nat.beq f 109 then some (.pure true g109) else none
theorem Γa_ok : ∀ f s, Γa f = some s → SpecOK Try.prog f s := by
  intro f s h
  unfold Γa at h
  split at h
  · rename_i hf; cases h; rw [Nat.eq_of_beq_eq_true hf]; exact f57T_ok
  split at h
  · rename_i hf; cases h; rw [Nat.eq_of_beq_eq_true hf]; exact f109_ok
  · cases h

/-! A method whose call stands among free operations: as a function of data, by the run itself. -/
noncomputable def runI (f : FuncId) (ds : List D) : Option D := match arun Try.prog Γa 3000 12 f (ds.map .data) [] with
  | some (.data (.int k n), _) => some (.int k n)
  | some (.data (.bool b), _) => some (.bool b)
  | _ => none
theorem runI_ok (f : FuncId) : PureOK Try.prog f true (runI f) := by
  have h : SpecOK Try.prog f (.pure false fun ds => match arun Try.prog Γa 3000 12 f (ds.map .data) [] with
    | some (.data d, _) => some d
    | _ => none) := pure_of_loc (arun_sound mixedOK Γa_ok 3000 12 f)
  intro ds d hd
  unfold runI at hd
  split at hd
  · rename_i k n os he
    cases hd
    refine ⟨fun _ => .int _ _, (h ds _ ?_).2⟩
    simp only [he]
  · rename_i b os he
    cases hd
    refine ⟨fun _ => .bool _, (h ds _ ?_).2⟩
    simp only [he]
  · cases hd
noncomputable def Γb : FuncId → Option CSpec := fun f => if Nat.beq f 60 then some (.pure true (runI 60)) else if Nat.beq f 59 then some (.pure true (runI 59)) else Γa f
theorem Γb_ok : ∀ f s, Γb f = some s → SpecOK Try.prog f s := by
  intro f s h
  unfold Γb at h
  split at h
  · rename_i hf; cases h; rw [Nat.eq_of_beq_eq_true hf]; exact runI_ok 60
  split at h
  · rename_i hf; cases h; rw [Nat.eq_of_beq_eq_true hf]; exact runI_ok 59
  · exact Γa_ok f s h
end Go.Ab
