/-
  Each operation on abstract states stands for the model's own (own work).
-/
import Derived.Test.YtmcgfohokniepaaAbOps
set_option linter.unusedVariables false
set_option linter.unusedSimpArgs false
namespace Go.Ab
open Go Go.RowKit

section
variable {H : Heap} {θ : Nat → Value} {w : World} {B : Nat → Prop}

theorem cav1_sound (v : Value) : VR H θ w B (cav1 v) v := by
  cases v with
  | bool b => exact .data _ _ (.bool b)
  | int k n => exact .data _ _ (.int k n)
  | string s => exact .data _ _ (by have := DR.str (w := w) (B := B) s.data.toList; simpa using this)
  | pointer a => cases a with
    | none => exact .data _ _ .nilp
    | some a => exact .junk _
  | slice a n c =>
    cases a with
    | some a => exact .junk _
    | none =>
      by_cases h : n = 0 ∧ c = 0
      · obtain ⟨rfl, rfl⟩ := h; exact .nils
      · have : cav1 (.slice none n c) = .junk := by
          unfold cav1
          split <;> simp_all
        rw [this]
        exact .junk _
  | map b => cases b with
    | none => exact .data _ _ .nilmap
    | some b => exact .junk _
  | _ => exact .junk _

theorem dat1_some {x : AV} {d : D} (h : x.dat1 = some d) : x = .data d ∧ d.one = true := by
  cases x <;> simp only [AV.dat1] at h <;> try cases h
  split at h
  · rename_i d' h1; simp only [Option.some.injEq] at h; subst h; exact ⟨rfl, h1⟩
  · cases h
theorem allDat_some {l : List AV} {ds : List D} (h : allDat l = some ds) : l = ds.map .data ∧ ∀ d ∈ ds, d.one = true := by
  induction l generalizing ds with
  | nil => simp only [allDat, Option.some.injEq] at h; subst h; simp
  | cons x r ih =>
    simp only [allDat] at h
    split at h
    · rename_i d ds' h1 h2
      simp only [Option.some.injEq] at h
      subst h
      obtain ⟨rfl, ho⟩ := dat1_some h1
      obtain ⟨rfl, hh⟩ := ih h2
      exact ⟨rfl, fun d hd => by
        rcases List.mem_cons.1 hd with rfl | hd
        · exact ho
        · exact hh d hd⟩
    · cases h

theorem VR.data_inv {d : D} {v : Value} (h : VR H θ w B (.data d) v) : DR w B d v := by cases h; assumption

theorem mkAgg_sound {l : List AV} {vs : Array Value} (h : VR H θ w B (.agg l) (.agg vs)) : VR H θ w B (mkAgg l) (.agg vs) := by
  unfold mkAgg
  split
  · rename_i ds hd
    obtain ⟨rfl, ho⟩ := allDat_some hd
    cases h with
    | agg _ _ u hz hv hh =>
      simp only [List.length_map] at hz hv
      exact .data _ _ (.agg ds vs u hz ho (fun i hi => (hv i hi).1) (fun i hi => by
        have := hh i (by simpa using hi)
        simp only [List.getElem_map] at this
        exact this.data_inv))
  · exact h

theorem cav_sound (v : Value) : VR H θ w B (cav v) v := by
  cases v with
  | agg cs =>
    simp only [cav]
    split
    · rename_i ho
      refine mkAgg_sound (.agg _ cs (fun i => cs.getD i undef) (by simp) (fun i hi => ?_) (fun i hi => ?_))
      · simp only [List.length_map, Array.length_toList] at hi
        have : cs[i]? = some (cs.getD i undef) := by simp [hi]
        refine ⟨this, ?_⟩
        simp only [List.all_eq_true] at ho
        have := ho (cs.getD i undef) (by simp [hi])
        exact this
      · simp only [List.length_map, Array.length_toList] at hi
        simp only [List.getElem_map, Array.getElem_toList]
        have : cs.getD i undef = cs[i] := by simp [hi]
        rw [this]
        exact cav1_sound _
    · exact .junk _
  | _ => simp only [cav]; exact cav1_sound _

theorem aev_sound {c : Ctx} {sl : List AV} {a : Act} (hs : St c H θ w sl a) (x : Operand) : VR H θ w (vis c H θ w) (aev sl x) (a.eval x) := by
  cases x with
  | tmp t =>
    simp only [aev, Act.eval]
    rcases Nat.lt_or_ge t sl.length with h | h
    · have h2 : t < a.tmps.size := by rw [hs.size]; exact h
      have h1 := hs.vals t sl[t] a.tmps[t] (by simp [h]) (by simp [h2])
      simpa [List.getD, h, h2] using h1
    · rw [List.getD_eq_getElem?_getD, List.getElem?_eq_none h]
      exact .junk _
  | const v => exact cav_sound v
  | func f => exact .data _ _ (.clo f [] #[] (fun _ => undef) rfl (fun i hi => by simp at hi) (fun i hi => by simp at hi))
  | global g => exact .junk _

theorem cells_sound {x : AV} {v : Value} {cs : List AV} (h : VR H θ w B x v) (hc : x.cells = some cs) :
    v.cells.size = cs.length ∧ ∀ i (hi : i < cs.length) u, v.cells[i]? = some u → VR H θ w B (cs[i]) u ∧ u.oneCell' = true := by
  have one : ∀ (y : AV), VR H θ w B y v → v.oneCell' = true → cs = [y] → v.cells.size = cs.length ∧ ∀ i (hi : i < cs.length) u, v.cells[i]? = some u → VR H θ w B (cs[i]) u ∧ u.oneCell' = true := by
    rintro y hy ho rfl
    have hv : v.cells = #[v] := by cases v <;> simp_all [Value.cells, Value.oneCell']
    rw [hv]
    refine ⟨rfl, fun i hi u hu => ?_⟩
    simp only [List.length_singleton] at hi
    obtain rfl : i = 0 := by omega
    simp at hu
    subst hu
    exact ⟨hy, ho⟩
  cases h with
  | data d v h =>
    cases h with
    | agg ds vs u hz ho hv hh =>
      simp only [AV.cells, Option.some.injEq] at hc
      subst hc
      simp only [Value.cells, List.length_map]
      refine ⟨hz, fun i hi x hx => ?_⟩
      have h1 := hv i hi
      rw [hx] at h1
      simp only [Option.some.injEq] at h1
      subst h1
      have h2 := hh i hi
      exact ⟨by simpa using VR.data _ _ h2, h2.oneCell (ho _ (List.getElem_mem hi))⟩
    | tup _ _ _ _ _ _ => cases hc
    | bool b => simp only [AV.cells, Option.some.injEq] at hc; exact one _ (.data _ _ (.bool b)) rfl hc.symm
    | int k n => simp only [AV.cells, Option.some.injEq] at hc; exact one _ (.data _ _ (.int k n)) rfl hc.symm
    | str s => simp only [AV.cells, Option.some.injEq] at hc; exact one _ (.data _ _ (.str s)) rfl hc.symm
    | nilp => simp only [AV.cells, Option.some.injEq] at hc; exact one _ (.data _ _ .nilp) rfl hc.symm
    | empty ao cap => simp only [AV.cells, Option.some.injEq] at hc; exact one _ (.data _ _ (.empty ao cap)) rfl hc.symm
    | list l a cap sz u hb h1 hs ho hm h => simp only [AV.cells, Option.some.injEq] at hc; exact one _ (.data _ _ (.list l a cap sz u hb h1 hs ho hm h)) rfl hc.symm
    | ref cs a u hb ho hm h => simp only [AV.cells, Option.some.injEq] at hc; exact one _ (.data _ _ (.ref cs a u hb ho hm h)) rfl hc.symm
    | clo f cs vs u hz hv h => simp only [AV.cells, Option.some.injEq] at hc; exact one _ (.data _ _ (.clo f cs vs u hz hv h)) rfl hc.symm
    | nilmap => simp only [AV.cells, Option.some.injEq] at hc; exact one _ (.data _ _ .nilmap) rfl hc.symm
    | map ks vs b clock es hb hw hk hv h1 h2 => simp only [AV.cells, Option.some.injEq] at hc; exact one _ (.data _ _ (.map ks vs b clock es hb hw hk hv h1 h2)) rfl hc.symm
  | junk v => cases hc
  | nils => simp only [AV.cells, Option.some.injEq] at hc; exact one _ .nils rfl hc.symm
  | ptr o off v hv hr h => simp only [AV.cells, Option.some.injEq] at hc; exact one _ (.ptr o off v hv hr h) hv hc.symm
  | row o n v hv hr h => simp only [AV.cells, Option.some.injEq] at hc; exact one _ (.row o n v hv hr h) hv hc.symm
  | mref o v hv hr h => simp only [AV.cells, Option.some.injEq] at hc; exact one _ (.mref o v hv hr h) hv hc.symm
  | rref o n i off v hv hr h => simp only [AV.cells, Option.some.injEq] at hc; exact one _ (.rref o n i off v hv hr h) hv hc.symm
  | agg l vs u hz hv hh =>
    simp only [AV.cells, Option.some.injEq] at hc
    subst hc
    simp only [Value.cells]
    refine ⟨hz, fun i hi x hx => ?_⟩
    have h1 := hv i hi
    rw [hx] at h1
    simp only [Option.some.injEq] at h1
    obtain ⟨rfl, ho⟩ := h1
    exact ⟨hh i hi, ho⟩
  | tup l vs u hz hv hh => cases hc
  | fn f l vs u hz hv hh => simp only [AV.cells, Option.some.injEq] at hc; exact one _ (.fn f l vs u hz hv hh) rfl hc.symm
end
end Go.Ab
