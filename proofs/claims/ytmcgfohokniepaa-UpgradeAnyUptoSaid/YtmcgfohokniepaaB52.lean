/-
  One text of the proof (own work): contracts of functions of the program, by the abstract machine.
-/
import Derived.Test.YtmcgfohokniepaaB51
import Derived.Test.YtmcgfohokniepaaU5
set_option linter.unusedVariables false
set_option linter.unusedSimpArgs false
namespace Go.Ab
open Go Go.RowKit Go.Proofs
set_option maxRecDepth 4000
def tyN : Ty := .struct [.str, .str, .str]
def tyRw : Ty := .struct [.str, .str, .struct [.int .i64, .int .i64], .int .i64]
def tyPk : Ty := .struct [.str, .str, .int .i64]
def tyDc : Ty := .struct [.str, .str, .str, .str, .str, .str, .int .i64, .bool, .bool, .bool]
def tyDp : Ty := .struct [.str, .str]
def tyR : Ty := .struct [.slice tyRw, .slice tyPk, .slice tyDc, .slice tyDp]
theorem has_now {n : Nat} {cs : List D} (h : HasTy n tyN cs) : ∃ x : Now, tyN.pack cs = eN x := by
  simp only [tyN, HasTy, HasTyL] at h
  obtain ⟨_, _, ⟨a, _, rfl⟩, ⟨_, _, ⟨b, _, rfl⟩, ⟨_, _, ⟨c, _, rfl⟩, rfl, rfl⟩, rfl⟩, rfl⟩ := h
  exact ⟨⟨a, b, c⟩, rfl⟩
theorem has_rw {n : Nat} {cs : List D} (h : HasTy n tyRw cs) : ∃ x : Rw, tyRw.pack cs = eRw x := by
  simp only [tyRw, HasTy, HasTyL] at h
  obtain ⟨_, _, ⟨a, _, rfl⟩, ⟨_, _, ⟨b, _, rfl⟩, ⟨_, _, ⟨_, _, ⟨c, _, rfl⟩, ⟨_, _, ⟨d, _, rfl⟩, rfl, rfl⟩, rfl⟩, ⟨_, _, ⟨e, _, rfl⟩, rfl, rfl⟩, rfl⟩, rfl⟩, rfl⟩ := h
  exact ⟨⟨a, b, c, d, e⟩, rfl⟩
theorem has_pk {n : Nat} {cs : List D} (h : HasTy n tyPk cs) : ∃ x : Pk, tyPk.pack cs = ePk x := by
  simp only [tyPk, HasTy, HasTyL] at h
  obtain ⟨_, _, ⟨a, _, rfl⟩, ⟨_, _, ⟨b, _, rfl⟩, ⟨_, _, ⟨c, _, rfl⟩, rfl, rfl⟩, rfl⟩, rfl⟩ := h
  exact ⟨⟨a, b, c⟩, rfl⟩
theorem has_dp {n : Nat} {cs : List D} (h : HasTy n tyDp cs) : ∃ x : Dp, tyDp.pack cs = eDp x := by
  simp only [tyDp, HasTy, HasTyL] at h
  obtain ⟨_, _, ⟨a, _, rfl⟩, ⟨_, _, ⟨b, _, rfl⟩, rfl, rfl⟩, rfl⟩ := h
  exact ⟨⟨a, b⟩, rfl⟩
theorem has_dc {n : Nat} {cs : List D} (h : HasTy n tyDc cs) : ∃ x : Dc, tyDc.pack cs = eDc x ∧ x.q.length ≤ n := by
  simp only [tyDc, HasTy, HasTyL] at h
  obtain ⟨_, _, ⟨a, _, rfl⟩, ⟨_, _, ⟨b, _, rfl⟩, ⟨_, _, ⟨c, hc, rfl⟩, ⟨_, _, ⟨d, _, rfl⟩, ⟨_, _, ⟨e, _, rfl⟩, ⟨_, _, ⟨f, _, rfl⟩, ⟨_, _, ⟨g, _, rfl⟩, ⟨_, _, ⟨i, rfl⟩, ⟨_, _, ⟨j, rfl⟩, ⟨_, _, ⟨k, rfl⟩, rfl, rfl⟩, rfl⟩, rfl⟩, rfl⟩, rfl⟩, rfl⟩, rfl⟩, rfl⟩, rfl⟩, rfl⟩ := h
  exact ⟨⟨a, b, c, d, e, f, g, i, j, k⟩, rfl, hc⟩
theorem list_choose2 {α β γ : Type} {f : α → γ} {g : β → γ} {p : β → Prop} : ∀ (ls : List α), (∀ c ∈ ls, ∃ x, f c = g x ∧ p x) → ∃ l : List β, ls.map f = l.map g ∧ l.length = ls.length ∧ ∀ x ∈ l, p x
  | [], _ => ⟨[], rfl, rfl, fun x hx => by cases hx⟩
  | c :: ls, h => by
    obtain ⟨x, hx, hp⟩ := h c List.mem_cons_self
    obtain ⟨l, h1, h2, h3⟩ := list_choose2 ls fun c hc => h c (List.mem_cons_of_mem _ hc)
    exact ⟨x :: l, by simp [hx, h1], by simp [h2], fun y hy => by
      rcases List.mem_cons.1 hy with rfl | hy
      · exact hp
      · exact h3 y hy⟩
theorem has_rev {n : Nat} {cs : List D} (h : HasTy n tyR cs) : ∃ r : Rev, tyR.pack cs = eR r ∧ r.rvs.length ≤ n ∧ r.pks.length ≤ n ∧ r.dcs.length ≤ n ∧ r.dps.length ≤ n ∧ ∀ d ∈ r.dcs, d.q.length ≤ n := by
  simp only [tyR, HasTy, HasTyL] at h
  obtain ⟨_, _, ⟨l1, h1, k1, rfl⟩, ⟨_, _, ⟨l2, h2, k2, rfl⟩, ⟨_, _, ⟨l3, h3, k3, rfl⟩, ⟨_, _, ⟨l4, h4, k4, rfl⟩, rfl, rfl⟩, rfl⟩, rfl⟩, rfl⟩ := h
  obtain ⟨m1, e1, n1⟩ := list_choose (f := tyRw.pack) (g := eRw) l1 fun c hc => has_rw (k1 c hc)
  obtain ⟨m2, e2, n2⟩ := list_choose (f := tyPk.pack) (g := ePk) l2 fun c hc => has_pk (k2 c hc)
  obtain ⟨m3, e3, n3, p3⟩ := list_choose2 (f := tyDc.pack) (g := eDc) (p := fun d => d.q.length ≤ n) l3 fun c hc => has_dc (k3 c hc)
  obtain ⟨m4, e4, n4⟩ := list_choose (f := tyDp.pack) (g := eDp) l4 fun c hc => has_dp (k4 c hc)
  refine ⟨⟨m1, m2, m3, m4⟩, ?_, by simp only [n1]; exact h1, by simp only [n2]; exact h2, by simp only [n3]; exact h3, by simp only [n4]; exact h4, p3⟩
  simp only [Ty.pack, tyR, List.singleton_append, List.append_nil, e1, e2, e3, e4, eR]
theorem has_ns {n : Nat} {cs : List D} (h : HasTy n (.slice tyN) cs) : ∃ l : List Now, (Ty.slice tyN).pack cs = .list (l.map eN) ∧ l.length ≤ n := by
  simp only [HasTy] at h
  obtain ⟨ls, hl, hs, rfl⟩ := h
  obtain ⟨m, e, k⟩ := list_choose (f := tyN.pack) (g := eN) ls fun c hc => has_now (hs c hc)
  exact ⟨m, by simp only [Ty.pack, List.headD_cons, e], by omega⟩
theorem has_rl {n : Nat} {xs : List D} (h : HasTys n [tyR, .slice tyN] xs) (hn : n ≤ 1099511627776) : ∃ (r : Rev) (l : List Now), xs = [eR r, .list (l.map eN)] ∧ SzA r l := by
  simp only [HasTys] at h
  obtain ⟨c1, _, h1, ⟨c2, _, h2, rfl, rfl⟩, rfl⟩ := h
  obtain ⟨r, e1, b1, b2, b3, b4, b5⟩ := has_rev h1
  obtain ⟨l, e2, b6⟩ := has_ns h2
  exact ⟨r, l, by rw [e1, e2], ⟨⟨⟨by omega, by omega, by omega, by omega⟩, by omega⟩, fun d hd => Nat.le_trans (b5 d hd) hn⟩⟩
end Go.Ab
