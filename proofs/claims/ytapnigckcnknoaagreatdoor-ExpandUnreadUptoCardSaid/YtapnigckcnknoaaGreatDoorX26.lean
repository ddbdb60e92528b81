/-
  One text of the proof (own work): contracts of functions of the program, by the abstract machine.
-/
import Derived.Test.YtapnigckcnknoaaGreatDoorRows
import Derived.Test.YtapnigckcnknoaaGreatDoorX11
import Derived.Test.YtapnigckcnknoaaGreatDoorX25
import Derived.Test.YtapnigckcnknoaaGreatDoorX23
import Derived.Test.YtapnigckcnknoaaGreatDoorX12
import Derived.Test.YtapnigckcnknoaaGreatDoorX20
import Derived.Test.YtapnigckcnknoaaGreatDoorX16
set_option linter.unusedVariables false
set_option linter.unusedSimpArgs false
namespace Go.Ab
open Go Go.RowKit Go.Proofs
open Go.Proofs.YtapnigckcnknoaaGreatDoor
set_option maxRecDepth 4000
mutual
theorem bulk_le {H : Type} : ∀ d : DataW H, bulk d ≤ Rows.uptoBulk d
  | .lit l => by cases l <;> simp [bulk, Rows.uptoBulk]
  | .nil => by simp [bulk, Rows.uptoBulk]
  | .ptr d => by have := bulk_le d; simp only [bulk, Rows.uptoBulk]; omega
  | .slice a b => by have := bulkAll_le a; have := bulkAll_le b; simp only [bulk, Rows.uptoBulk]; omega
  | .agg a => by have := bulkAll_le a; simp only [bulk, Rows.uptoBulk]; omega
  | .iface _ d => by have := bulk_le d; simp only [bulk, Rows.uptoBulk]; omega
  | .map es => by simp [bulk, Rows.uptoBulk]
  | .held _ => by simp [bulk, Rows.uptoBulk]
theorem bulkAll_le {H : Type} : ∀ l : List (DataW H), bulkAll l ≤ Rows.uptoBulkAll l
  | [] => by simp [bulkAll, Rows.uptoBulkAll]
  | d :: r => by have := bulk_le d; have := bulkAll_le r; simp only [bulkAll, Rows.uptoBulkAll]; omega
end
theorem trodAll_len {H : Type} {enc : TypeId × Value → H} {P : Program} {W : World} : ∀ (ts : List TypeId) (vs : List Value) (ds : List (DataW H)) (ps : List MemPlace), DataW.TrodAll enc P W 0 (fun _ => true) true ts vs ds ps → ds.length = ts.length
  | [], vs, ds, ps, h => by
    obtain ⟨rfl, rfl, rfl⟩ := ChangeShapes.trodAll_nil h
    rfl
  | t :: ts, vs, ds, ps, h => by
    obtain ⟨v, vs', d, ds', p, q, rfl, rfl, rfl, h1, h2⟩ := ChangeShapes.trodAll_cons h
    simp [trodAll_len ts vs' ds' q h2]
theorem laid07 : laidOutB Tryz.prog = true := by kernel_rfl
theorem own07 : ownKnob Tryz.prog.godebug = none := by kernel_rfl
def accCells : Array Value := #[.int .u8 128, .int .u8 191, .int .u8 160, .int .u8 191, .int .u8 128, .int .u8 159, .int .u8 144, .int .u8 191, .int .u8 128, .int .u8 143, .int .u8 0, .int .u8 0, .int .u8 0, .int .u8 0, .int .u8 0, .int .u8 0, .int .u8 0, .int .u8 0, .int .u8 0, .int .u8 0, .int .u8 0, .int .u8 0, .int .u8 0, .int .u8 0, .int .u8 0, .int .u8 0, .int .u8 0, .int .u8 0, .int .u8 0, .int .u8 0, .int .u8 0, .int .u8 0]
def firstCells : Array Value := (Go.Pinned.utf8FirstZ.map fun n : Nat => Value.int .u8 (n : Int)).toArray
def layCells (cs : Array Value) : Go.Obj → Go.Obj
  | .cells _ t frozen => .cells cs t frozen
  | o => o
noncomputable def laidWorld (os : Os) : World :=
  { World.holding Tryz.prog os ⟨#[], #[], []⟩ with heap := ((World.holding Tryz.prog os ⟨#[], #[], []⟩).heap.modify 1 (layCells firstCells)).modify 2 (layCells accCells) }
def RT (ty : Ty) (n : Nat) (d : D) : Prop := ∃ cs, HasTy n ty cs ∧ d = ty.pack cs
theorem list_chooseP {α β γ : Type} {f : α → γ} {g : β → γ} {p : β → Prop} : ∀ (ls : List α), (∀ c ∈ ls, ∃ x, f c = g x ∧ p x) → ∃ l : List β, ls.map f = l.map g ∧ l.length = ls.length ∧ ∀ x ∈ l, p x
  | [], _ => ⟨[], rfl, rfl, fun x hx => by cases hx⟩
  | c :: ls, h => by
    obtain ⟨x, hx, hp⟩ := h c List.mem_cons_self
    obtain ⟨l, h1, h2, h3⟩ := list_chooseP ls fun c hc => h c (List.mem_cons_of_mem _ hc)
    exact ⟨x :: l, by simp [hx, h1], by simp [h2], fun y hy => by
      rcases List.mem_cons.1 hy with rfl | hy
      · exact hp
      · exact h3 y hy⟩
theorem has_strs {n : Nat} {cs : List D} (h : HasTy n (.slice .str) cs) : ∃ l : List Bs, cs = [.list (l.map .str)] ∧ l.length ≤ n ∧ ∀ w ∈ l, w.length ≤ n := by
  simp only [HasTy] at h
  obtain ⟨ls, hl, hs, rfl⟩ := h
  obtain ⟨m, e, k, hp⟩ := list_chooseP (f := Ty.str.pack) (g := D.str) (p := fun w : Bs => w.length ≤ n) ls fun c hc => by
    obtain ⟨s, hl, rfl⟩ := hs c hc
    exact ⟨s, rfl, hl⟩
  exact ⟨m, by rw [e], by omega, hp⟩
abbrev tyFl : Ty := .struct [.str, .str]
abbrev tySp : Ty := .struct [.str, .int .i64, .int .i64]
abbrev tyMc : Ty := .struct [.str, .slice .str, tySp]
abbrev tyTk : Ty := .struct [.int .i64, .str]
abbrev tyLn : Ty := .struct [.str, .int .i64]
abbrev tyCs : Ty := .struct [.slice tyFl, .slice tyMc, .slice tyTk, tyLn, .str]
theorem has_fl {n : Nat} {cs : List D} (h : HasTy n tyFl cs) : ∃ x : Fl, tyFl.pack cs = eFl x ∧ x.2.length ≤ n := by
  simp only [HasTy, HasTyL] at h
  obtain ⟨_, _, ⟨a, ha, rfl⟩, ⟨_, _, ⟨b, hb, rfl⟩, rfl, rfl⟩, rfl⟩ := h
  exact ⟨(a, b), rfl, hb⟩
theorem has_tk {n : Nat} {cs : List D} (h : HasTy n tyTk cs) : ∃ x : Tk, tyTk.pack cs = eTk x ∧ x.2.length ≤ n := by
  simp only [HasTy, HasTyL] at h
  obtain ⟨_, _, ⟨a, ha, rfl⟩, ⟨_, _, ⟨b, hb, rfl⟩, rfl, rfl⟩, rfl⟩ := h
  exact ⟨(a, b), rfl, hb⟩
theorem has_mc {n : Nat} {cs : List D} (h : HasTy n tyMc cs) : ∃ x : Mc, tyMc.pack cs = eMc x ∧ x.params.length ≤ n := by
  rw [HasTy] at h
  simp only [HasTyL] at h
  obtain ⟨_, _, h1, ⟨_, _, h2, ⟨_, _, h3, rfl, rfl⟩, rfl⟩, rfl⟩ := h
  obtain ⟨ps, rfl, hp, _⟩ := has_strs h2
  simp only [HasTy, HasTyL] at h1 h3
  obtain ⟨a, ha, rfl⟩ := h1
  obtain ⟨_, _, ⟨p, _, rfl⟩, ⟨_, _, ⟨x, _, rfl⟩, ⟨_, _, ⟨y, _, rfl⟩, rfl, rfl⟩, rfl⟩, rfl⟩ := h3
  exact ⟨⟨a, ps, (p, x, y)⟩, rfl, hp⟩
theorem has_sl {α : Type} {n : Nat} {ty : Ty} {e : α → D} {p : α → Prop} {cs : List D} (k : ∀ {cs : List D}, HasTy n ty cs → ∃ x : α, ty.pack cs = e x ∧ p x) (h : HasTy n (.slice ty) cs) : ∃ l : List α, cs = [.list (l.map e)] ∧ l.length ≤ n ∧ ∀ x ∈ l, p x := by
  simp only [HasTy] at h
  obtain ⟨ls, hl, hs, rfl⟩ := h
  obtain ⟨m, e1, k1, hp⟩ := list_chooseP (f := ty.pack) (g := e) (p := p) ls fun c hc => k (hs c hc)
  exact ⟨m, by rw [e1], by omega, hp⟩
end Go.Ab
namespace Go.Ab
open Go Go.RowKit Go.Proofs
set_option maxRecDepth 4000
theorem rt_case2 {n : Nat} (hn : n ≤ 1099511627776) {d : D} (h : RT tyCs n d) : ∃ (fs : List Fl) (us : List Mc) (l : List Tk) (lp : Bs) (ln : Int) (tx : Bs), ((fs.length ≤ 1099511627776 ∧ ∀ f ∈ fs, f.2.length ≤ 1099511627776) ∧ (us.length ≤ 1099511627776 ∧ ∀ m ∈ us, m.params.length ≤ 1099511627776) ∧ l.length ≤ 1099511627776 ∧ lp.length ≤ 1099511627776) ∧ d = .agg [.list (fs.map eFl), .list (us.map eMc), .list (l.map eTk), .str lp, i64 ln, .str tx] := by
  obtain ⟨cs, h, rfl⟩ := h
  rw [HasTy] at h
  simp only [HasTyL] at h
  obtain ⟨_, _, h1, ⟨_, _, h2, ⟨_, _, h3, ⟨_, _, h4, ⟨_, _, h5, rfl, rfl⟩, rfl⟩, rfl⟩, rfl⟩, rfl⟩ := h
  obtain ⟨fs, rfl, k1, k2⟩ := has_sl has_fl h1
  obtain ⟨us, rfl, k3, k4⟩ := has_sl has_mc h2
  obtain ⟨l, rfl, k5, _⟩ := has_sl has_tk h3
  simp only [HasTy, HasTyL] at h4 h5
  obtain ⟨_, _, ⟨p, hp, rfl⟩, ⟨_, _, ⟨x, _, rfl⟩, rfl, rfl⟩, rfl⟩ := h4
  obtain ⟨t, _, rfl⟩ := h5
  exact ⟨fs, us, l, p, x, t, ⟨⟨by omega, fun f hf => by have := k2 f hf; omega⟩, ⟨by omega, fun m hm => by have := k4 m hm; omega⟩, by omega, by omega⟩, rfl⟩
end Go.Ab
namespace Go.Ab
open Go Go.RowKit Go.Proofs
set_option maxRecDepth 4000
end Go.Ab
namespace Go.Ab
open Go Go.RowKit
section
variable {P : Program} {c : Ctx} {Γ : FuncId → Option CSpec}
end
end Go.Ab
namespace Go.Ab
open Go Go.RowKit
end Go.Ab
namespace Go.Ab
open Go Go.RowKit Go.Proofs
set_option maxRecDepth 100000
set_option maxHeartbeats 40000000
theorem body_rng {fs : List Fl} {s : Sp} (h : (bodyB fs s).2 = 0) : 0 ≤ s.2.1 ∧ s.2.1 ≤ s.2.2 ∧ s.2.2 ≤ 1024 := by
  unfold bodyB at h
  split at h
  · split at h
    · rename_i h1 h2
      unfold bodyR at h
      split at h
      · cases h
      · rename_i h3
        simp only [Bool.or_eq_true, decide_eq_true_eq, not_or, gt_iff_lt, Int.not_lt] at h3
        have : (linesE (findF fs s.1).1).1.length ≤ 1024 := by
          unfold linesE at h2 ⊢
          split
          · simp
          · rename_i h4
            rw [if_neg h4] at h2
            split
            · simp
            · rename_i h5
              simp only [decide_eq_true_eq, gt_iff_lt, Int.not_lt] at h5
              dsimp only
              omega
        omega
    · rename_i h1 h2
      exact absurd (by simpa using h) h2
  · cases h
end Go.Ab
namespace Go.Ab
open Go Go.RowKit Go.Proofs
set_option maxRecDepth 4000
structure ReplOK (fs : List Fl) (m : Mc) (l : List Wd) (i : Nat) (a : List (List Wd)) (r : List Wd) (b : List Tk) : Prop where
  args : argsE m (l.drop (i + 1)) = ((a, r), 0)
  body : bodyB fs m.body = (b, 0)
theorem ReplOK.eq {fs : List Fl} {m : Mc} {l : List Wd} {i : Nat} {a : List (List Wd)} {r : List Wd} {b : List Tk} (h : ReplOK fs m l i a r b) :
    replG fs m l i = if decide (((nowG m l i a r b).length : Int) > 256) then ([], 10) else (nowG m l i a r b, 0) := by
  unfold replG
  rw [h.args, h.body]
  rfl
theorem repl_ok {fs : List Fl} {m : Mc} {l : List Wd} {i : Nat} (h : (replG fs m l i).2 = 0) : ∃ a r b, ReplOK fs m l i a r b ∧ (replG fs m l i).1 = nowG m l i a r b := by
  have h0 := h
  unfold replG at h
  split at h
  · rename_i h1
    split at h
    · rename_i h2
      have h1' : (argsE m (l.drop (i + 1))).2 = 0 := by simpa using h1
      have h2' : (bodyB fs m.body).2 = 0 := by simpa using h2
      have hR : ReplOK fs m l i (argsE m (l.drop (i + 1))).1.1 (argsE m (l.drop (i + 1))).1.2 (bodyB fs m.body).1 := ⟨Prod.ext rfl h1', Prod.ext rfl h2'⟩
      refine ⟨_, _, _, hR, ?_⟩
      have e := hR.eq
      rw [e] at h0 ⊢
      split at h0
      · cases h0
      · rename_i h3
        rw [if_neg h3]
    · rename_i h2
      exact absurd (by simpa using h) h2
  · rename_i h1
    exact absurd (by simpa using h) h1
theorem line_ok {fs : List Fl} {us : List Mc} {l : List Tk} (h : (lineG fs us l).2 = 0) : ∃ A R, loopG fs us 256 (w0 l) [] = ((A, R), 0) ∧ lineG fs us l = ((A.map (·.1), setG R), 0) ∧ l.all (fun t => validB t.1 t.2) = true := by
  rw [lineG_eq] at h ⊢
  split at h
  · cases h
  · rename_i h1
    rw [if_neg h1]
    split at h
    · rename_i h2
      rw [if_pos h2]
      dsimp only at h
      refine ⟨_, _, Prod.ext rfl h, ?_, h2⟩
      rw [h]
    · cases h
end Go.Ab
namespace Go.Ab
open Go Go.RowKit Go.Proofs
set_option maxRecDepth 4000
theorem loop_err {fs : List Fl} {us : List Mc} : ∀ (k : Nat) (X : List Wd) (rd : List Sp), (loopG fs us k X rd).2 ≠ 0 → (loopG fs us k X rd).1 = ([], []) := by
  intro k
  induction k with
  | zero =>
    intro X rd h
    rw [loopG_eq] at h ⊢
    cases hf : findG us X with
    | none => rw [hf] at h; exact absurd rfl h
    | some q => rfl
  | succ k ih =>
    intro X rd h
    rw [loopG_eq] at h ⊢
    cases hf : findG us X with
    | none => rw [hf] at h; exact absurd rfl h
    | some q =>
      obtain ⟨i, m⟩ := q
      rw [hf] at h
      dsimp only at h ⊢
      split
      · rename_i h0
        rw [if_pos h0] at h
        exact ih _ _ h
      · rfl
theorem line_err {fs : List Fl} {us : List Mc} {l : List Tk} (h : (lineG fs us l).2 ≠ 0) : (lineG fs us l).1 = ([], []) := by
  rw [lineG_eq] at h ⊢
  split
  · rfl
  · rename_i h1
    rw [if_neg h1] at h
    split
    · rename_i h2
      rw [if_pos h2] at h
      dsimp only at h ⊢
      rw [loop_err _ _ _ h]
      rfl
    · rfl
theorem loop_mem {fs : List Fl} {us : List Mc} : ∀ (k : Nat) (X : List Wd) (rd : List Sp) (A : List Wd) (R : List Sp), loopG fs us k X rd = ((A, R), 0) → ∀ s ∈ R, s ∈ rd ∨ ∃ m ∈ us, s = m.body := by
  intro k
  induction k with
  | zero =>
    intro X rd A R h s hs
    rw [loopG_eq] at h
    cases hf : findG us X with
    | none =>
      rw [hf] at h
      simp only [Prod.mk.injEq, and_true] at h
      obtain ⟨rfl, rfl⟩ := h
      exact .inl hs
    | some q =>
      rw [hf] at h
      simp at h
  | succ k ih =>
    intro X rd A R h s hs
    rw [loopG_eq] at h
    cases hf : findG us X with
    | none =>
      rw [hf] at h
      simp only [Prod.mk.injEq, and_true] at h
      obtain ⟨rfl, rfl⟩ := h
      exact .inl hs
    | some q =>
      obtain ⟨i, m⟩ := q
      rw [hf] at h
      obtain ⟨hi, hm, _⟩ := findG_some hf
      dsimp only at h
      split at h
      · rcases ih _ _ _ _ h s hs with h1 | h1
        · rcases List.mem_append.1 h1 with h1 | h1
          · exact .inl h1
          · simp only [List.mem_singleton] at h1
            exact .inr ⟨m, (meant_mem hm).1, h1⟩
        · exact .inr h1
      · rename_i h0
        simp only [Prod.mk.injEq] at h
        exact absurd (by simpa using h.2) h0
theorem line_cov {fs : List Fl} {us : List Mc} {l : List Tk} (h : (lineG fs us l).2 = 0) {p : Bs} {n : Int} (hc : Cov (lineG fs us l).1.2 p n) : ∃ m ∈ us, m.body.1 = p ∧ m.body.2.1 ≤ n ∧ n < m.body.2.2 := by
  obtain ⟨A, R, h1, h2, _⟩ := line_ok h
  rw [h2] at hc
  obtain ⟨s, hs, h3⟩ := ((setG_ok R).2 p n).1 hc
  rcases loop_mem _ _ _ _ _ h1 s hs with hs | ⟨m, hm, rfl⟩
  · cases hs
  · exact ⟨m, hm, h3⟩
theorem run_take {s : Bs} {nm : Bool} : ∀ c ∈ s.take (runN s nm), runQ nm c.toNat = false := by
  induction s with
  | nil => intro c hc; simp at hc
  | cons x s ih =>
    rw [runN_cons]
    intro c hc
    by_cases hx : runQ nm x.toNat = true
    · rw [if_pos hx] at hc
      simp at hc
    · rw [if_neg hx, List.take_succ_cons] at hc
      rcases List.mem_cons.1 hc with rfl | hc
      · simpa using hx
      · exact ih c hc
theorem next_valid {s : Bs} (hs : s ≠ []) (h : (nextB s).2 = 0) : validB (nextB s).1.1 (nextB s).1.2 = true := by
  rw [← validR_eq]
  obtain ⟨c, r, rfl⟩ := List.exists_cons_of_ne_nil hs
  have h0 := h
  unfold nextB at h ⊢
  rw [List.headD_cons] at h ⊢
  by_cases h1 : lettI c.toNat = true
  · rw [if_pos h1] at h ⊢
    split
    · rename_i h2
      rw [if_pos h2] at h
      cases h
    · rename_i h2
      simp only [decide_eq_true_eq, Int.not_lt, gt_iff_lt] at h2
      show idForm _ = true
      have hq : runQ true c.toNat = false := by
        unfold runQ
        rw [h1]
        simp
      rw [runN_cons, if_neg (by rw [hq]; simp)] at h2 ⊢
      rw [List.take_succ_cons]
      have hall := run_take (s := r) (nm := true)
      unfold idForm
      dsimp only
      have hlen : (c :: r.take (runN r true)).length ≤ 32 := by
        rw [List.length_cons, List.length_take]
        have := (runN_eq r true).2
        omega
      simp only [Bool.and_eq_true, Bool.not_eq_true', decide_eq_false_iff_not]
      refine ⟨by omega, h1, ?_⟩
      rw [List.all_cons, Bool.and_eq_true]
      refine ⟨by unfold ldB; rw [h1]; rfl, ?_⟩
      rw [List.all_eq_true]
      intro x hx
      have := hall x hx
      unfold runQ at this
      unfold ldB
      cases hl : lettI x.toNat <;> cases hd : digI x.toNat <;> rw [hl, hd] at this <;> simp at this ⊢
  · rw [if_neg h1] at h ⊢
    by_cases h2 : digI c.toNat = true
    · rw [if_pos h2] at h ⊢
      split
      · rename_i h3
        rw [if_pos h3] at h
        split
        · rename_i h4
          rw [if_pos h4] at h
          cases h
        · show ((numE _).2 == 0) = true
          exact h3
      · rename_i h3
        rw [if_neg h3] at h
        exact absurd (by simpa using h) h3
    · rw [if_neg h2] at h ⊢
      split
      · rename_i h3
        rw [if_pos h3] at h
        cases h
      · rename_i h3
        show hasB symsL _ = true
        rw [hasB_iff, sym_find]
        rw [sym_find] at h3
        cases hf : symsL.find? (pfx (c :: r)) with
        | none => rw [hf] at h3; exact absurd rfl h3
        | some x => exact List.mem_of_find?_eq_some hf
theorem toksF_valid : ∀ (f : Nat) (acc : List Tk) (s : Bs), (∀ t ∈ acc, validB t.1 t.2 = true) → ∀ t ∈ (toksF f acc s).1, validB t.1 t.2 = true
  | 0, _, _, h => h
  | _ + 1, _, [], h => h
  | f + 1, acc, c :: r, h => by
    rw [toksF]
    split
    · exact toksF_valid f acc r h
    · split
      · intro t ht; cases ht
      · split
        · rename_i h3
          refine toksF_valid f _ _ fun t ht => ?_
          rcases List.mem_append.1 ht with ht | ht
          · exact h t ht
          · simp only [List.mem_singleton] at ht
            subst ht
            exact next_valid (by simp) (by simpa using h3)
        · intro t ht; cases ht
theorem toks_valid (s : Bs) : ∀ t ∈ (toksB s).1, validB t.1 t.2 = true := by
  unfold toksB
  split
  · intro t ht; cases ht
  · exact toksF_valid _ _ _ (fun t ht => by cases ht)
def AllW (Q : Tk → Prop) (l : List Wd) : Prop := ∀ w ∈ l, Q w.1
theorem repl_all {Q : Tk → Prop} {fs : List Fl} {m : Mc} {l : List Wd} {i : Nat} (hQ : ∀ b, ∀ t ∈ (bodyB fs b).1, Q t) (hl : AllW Q l) : AllW Q (replG fs m l i).1 := by
  by_cases h : (replG fs m l i).2 = 0
  · obtain ⟨a, r, b, hR, e⟩ := repl_ok h
    have hA := argsE_ok (m := m) (l := l.drop (i + 1)) (by rw [hR.args])
    rw [hR.args] at hA
    dsimp only at hA
    have hB := hQ m.body
    rw [hR.body] at hB
    rw [e]
    intro w hw
    unfold nowG at hw
    rcases List.mem_append.1 hw with hw | hw
    · exact hl w (List.mem_of_mem_take hw)
    · rcases List.mem_append.1 hw with hw | hw
      · obtain ⟨t, ht, hw⟩ := List.mem_flatMap.1 hw
        unfold substG at hw
        split at hw
        · simp only [List.mem_singleton] at hw
          rw [hw]
          exact hB t ht
        · rename_i k hatk
          obtain ⟨x, hx, rfl⟩ := List.mem_map.1 hw
          rw [List.getD_eq_getElem?_getD] at hx
          cases hk : a[k]? with
          | none => rw [hk] at hx; cases hx
          | some y =>
            rw [hk] at hx
            exact hl x (List.mem_of_mem_drop ((hA.mem y (List.mem_of_getElem? hk)).2 x hx))
      · exact hl w (List.mem_of_mem_drop (hA.suf.subset hw))
  · unfold replG at h ⊢
    split
    · rename_i h1
      rw [if_pos h1] at h
      split
      · rename_i h2
        rw [if_pos h2] at h
        split
        · intro w hw; cases hw
        · rename_i h3
          rw [if_neg h3] at h
          exact absurd rfl h
      · intro w hw; cases hw
    · intro w hw; cases hw
theorem loop_all {Q : Tk → Prop} {fs : List Fl} {us : List Mc} (hQ : ∀ b, ∀ t ∈ (bodyB fs b).1, Q t) : ∀ (k : Nat) (X : List Wd) (rd : List Sp), AllW Q X → AllW Q (loopG fs us k X rd).1.1 := by
  intro k
  induction k with
  | zero =>
    intro X rd h
    rw [loopG_eq]
    cases hf : findG us X with
    | none => exact h
    | some q => intro w hw; cases hw
  | succ k ih =>
    intro X rd h
    rw [loopG_eq]
    cases hf : findG us X with
    | none => exact h
    | some q =>
      obtain ⟨i, m⟩ := q
      dsimp only
      split
      · exact ih _ _ (repl_all hQ h)
      · intro w hw; cases hw
theorem line_all {Q : Tk → Prop} {fs : List Fl} {us : List Mc} {l : List Tk} (hQ : ∀ b, ∀ t ∈ (bodyB fs b).1, Q t) (hl : ∀ t ∈ l, Q t) (h : (lineG fs us l).2 = 0) : ∀ t ∈ (lineG fs us l).1.1, Q t := by
  obtain ⟨A, R, h1, h2, h3⟩ := line_ok h
  rw [h2]
  have hv := loop_all (us := us) hQ 256 (w0 l) [] (fun w hw => by
    obtain ⟨t, ht, rfl⟩ := List.mem_map.1 hw
    exact hl t ht)
  rw [h1] at hv
  intro t ht
  obtain ⟨w, hw, rfl⟩ := List.mem_map.1 ht
  exact hv w hw
theorem toksF_len2 : ∀ (f : Nat) (acc : List Tk) (s : Bs) (m : Nat), s.length ≤ m → (∀ t ∈ acc, t.2.length ≤ m) → ∀ t ∈ (toksF f acc s).1, t.2.length ≤ m
  | 0, _, _, _, _, h => h
  | _ + 1, _, [], _, _, h => h
  | f + 1, acc, c :: r, m, hs, h => by
    rw [toksF]
    split
    · exact toksF_len2 f acc r m (by simp at hs; omega) h
    · split
      · intro t ht; cases ht
      · split
        · rename_i h3
          have hp := next_pos (s := c :: r) (by simp) (by simpa using h3)
          refine toksF_len2 f _ _ m (by rw [List.length_drop]; omega) fun t ht => ?_
          rcases List.mem_append.1 ht with ht | ht
          · exact h t ht
          · simp only [List.mem_singleton] at ht
            subst ht
            omega
        · intro t ht; cases ht
theorem toks_len2 (s : Bs) : ∀ t ∈ (toksB s).1, t.2.length ≤ 65536 := by
  unfold toksB
  split
  · intro t ht; cases ht
  · rename_i h
    simp only [decide_eq_true_eq, gt_iff_lt, Int.not_lt] at h
    exact toksF_len2 _ _ _ _ (by omega) (fun t ht => by cases ht)
theorem tokRow_all {Q : Tk → Prop} (hQ : ∀ s, ∀ t ∈ (toksB s).1, Q t) : ∀ (R : List Bs) (acc : List Tk), (∀ t ∈ acc, Q t) → ∀ t ∈ (tokRow R acc).1, Q t
  | [], _, h => h
  | s :: R, acc, h => by
    rw [tokRow]
    split
    · refine tokRow_all hQ R _ fun t ht => ?_
      rcases List.mem_append.1 ht with ht | ht
      · exact h t ht
      · exact hQ s t ht
    · intro t ht; cases ht
theorem body_all {Q : Tk → Prop} (hQ : ∀ s, ∀ t ∈ (toksB s).1, Q t) (fs : List Fl) (b : Sp) : ∀ t ∈ (bodyB fs b).1, Q t := by
  unfold bodyB
  split
  · split
    · unfold bodyR
      split
      · intro t ht; cases ht
      · unfold bodyT
        split
        · split
          · intro t ht; cases ht
          · exact tokRow_all hQ _ _ (fun t ht => by cases ht)
        · intro t ht; cases ht
    · intro t ht; cases ht
  · intro t ht; cases ht
theorem line_tlen {fs : List Fl} {us : List Mc} {l : List Tk} (hl : ∀ t ∈ l, t.2.length ≤ 65536) (h : (lineG fs us l).2 = 0) : ∀ t ∈ (lineG fs us l).1.1, t.2.length ≤ 65536 :=
  line_all (Q := fun t => t.2.length ≤ 65536) (body_all toks_len2 fs) hl h
theorem loop_len {fs : List Fl} {us : List Mc} : ∀ (k : Nat) (X : List Wd) (rd : List Sp), X.length ≤ 256 → (loopG fs us k X rd).1.1.length ≤ 256 := by
  intro k
  induction k with
  | zero =>
    intro X rd h
    rw [loopG_eq]
    cases hf : findG us X with
    | none => exact h
    | some q => simp
  | succ k ih =>
    intro X rd h
    rw [loopG_eq]
    cases hf : findG us X with
    | none => exact h
    | some q =>
      obtain ⟨i, m⟩ := q
      dsimp only
      split
      · exact ih _ _ repl_len
      · simp
theorem line_valid {fs : List Fl} {us : List Mc} {l : List Tk} (h : (lineG fs us l).2 = 0) : allV (lineG fs us l).1.1 = true := by
  have hlen : l.length ≤ 256 := by
    rw [lineG_eq] at h
    split at h
    · cases h
    · rename_i h1
      simp only [decide_eq_true_eq, gt_iff_lt, Int.not_lt] at h1
      omega
  obtain ⟨A, R, h1, h2, h3⟩ := line_ok h
  rw [h2]
  have hv : AllW (fun t => validB t.1 t.2 = true) A := by
    have := loop_all (us := us) (body_all (Q := fun t => validB t.1 t.2 = true) toks_valid fs) 256 (w0 l) [] (fun w hw => by
      obtain ⟨t, ht, rfl⟩ := List.mem_map.1 hw
      rw [List.all_eq_true] at h3
      exact h3 t ht)
    rw [h1] at this
    exact this
  have hn : A.length ≤ 256 := by
    have := loop_len (fs := fs) (us := us) 256 (w0 l) [] (by simpa [w0] using hlen)
    rw [h1] at this
    exact this
  unfold allV
  simp only [Bool.and_eq_true, decide_eq_true_eq, List.length_map]
  refine ⟨?_, by omega⟩
  rw [List.all_eq_true]
  intro t ht
  obtain ⟨w, hw, rfl⟩ := List.mem_map.1 ht
  exact hv w hw
theorem repl_same {fs gs : List Fl} {m : Mc} {l : List Wd} {i : Nat} (h : bodyB fs m.body = bodyB gs m.body) : replG fs m l i = replG gs m l i := by
  unfold replG
  rw [h]
theorem loop_pref {fs : List Fl} {us : List Mc} : ∀ (k : Nat) (X : List Wd) (rd : List Sp) (A : List Wd) (R : List Sp), loopG fs us k X rd = ((A, R), 0) → ∀ s ∈ rd, s ∈ R := by
  intro k
  induction k with
  | zero =>
    intro X rd A R h s hs
    rw [loopG_eq] at h
    cases hf : findG us X with
    | none =>
      rw [hf] at h
      simp only [Prod.mk.injEq, and_true] at h
      obtain ⟨rfl, rfl⟩ := h
      exact hs
    | some q =>
      rw [hf] at h
      simp at h
  | succ k ih =>
    intro X rd A R h s hs
    rw [loopG_eq] at h
    cases hf : findG us X with
    | none =>
      rw [hf] at h
      simp only [Prod.mk.injEq, and_true] at h
      obtain ⟨rfl, rfl⟩ := h
      exact hs
    | some q =>
      obtain ⟨i, m⟩ := q
      rw [hf] at h
      dsimp only at h
      split at h
      · exact ih _ _ _ _ h s (List.mem_append.2 (.inl hs))
      · rename_i h0
        simp only [Prod.mk.injEq] at h
        exact absurd (by simpa using h.2) h0
theorem loop_same {fs gs : List Fl} {us : List Mc} : ∀ (k : Nat) (X : List Wd) (rd : List Sp) (A : List Wd) (R : List Sp), loopG fs us k X rd = ((A, R), 0) → (∀ s ∈ R, (bodyB fs s).2 = 0 → bodyB gs s = bodyB fs s) → loopG gs us k X rd = ((A, R), 0) := by
  intro k
  induction k with
  | zero =>
    intro X rd A R h hs
    rw [loopG_eq] at h ⊢
    cases hf : findG us X with
    | none => rw [hf] at h; exact h
    | some q => rw [hf] at h; simp at h
  | succ k ih =>
    intro X rd A R h hs
    rw [loopG_eq] at h ⊢
    cases hf : findG us X with
    | none => rw [hf] at h; exact h
    | some q =>
      obtain ⟨i, m⟩ := q
      rw [hf] at h
      dsimp only at h ⊢
      split at h
      · rename_i h0
        have h0' : (replG fs m X i).2 = 0 := by simpa using h0
        obtain ⟨a, r, b, hR, _⟩ := repl_ok h0'
        have hb : bodyB gs m.body = bodyB fs m.body := hs _ (loop_pref _ _ _ _ _ h _ (by simp)) (by rw [hR.body])
        rw [repl_same (gs := fs) hb, if_pos h0]
        exact ih _ _ _ _ h hs
      · rename_i h0
        simp only [Prod.mk.injEq] at h
        exact absurd (by simpa using h.2) h0
theorem line_same {fs gs : List Fl} {us : List Mc} {l : List Tk} (h : (lineG fs us l).2 = 0) (hb : ∀ s : Sp, (∀ n, s.2.1 ≤ n → n < s.2.2 → Cov (lineG fs us l).1.2 s.1 n) → (bodyB fs s).2 = 0 → bodyB gs s = bodyB fs s) : lineG gs us l = lineG fs us l := by
  obtain ⟨A, R, h1, h2, h3⟩ := line_ok h
  have h4 := loop_same (gs := gs) 256 _ _ _ _ h1 fun s hs h5 => hb s (fun n k1 k2 => by
    rw [h2]
    exact ((setG_ok R).2 _ _).2 ⟨s, hs, rfl, k1, k2⟩) h5
  rw [h2]
  rw [lineG_eq] at h2 ⊢
  split
  · rename_i h6
    rw [if_pos h6] at h2
    exact absurd (show (10 : Int) = 0 from congrArg Prod.snd h2) (by decide)
  · first | rw [if_pos h3, h4] | rw [h4]
end Go.Ab
namespace Go.Ab
open Go Go.RowKit Go.Proofs
set_option maxRecDepth 4000
def belowB (p d : Bs) : Bool := decide (d.length < p.length) && (p.take d.length == d && ((p.getD d.length 0).toNat : Int) == 47)
def checkGo : List Fl → List Fl → Int
  | _, [] => 0
  | pre, f :: r => if pathE f.1 != 0 then 2 else if decide ((f.2.length : Int) > 65536) then 10 else if !pre.isEmpty && !(decide ((pre.getLastD ([], [])).1 < f.1)) then 5
    else if pre.any (fun g => belowB f.1 g.1) then 6 else checkGo (pre ++ [f]) r
def checkF (l : List Fl) : Int := if decide ((l.length : Int) > 64) then 10 else checkGo [] l
def putGo (f : Fl) : Bool → List Fl → List Fl → Option (Bool × List Fl)
  | d, out, [] => some (d, out)
  | d, out, x :: r => if belowB x.1 f.1 || belowB f.1 x.1 then none else
    putGo f (d || !(decide (x.1 < f.1))) (if x.1 == f.1 then (if !d && !(decide (x.1 < f.1)) then out ++ [f] else out) else (if !d && !(decide (x.1 < f.1)) then out ++ [f] else out) ++ [x]) r
def putE (o : Option (Bool × List Fl)) (f : Fl) : List Fl × Int := match o with
  | none => ([], 6)
  | some (d, out) => if decide (((if d then out else out ++ [f]).length : Int) > 64) then ([], 10) else (if d then out else out ++ [f], 0)
def putF (l : List Fl) (f : Fl) : List Fl × Int := if checkF l != 0 then ([], 1) else if pathE f.1 != 0 then ([], 2) else if decide ((f.2.length : Int) > 65536) then ([], 10) else putE (putGo f false [] l) f
def replE (fs : List Fl) (p : Bs) (n : Int) (tx : Bs) : List Fl × Int :=
  if checkF fs != 0 then ([], 1) else if (findF fs p).2 then (if (linesE (findF fs p).1).2 == 0 then
    (if decide (n < 0) || decide (n ≥ (((linesE (findF fs p).1).1.length : Nat) : Int)) then ([], 3) else if oneL tx then
      (if (joinR ((linesE (findF fs p).1).1.set n.toNat tx)).2 == 0 then putF fs (p, (joinR ((linesE (findF fs p).1).1.set n.toNat tx)).1) else ([], (joinR ((linesE (findF fs p).1).1.set n.toNat tx)).2))
     else ([], 1))
    else ([], (linesE (findF fs p).1).2)) else ([], 7)
def SortF (l : List Fl) : Prop := l.Pairwise fun a b => a.1 < b.1
theorem checkGo_sort : ∀ (r pre : List Fl), SortF pre → checkGo pre r = 0 → SortF (pre ++ r)
  | [], pre, h, _ => by simpa using h
  | f :: r, pre, h, hc => by
    rw [checkGo] at hc
    split at hc
    · cases hc
    · split at hc
      · cases hc
      · split at hc
        · cases hc
        · rename_i h3
          split at hc
          · cases hc
          · have hs : SortF (pre ++ [f]) := by
              unfold SortF
              rw [List.pairwise_append]
              refine ⟨h, by simp, fun a ha b hb => ?_⟩
              simp only [List.mem_singleton] at hb
              subst hb
              obtain ⟨pre', z, rfl⟩ : ∃ p' z, pre = p' ++ [z] := ⟨pre.dropLast, pre.getLast (List.ne_nil_of_mem ha), (List.dropLast_concat_getLast _).symm⟩
              have hz : z.1 < b.1 := by
                simp only [Bool.and_eq_true, Bool.not_eq_true', not_and, Bool.not_eq_false] at h3
                have := h3 (by simp)
                simpa [List.getLastD_eq_getLast?] using this
              rcases List.mem_append.1 ha with ha | ha
              · unfold SortF at h
                rw [List.pairwise_append] at h
                exact List.lt_trans (h.2.2 a ha z (by simp)) hz
              · simp only [List.mem_singleton] at ha
                rw [ha]; exact hz
            have := checkGo_sort r (pre ++ [f]) hs hc
            simpa using this
theorem check_sort {l : List Fl} (h : checkF l = 0) : SortF l := by
  unfold checkF at h
  split at h
  · cases h
  · have := checkGo_sort l [] .nil h
    simpa using this
def repF (f : Fl) (x : Fl) : Fl := if x.1 == f.1 then f else x
theorem putGo_done {f : Fl} : ∀ (r out : List Fl) (o : Bool × List Fl), (∀ x ∈ r, f.1 < x.1) → putGo f true out r = some o → o = (true, out ++ r)
  | [], out, o, _, h => by
    simp only [putGo, Option.some.injEq] at h
    rw [← h, List.append_nil]
  | x :: r, out, o, hx, h => by
    rw [putGo] at h
    split at h
    · cases h
    · have hne : (x.1 == f.1) = false := by
        rw [beq_eq_false_iff_ne]
        intro e
        have := hx x (by simp)
        rw [e] at this
        exact bs_irr _ this
      rw [hne] at h
      simp only [Bool.true_or, Bool.not_true, Bool.false_and, Bool.false_eq_true, if_false] at h
      have := putGo_done r (out ++ [x]) o (fun y hy => hx y (by simp [hy])) h
      rw [this]
      simp
theorem putGo_at {f : Fl} : ∀ (r out : List Fl) (o : Bool × List Fl), SortF r → (∃ x ∈ r, x.1 = f.1) → putGo f false out r = some o → o = (true, out ++ r.map (repF f))
  | [], _, _, _, ⟨_, h, _⟩, _ => by cases h
  | x :: r, out, o, hs, he, h => by
    obtain ⟨s1, s2⟩ := List.pairwise_cons.1 hs
    rw [putGo] at h
    split at h
    · cases h
    · by_cases hxf : x.1 = f.1
      · have e1 : (x.1 == f.1) = true := by simp [hxf]
        have e2 : decide (x.1 < f.1) = false := decide_eq_false (by rw [hxf]; exact bs_irr _)
        rw [e1, e2] at h
        simp only [Bool.not_false, Bool.or_true, Bool.and_self, if_true] at h
        have hr : ∀ y ∈ r, f.1 < y.1 := fun y hy => hxf ▸ s1 y hy
        have := putGo_done r (out ++ [f]) o hr h
        rw [this, List.map_cons]
        have hm : r.map (repF f) = r := by
          conv => rhs; rw [← List.map_id r]
          refine List.map_congr_left fun y hy => ?_
          unfold repF
          rw [if_neg]
          · rfl
          · intro k
            have := hr y hy
            rw [beq_iff_eq.1 k] at this
            exact bs_irr _ this
        rw [hm]
        unfold repF
        rw [e1]
        simp
      · have e1 : (x.1 == f.1) = false := by simpa using hxf
        obtain ⟨y, hy, hyf⟩ := he
        have hyr : y ∈ r := by
          rcases List.mem_cons.1 hy with rfl | hy
          · exact absurd hyf hxf
          · exact hy
        have e2 : decide (x.1 < f.1) = true := decide_eq_true (hyf ▸ s1 y hyr)
        rw [e1, e2] at h
        simp only [Bool.not_true, Bool.or_false, Bool.and_false, Bool.false_eq_true, if_false] at h
        have := putGo_at r (out ++ [x]) o s2 ⟨y, hyr, hyf⟩ h
        rw [this, List.map_cons]
        unfold repF
        rw [e1]
        simp
theorem find_rep {l : List Fl} {f : Fl} (q : Bs) : (l.map (repF f)).find? (fun x => x.1 == q) = (l.find? (fun x => x.1 == q)).map (repF f) := by
  rw [List.find?_map]
  refine congrArg _ (congrArg (fun p => List.find? p l) (funext fun x => ?_))
  simp only [Function.comp_apply]
  unfold repF
  split
  · rename_i h
    rw [beq_iff_eq.1 h]
  · rfl
theorem put_ok {l : List Fl} {f : Fl} (h : (putF l f).2 = 0) (hs : checkF l = 0) (hf : ∃ x ∈ l, x.1 = f.1) : (putF l f).1 = l.map (repF f) ∧ f.2.length ≤ 65536 := by
  unfold putF at h ⊢
  split
  · rename_i h1
    rw [if_pos h1] at h
    cases h
  · rename_i h1
    rw [if_neg h1] at h
    split
    · rename_i h2
      rw [if_pos h2] at h
      cases h
    · rename_i h2
      rw [if_neg h2] at h
      split
      · rename_i h3
        rw [if_pos h3] at h
        cases h
      · rename_i h3
        rw [if_neg h3] at h
        simp only [decide_eq_true_eq, gt_iff_lt, Int.not_lt] at h3
        refine ⟨?_, by omega⟩
        cases ho : putGo f false [] l with
        | none => rw [ho] at h; cases h
        | some o =>
          have := putGo_at l [] o (check_sort hs) hf ho
          rw [ho] at h
          subst this
          unfold putE at h ⊢
          simp only [List.nil_append, if_true] at h ⊢
          split
          · rename_i h4
            rw [if_pos h4] at h
            cases h
          · rfl
theorem one_split {w : Bs} (h : oneL w = true) : splitB 10 w = [w] ∧ ∀ b ∈ w, b ≠ 10 := by
  have key : ∀ w : Bs, (splitB 10 w).length = 1 → ∀ b ∈ w, b ≠ 10 := by
    intro w
    induction w with
    | nil => intro _ b hb; cases hb
    | cons x r ih =>
      intro hl b hb
      rw [splitB] at hl
      split at hl
      · have := List.length_pos_iff.2 (splitB_ne 10 r)
        simp only [List.length_cons] at hl
        omega
      · rename_i hx
        rw [cons1_len (splitB_ne 10 r)] at hl
        rcases List.mem_cons.1 hb with rfl | hb
        · simpa using hx
        · exact ih hl b hb
  have key2 : ∀ w : Bs, (∀ b ∈ w, b ≠ 10) → splitB 10 w = [w] := by
    intro w
    induction w with
    | nil => intro _; rfl
    | cons x r ih =>
      intro hb
      have hx : (x == 10) = false := by simpa using hb x (by simp)
      rw [splitB, hx, ih (fun b k => hb b (by simp [k]))]
      rfl
  unfold oneL at h
  have := key w (by have := beq_iff_eq.1 h; omega)
  exact ⟨key2 w this, this⟩
theorem split_lines : ∀ (r : List Bs) (w : Bs), (∀ x ∈ w :: r, ∀ b ∈ x, b ≠ 10) → splitB 10 (w ++ joinT r) = w :: r
  | [], w, h => by
    have key2 : ∀ w : Bs, (∀ b ∈ w, b ≠ 10) → splitB 10 w = [w] := by
      intro w
      induction w with
      | nil => intro _; rfl
      | cons x r ih =>
        intro hb
        have hx : (x == 10) = false := by simpa using hb x (by simp)
        rw [splitB, hx, ih (fun b k => hb b (by simp [k]))]
        rfl
    rw [joinT, List.append_nil]
    exact key2 w (h w (by simp))
  | v :: r, w, h => by
    have ih := split_lines r v (fun x hx => h x (by simp only [List.mem_cons] at hx ⊢; exact .inr hx))
    rw [joinT]
    have key : ∀ w : Bs, (∀ b ∈ w, b ≠ 10) → splitB 10 (w ++ ([10] ++ v ++ joinT r)) = w :: splitB 10 (v ++ joinT r) := by
      intro w
      induction w with
      | nil => intro _; rfl
      | cons x s ih2 =>
        intro hb
        have hx : (x == 10) = false := by simpa using hb x (by simp)
        rw [List.cons_append, splitB, hx, ih2 (fun b k => hb b (by simp [k]))]
        rfl
    rw [key w (h w (by simp)), ih]
theorem joinR_lines {L : List Bs} (h : (joinR L).2 = 0) : linesE (joinR L).1 = (L, 0) := by
  cases L with
  | nil => cases h
  | cons w r =>
    rw [joinR] at h ⊢
    split
    · rename_i h1
      rw [if_pos h1] at h
      split
      · rename_i h2
        rw [if_pos h2] at h
        cases h
      · rename_i h2
        simp only [Bool.or_eq_true, decide_eq_true_eq, not_or, gt_iff_lt, Int.not_lt] at h2
        have hsp := split_lines r w (fun x hx => (one_split (List.all_eq_true.1 h1 x hx)).2)
        unfold linesE
        dsimp only
        rw [hsp, if_neg (by simp only [decide_eq_true_eq]; omega), if_neg (by simp only [decide_eq_true_eq, List.length_cons]; omega)]
    · rename_i h1
      rw [if_neg h1] at h
      cases h
theorem slice_set {l : List Bs} {i a b : Nat} {x : Bs} (h : i < a ∨ b ≤ i) : ((l.set i x).drop a).take (b - a) = (l.drop a).take (b - a) := by
  apply List.ext_getElem?
  intro j
  rw [List.getElem?_take, List.getElem?_take]
  split
  · rw [List.getElem?_drop, List.getElem?_drop, List.getElem?_set_ne (by omega)]
  · rfl
theorem body_repl {fs : List Fl} {p : Bs} {n : Int} {tx : Bs} (h : (replE fs p n tx).2 = 0) {s : Sp} (hs : (bodyB fs s).2 = 0) (hn : s.1 = p → ¬(s.2.1 ≤ n ∧ n < s.2.2)) : bodyB (replE fs p n tx).1 s = bodyB fs s := by
  have h0 := h
  unfold replE at h
  split at h
  · cases h
  · rename_i c1
    have c1' : checkF fs = 0 := by simpa using c1
    split at h
    · rename_i c2
      split at h
      · rename_i c3
        have c3' : (linesE (findF fs p).1).2 = 0 := by simpa using c3
        split at h
        · cases h
        · rename_i c4
          simp only [Bool.or_eq_true, decide_eq_true_eq, not_or, ge_iff_le, Int.not_le, Int.not_lt] at c4
          split at h
          · rename_i c5
            split at h
            · rename_i c6
              have c6' : (joinR ((linesE (findF fs p).1).1.set n.toNat tx)).2 = 0 := by simpa using c6
              have hE : (replE fs p n tx).1 = (putF fs (p, (joinR ((linesE (findF fs p).1).1.set n.toNat tx)).1)).1 := by
                unfold replE
                rw [if_neg c1, if_pos c2, if_pos c3, if_neg (by simp only [Bool.or_eq_true, decide_eq_true_eq, not_or, ge_iff_le]; omega), if_pos c5, if_pos c6]
              have hfd : ∃ f, fs.find? (fun x => x.1 == p) = some f := by
                unfold findF at c2
                cases hq : fs.find? (fun x => x.1 == p) with
                | none => rw [hq] at c2; cases c2
                | some f => exact ⟨f, rfl⟩
              obtain ⟨f0, hf0⟩ := hfd
              have hf0p : f0.1 = p := by simpa using List.find?_some hf0
              obtain ⟨k1, _⟩ := put_ok h c1' ⟨f0, List.mem_of_find?_eq_some hf0, hf0p⟩
              rw [hE, k1]
              have hlin := joinR_lines c6'
              generalize (joinR ((linesE (findF fs p).1).1.set n.toNat tx)).1 = nd at *
              have hfind : ∀ q, findF (fs.map (repF (p, nd))) q = if q = p then (nd, true) else findF fs q := fun q => by
                unfold findF
                rw [find_rep]
                by_cases hq : q = p
                · subst hq
                  rw [hf0, if_pos rfl]
                  unfold repF
                  simp [hf0p]
                · rw [if_neg hq]
                  cases hz : fs.find? (fun x => x.1 == q) with
                  | none => rfl
                  | some z =>
                    have hzq : z.1 = q := by simpa using List.find?_some hz
                    simp only [Option.map_some]
                    unfold repF
                    rw [if_neg]
                    simp only [beq_iff_eq]
                    rw [hzq]
                    exact hq
              obtain ⟨sp, sa, sb⟩ := s
              unfold bodyB at hs ⊢
              dsimp only at hs hn ⊢
              rw [hfind]
              by_cases hq : sp = p
              · subst hq
                rw [if_pos c2, if_pos c3] at hs ⊢
                rw [if_pos rfl]
                dsimp only
                rw [hlin]
                simp only [beq_self_eq_true, if_true]
                unfold bodyR at hs ⊢
                dsimp only at hs ⊢
                rw [List.length_set]
                split
                · rfl
                · rename_i c7
                  simp only [Bool.or_eq_true, decide_eq_true_eq, not_or, gt_iff_lt, Int.not_lt] at c7
                  rw [slice_set]
                  have := hn rfl
                  omega
              · rw [if_neg hq]
            · rename_i c6
              exact absurd (by simpa using h) c6
          · cases h
      · rename_i c3
        exact absurd (by simpa using h) c3
    · cases h
theorem repl_shape {fs : List Fl} {p : Bs} {n : Int} {tx : Bs} (h : (replE fs p n tx).2 = 0) : ∃ nd : Bs, (replE fs p n tx).1 = fs.map (repF (p, nd)) ∧ nd.length ≤ 65536 := by
  have h0 := h
  unfold replE at h
  split at h
  · cases h
  · rename_i c1
    have c1' : checkF fs = 0 := by simpa using c1
    split at h
    · rename_i c2
      split at h
      · rename_i c3
        split at h
        · cases h
        · rename_i c4
          split at h
          · rename_i c5
            split at h
            · rename_i c6
              have hE : (replE fs p n tx).1 = (putF fs (p, (joinR ((linesE (findF fs p).1).1.set n.toNat tx)).1)).1 := by
                unfold replE
                rw [if_neg c1, if_pos c2, if_pos c3, if_neg c4, if_pos c5, if_pos c6]
              have hfd : ∃ f, fs.find? (fun x => x.1 == p) = some f := by
                unfold findF at c2
                cases hq : fs.find? (fun x => x.1 == p) with
                | none => rw [hq] at c2; cases c2
                | some f => exact ⟨f, rfl⟩
              obtain ⟨f0, hf0⟩ := hfd
              have hf0p : f0.1 = p := by simpa using List.find?_some hf0
              obtain ⟨k1, k2⟩ := put_ok h c1' ⟨f0, List.mem_of_find?_eq_some hf0, hf0p⟩
              exact ⟨_, hE.trans k1, k2⟩
            · rename_i c6
              exact absurd (by simpa using h) c6
          · cases h
      · rename_i c3
        exact absurd (by simpa using h) c3
    · cases h
theorem repl_dom {fs : List Fl} {p : Bs} {n : Int} {tx : Bs} {m : Nat} (h : (replE fs p n tx).2 = 0) (hm : ∀ f ∈ fs, f.2.length ≤ m) : (replE fs p n tx).1.length = fs.length ∧ ∀ f ∈ (replE fs p n tx).1, f.2.length ≤ max m 65536 := by
  obtain ⟨nd, h1, h2⟩ := repl_shape h
  rw [h1]
  refine ⟨by rw [List.length_map], fun f hf => ?_⟩
  obtain ⟨g, hg, rfl⟩ := List.mem_map.1 hf
  unfold repF
  split
  · dsimp only; omega
  · have := hm g hg; omega
theorem covL_iff {l : List Sp} {p : Bs} {n : Int} : covL l p n = true ↔ Cov l p n := by
  unfold covL Cov
  rw [List.any_eq_true]
  constructor
  · rintro ⟨s, hs, h⟩
    simp only [Bool.and_eq_true, beq_iff_eq, decide_eq_true_eq] at h
    exact ⟨s, hs, h.1.1, h.1.2, h.2⟩
  · rintro ⟨s, hs, h1, h2, h3⟩
    refine ⟨s, hs, ?_⟩
    simp only [Bool.and_eq_true, beq_iff_eq, decide_eq_true_eq]
    exact ⟨⟨h1, h2⟩, h3⟩
theorem line_unread {fs : List Fl} {us : List Mc} {l : List Tk} {p : Bs} {n : Int} {tx : Bs} (h : (lineG fs us l).2 = 0) (hr : (replE fs p n tx).2 = 0) (hc : covL (lineG fs us l).1.2 p n = false) : lineG (replE fs p n tx).1 us l = lineG fs us l := by
  refine line_same h fun s hs hb => body_repl hr hb fun e ⟨k1, k2⟩ => ?_
  have := hs n k1 k2
  rw [e, ← covL_iff, hc] at this
  cases this
end Go.Ab
