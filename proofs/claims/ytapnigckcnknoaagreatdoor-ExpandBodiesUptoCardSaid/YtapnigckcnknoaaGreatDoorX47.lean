/-
  One text of the proof (own work): contracts of functions of the program, by the abstract machine.
-/
import Derived.Test.YtapnigckcnknoaaGreatDoorRows
import Derived.Test.YtapnigckcnknoaaGreatDoorX19
import Derived.Test.YtapnigckcnknoaaGreatDoorX46
import Derived.Test.YtapnigckcnknoaaGreatDoorX16
import Derived.Test.YtapnigckcnknoaaGreatDoorX17
set_option linter.unusedVariables false
set_option linter.unusedSimpArgs false
namespace Go.Ab
open Go Go.RowKit Go.Proofs
set_option maxRecDepth 100000
set_option maxHeartbeats 16000000
theorem few3Go_d {z : Int} : ∀ {l : List Fl} {n : Int}, few3Go z n l = true → 0 ≤ n → ∀ f ∈ l, (f.2.length : Int) + n ≤ z
  | [], _, _, _, f, hf => by cases hf
  | x :: r, n, h, hn, f, hf => by
    rw [few3Go] at h
    split at h
    · cases h
    · rename_i hc
      simp only [Bool.or_eq_true, decide_eq_true_eq, not_or, Int.not_lt] at hc
      rcases List.mem_cons.1 hf with rfl | hf
      · omega
      · have := few3Go_d h (by omega) f hf
        omega
theorem few3_d {l : List Fl} (h : few3 l 8 3000 = true) : l.length ≤ 8 ∧ ∀ f ∈ l, f.2.length ≤ 3000 := by
  unfold few3 at h
  split at h
  · cases h
  · rename_i hc
    simp only [decide_eq_true_eq, Int.not_lt] at hc
    exact ⟨by omega, fun f hf => by have := few3Go_d h (by decide) f hf; omega⟩
noncomputable def g_law73 : List D → Option D := encSpec (fun x : (List Fl) × Mc => [.list (x.1.map eFl), eMc x.2]) (fun x : (List Fl) × Mc => (x.1.length ≤ 1099511627776 ∧ ∀ f ∈ x.1, f.2.length ≤ 1099511627776) ∧ x.2.params.length ≤ 1099511627776) (fun x : (List Fl) × Mc => .bool true)
theorem f_law73_ok : PureOK Tryz.prog 3 true g_law73 := by
  have hΓ := Γp f_wk07_ok (Γp f_few3b_ok (Γp f_few7R_ok (Γp f_bodyP_ok (Γp f_bodyRR_ok (Γp f_sameT_ok (Γn))))))
  refine pure_enc (n := 41) (rs := [.tmp 4]) Tryz.func3 (by kernel_rfl) rfl (by kernel_rfl) (by kernel_rfl) ?_
  rintro ⟨fs, m⟩ hd
  (try dsimp only at hd ⊢)
  refine ⟨fun _ => by (repeat (first | exact .int _ _ | exact .bool _ | exact .str _ | (refine .tup _ (fun d hd => ?_); simp only [List.mem_cons, List.not_mem_nil, or_false] at hd; rcases hd with rfl | hd))), fun k hz0 => ?_⟩
  obtain ⟨⟨d1, d2⟩, d3⟩ := hd
  have e0 := g_wk07_eq
  have e1 := g_few3b_eq (l := fs) (m := 8) (z := 3000) ⟨d1, d2, by decide, by decide⟩
  have e2 := g_few7R_eq (us := [m]) ⟨by simp, fun x hx => by simp only [List.mem_singleton] at hx; rw [hx]; exact d3⟩
  have hf := @few3_d fs
  generalize few3 fs 8 3000 = c1 at *
  generalize few7 [m] = c2 at *
  have e3 : c1 = true → g_bodyP [.list (fs.map eFl), eMc m] = some (eTks (bodyB fs m.body)) := fun h => by
    obtain ⟨h1, h2⟩ := hf h
    exact g_bodyP_eq ⟨by omega, fun f hf => by have := h2 f hf; omega⟩
  have e4 : c1 = true → g_bodyRR [.list (fs.map eFl), eMc m] = some (eTks (bodyB fs m.body)) := fun h => by
    obtain ⟨h1, h2⟩ := hf h
    exact g_bodyRR_eq ⟨by omega, fun f hf => by have := h2 f hf; omega⟩
  have hb := body_len fs m.body
  generalize bodyB fs m.body = B at *
  obtain ⟨b, be⟩ := B
  dsimp only at hb
  have e5 := g_sameT_eq (a := b) (b := b) ⟨by omega, by omega⟩
  rw [decide_eq_true rfl] at e5
  obtain ⟨m1, m2, m3, m4, m5⟩ := m
  rw [eMc_eq] at *
  dsimp only at *
  replace e2 : g_few7R [.agg [.str [], .list [], .list [.agg [.str m1, .list (m2.map .str), .str m3, .int .i64 m4, .int .i64 m5]], .list [], .list [], .list []]] = some (.bool c2) := e2
  rw [start_frame (by simp)]; simp only [enumV, go_sem, emptyH]
  cases c1
  · repeat (first
    | (apply axJ; (focus ((with_reducible constructor) <;> rfl)))
    | (apply awT mixedOK hΓ (by kernel_rfl); (simp (disch := omega) only [go_sem, ↓reduceIte, dk, ↓lk, Int.reduceBEq, Int.reduceBNe, Bool.true_bne, Bool.false_bne, Bool.not_true, Bool.not_false, ↓ty_build37, e0, e1] <;> with_reducible rfl))
    | ((first | apply awR hΓ | apply awG | apply awH mixedOK hΓ rfl (by kernel_rfl) | apply ovE rfl); (simp (disch := omega) only [go_sem, ↓reduceIte, dk, ↓lk, Int.reduceBEq, Int.reduceBNe, Bool.true_bne, Bool.false_bne, Bool.not_true, Bool.not_false, ↓ty_build37, e0, e1] <;> with_reducible rfl); exact trivial)
    | rfl)
    try rfl
  have e3' := e3 rfl
  have e4' := e4 rfl
  unfold eTks at e3' e4'
  clear e3 e4
  cases c2
  · repeat (first
    | (apply axJ; (focus ((with_reducible constructor) <;> rfl)))
    | (apply awT mixedOK hΓ (by kernel_rfl); (simp (disch := omega) only [go_sem, ↓reduceIte, dk, ↓lk, Int.reduceBEq, Int.reduceBNe, Bool.true_bne, Bool.false_bne, Bool.not_true, Bool.not_false, ↓ty_build37, e0, e1, e2] <;> with_reducible rfl))
    | ((first | apply awR hΓ | apply awG | apply awH mixedOK hΓ rfl (by kernel_rfl) | apply ovE rfl); (simp (disch := omega) only [go_sem, ↓reduceIte, dk, ↓lk, Int.reduceBEq, Int.reduceBNe, Bool.true_bne, Bool.false_bne, Bool.not_true, Bool.not_false, ↓ty_build37, e0, e1, e2] <;> with_reducible rfl); exact trivial)
    | rfl)
    try rfl
  · repeat (first
    | (apply axJ; (focus ((with_reducible constructor) <;> rfl)))
    | (apply awT mixedOK hΓ (by kernel_rfl); (simp (disch := omega) only [go_sem, ↓reduceIte, dk, ↓lk, Int.reduceBEq, Int.reduceBNe, Bool.true_bne, Bool.false_bne, Bool.not_true, Bool.not_false, BEq.rfl, ↓ty_build37, e0, e1, e2, e3', e4', e5] <;> with_reducible rfl))
    | ((first | apply awR hΓ | apply awG | apply awH mixedOK hΓ rfl (by kernel_rfl) | apply ovE rfl); (simp (disch := omega) only [go_sem, ↓reduceIte, dk, ↓lk, Int.reduceBEq, Int.reduceBNe, Bool.true_bne, Bool.false_bne, Bool.not_true, Bool.not_false, BEq.rfl, ↓ty_build37, e0, e1, e2, e3', e4', e5] <;> with_reducible rfl); exact trivial)
    | rfl)
    try rfl
end Go.Ab
namespace Go.Ab
open Go Go.RowKit Go.Proofs
open Go.Proofs.YtapnigckcnknoaaGreatDoor
set_option maxRecDepth 4000
mutual
theorem bulk_le {H : Type} : ∀ d : DataW H, bulk d ≤ Rows.uptoBulk d
  | .lit l => by cases l <;> simp [bulk, Rows.uptoBulk]
  | .nil => by simp [bulk, Rows.uptoBulk]
  | .ptr d => by have := bulk_le d; simp only [bulk, Rows.uptoBulk]; omega
  | .slice a b => by have := bulkAll_le a; have := bulkAll_le b; simp only [bulk, Rows.uptoBulk]; omega
  | .agg a => by have := bulkAll_le a; simp only [bulk, Rows.uptoBulk]; omega
  | .iface _ d => by have := bulk_le d; simp only [bulk, Rows.uptoBulk]; omega
  | .map es => by simp [bulk, Rows.uptoBulk]
  | .held _ => by simp [bulk, Rows.uptoBulk]
theorem bulkAll_le {H : Type} : ∀ l : List (DataW H), bulkAll l ≤ Rows.uptoBulkAll l
  | [] => by simp [bulkAll, Rows.uptoBulkAll]
  | d :: r => by have := bulk_le d; have := bulkAll_le r; simp only [bulkAll, Rows.uptoBulkAll]; omega
end
theorem trodAll_len {H : Type} {enc : TypeId × Value → H} {P : Program} {W : World} : ∀ (ts : List TypeId) (vs : List Value) (ds : List (DataW H)) (ps : List MemPlace), DataW.TrodAll enc P W 0 (fun _ => true) true ts vs ds ps → ds.length = ts.length
  | [], vs, ds, ps, h => by
    obtain ⟨rfl, rfl, rfl⟩ := ChangeShapes.trodAll_nil h
    rfl
  | t :: ts, vs, ds, ps, h => by
    obtain ⟨v, vs', d, ds', p, q, rfl, rfl, rfl, h1, h2⟩ := ChangeShapes.trodAll_cons h
    simp [trodAll_len ts vs' ds' q h2]
theorem laid07 : laidOutB Tryz.prog = true := by kernel_rfl
theorem own07 : ownKnob Tryz.prog.godebug = none := by kernel_rfl
def accCells : Array Value := #[.int .u8 128, .int .u8 191, .int .u8 160, .int .u8 191, .int .u8 128, .int .u8 159, .int .u8 144, .int .u8 191, .int .u8 128, .int .u8 143, .int .u8 0, .int .u8 0, .int .u8 0, .int .u8 0, .int .u8 0, .int .u8 0, .int .u8 0, .int .u8 0, .int .u8 0, .int .u8 0, .int .u8 0, .int .u8 0, .int .u8 0, .int .u8 0, .int .u8 0, .int .u8 0, .int .u8 0, .int .u8 0, .int .u8 0, .int .u8 0, .int .u8 0, .int .u8 0]
def firstCells : Array Value := (Go.Pinned.utf8FirstZ.map fun n : Nat => Value.int .u8 (n : Int)).toArray
def layCells (cs : Array Value) : Go.Obj → Go.Obj
  | .cells _ t frozen => .cells cs t frozen
  | o => o
noncomputable def laidWorld (os : Os) : World :=
  { World.holding Tryz.prog os ⟨#[], #[], []⟩ with heap := ((World.holding Tryz.prog os ⟨#[], #[], []⟩).heap.modify 1 (layCells firstCells)).modify 2 (layCells accCells) }
def RT (ty : Ty) (n : Nat) (d : D) : Prop := ∃ cs, HasTy n ty cs ∧ d = ty.pack cs
theorem list_chooseP {α β γ : Type} {f : α → γ} {g : β → γ} {p : β → Prop} : ∀ (ls : List α), (∀ c ∈ ls, ∃ x, f c = g x ∧ p x) → ∃ l : List β, ls.map f = l.map g ∧ l.length = ls.length ∧ ∀ x ∈ l, p x
  | [], _ => ⟨[], rfl, rfl, fun x hx => by cases hx⟩
  | c :: ls, h => by
    obtain ⟨x, hx, hp⟩ := h c List.mem_cons_self
    obtain ⟨l, h1, h2, h3⟩ := list_chooseP ls fun c hc => h c (List.mem_cons_of_mem _ hc)
    exact ⟨x :: l, by simp [hx, h1], by simp [h2], fun y hy => by
      rcases List.mem_cons.1 hy with rfl | hy
      · exact hp
      · exact h3 y hy⟩
theorem has_strs {n : Nat} {cs : List D} (h : HasTy n (.slice .str) cs) : ∃ l : List Bs, cs = [.list (l.map .str)] ∧ l.length ≤ n ∧ ∀ w ∈ l, w.length ≤ n := by
  simp only [HasTy] at h
  obtain ⟨ls, hl, hs, rfl⟩ := h
  obtain ⟨m, e, k, hp⟩ := list_chooseP (f := Ty.str.pack) (g := D.str) (p := fun w : Bs => w.length ≤ n) ls fun c hc => by
    obtain ⟨s, hl, rfl⟩ := hs c hc
    exact ⟨s, rfl, hl⟩
  exact ⟨m, by rw [e], by omega, hp⟩
abbrev tyFl : Ty := .struct [.str, .str]
abbrev tySp : Ty := .struct [.str, .int .i64, .int .i64]
abbrev tyMc : Ty := .struct [.str, .slice .str, tySp]
theorem has_fl {n : Nat} {cs : List D} (h : HasTy n tyFl cs) : ∃ x : Fl, tyFl.pack cs = eFl x ∧ x.2.length ≤ n := by
  simp only [HasTy, HasTyL] at h
  obtain ⟨_, _, ⟨a, ha, rfl⟩, ⟨_, _, ⟨b, hb, rfl⟩, rfl, rfl⟩, rfl⟩ := h
  exact ⟨(a, b), rfl, hb⟩
theorem has_mc {n : Nat} {cs : List D} (h : HasTy n tyMc cs) : ∃ x : Mc, tyMc.pack cs = eMc x ∧ x.params.length ≤ n := by
  rw [HasTy] at h
  simp only [HasTyL] at h
  obtain ⟨_, _, h1, ⟨_, _, h2, ⟨_, _, h3, rfl, rfl⟩, rfl⟩, rfl⟩ := h
  obtain ⟨ps, rfl, hp, _⟩ := has_strs h2
  simp only [HasTy, HasTyL] at h1 h3
  obtain ⟨a, ha, rfl⟩ := h1
  obtain ⟨_, _, ⟨p, _, rfl⟩, ⟨_, _, ⟨x, _, rfl⟩, ⟨_, _, ⟨y, _, rfl⟩, rfl, rfl⟩, rfl⟩, rfl⟩ := h3
  exact ⟨⟨a, ps, (p, x, y)⟩, rfl, hp⟩
theorem has_sl {α : Type} {n : Nat} {ty : Ty} {e : α → D} {p : α → Prop} {cs : List D} (k : ∀ {cs : List D}, HasTy n ty cs → ∃ x : α, ty.pack cs = e x ∧ p x) (h : HasTy n (.slice ty) cs) : ∃ l : List α, cs = [.list (l.map e)] ∧ l.length ≤ n ∧ ∀ x ∈ l, p x := by
  simp only [HasTy] at h
  obtain ⟨ls, hl, hs, rfl⟩ := h
  obtain ⟨m, e1, k1, hp⟩ := list_chooseP (f := ty.pack) (g := e) (p := p) ls fun c hc => k (hs c hc)
  exact ⟨m, by rw [e1], by omega, hp⟩
theorem rt_tree {n : Nat} (hn : n ≤ 1099511627776) {d : D} (h : RT (.slice tyFl) n d) : ∃ l : List Fl, (l.length ≤ 1099511627776 ∧ ∀ x ∈ l, x.2.length ≤ 1099511627776) ∧ d = .list (l.map eFl) := by
  obtain ⟨cs, h1, rfl⟩ := h
  obtain ⟨l, rfl, h2, h3⟩ := has_sl has_fl h1
  exact ⟨l, ⟨by omega, fun x hx => by have := h3 x hx; omega⟩, rfl⟩
theorem rt_mac {n : Nat} (hn : n ≤ 1099511627776) {d : D} (h : RT tyMc n d) : ∃ m : Mc, m.params.length ≤ 1099511627776 ∧ d = eMc m := by
  obtain ⟨cs, h1, rfl⟩ := h
  obtain ⟨m, h2, h3⟩ := has_mc h1
  exact ⟨m, by omega, h2⟩
end Go.Ab
