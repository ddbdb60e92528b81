/-
  One text of the proof (own work): contracts of functions of the program, by the abstract machine.
-/
import Derived.Test.YtapnigckcnknoaaGreatDoorRows
import Derived.Test.YtapnigckcnknoaaGreatDoorX11
import Derived.Test.YtapnigckcnknoaaGreatDoorX25
import Derived.Test.YtapnigckcnknoaaGreatDoorX12
import Derived.Test.YtapnigckcnknoaaGreatDoorX23
set_option linter.unusedVariables false
set_option linter.unusedSimpArgs false
namespace Go.Ab
open Go Go.RowKit Go.Proofs
open Go.Proofs.YtapnigckcnknoaaGreatDoor
set_option maxRecDepth 4000
mutual
theorem bulk_le {H : Type} : ∀ d : DataW H, bulk d ≤ Rows.uptoBulk d
  | .lit l => by cases l <;> simp [bulk, Rows.uptoBulk]
  | .nil => by simp [bulk, Rows.uptoBulk]
  | .ptr d => by have := bulk_le d; simp only [bulk, Rows.uptoBulk]; omega
  | .slice a b => by have := bulkAll_le a; have := bulkAll_le b; simp only [bulk, Rows.uptoBulk]; omega
  | .agg a => by have := bulkAll_le a; simp only [bulk, Rows.uptoBulk]; omega
  | .iface _ d => by have := bulk_le d; simp only [bulk, Rows.uptoBulk]; omega
  | .map es => by simp [bulk, Rows.uptoBulk]
  | .held _ => by simp [bulk, Rows.uptoBulk]
theorem bulkAll_le {H : Type} : ∀ l : List (DataW H), bulkAll l ≤ Rows.uptoBulkAll l
  | [] => by simp [bulkAll, Rows.uptoBulkAll]
  | d :: r => by have := bulk_le d; have := bulkAll_le r; simp only [bulkAll, Rows.uptoBulkAll]; omega
end
theorem trodAll_len {H : Type} {enc : TypeId × Value → H} {P : Program} {W : World} : ∀ (ts : List TypeId) (vs : List Value) (ds : List (DataW H)) (ps : List MemPlace), DataW.TrodAll enc P W 0 (fun _ => true) true ts vs ds ps → ds.length = ts.length
  | [], vs, ds, ps, h => by
    obtain ⟨rfl, rfl, rfl⟩ := ChangeShapes.trodAll_nil h
    rfl
  | t :: ts, vs, ds, ps, h => by
    obtain ⟨v, vs', d, ds', p, q, rfl, rfl, rfl, h1, h2⟩ := ChangeShapes.trodAll_cons h
    simp [trodAll_len ts vs' ds' q h2]
theorem laid07 : laidOutB Tryz.prog = true := by kernel_rfl
theorem own07 : ownKnob Tryz.prog.godebug = none := by kernel_rfl
def accCells : Array Value := #[.int .u8 128, .int .u8 191, .int .u8 160, .int .u8 191, .int .u8 128, .int .u8 159, .int .u8 144, .int .u8 191, .int .u8 128, .int .u8 143, .int .u8 0, .int .u8 0, .int .u8 0, .int .u8 0, .int .u8 0, .int .u8 0, .int .u8 0, .int .u8 0, .int .u8 0, .int .u8 0, .int .u8 0, .int .u8 0, .int .u8 0, .int .u8 0, .int .u8 0, .int .u8 0, .int .u8 0, .int .u8 0, .int .u8 0, .int .u8 0, .int .u8 0, .int .u8 0]
def firstCells : Array Value := (Go.Pinned.utf8FirstZ.map fun n : Nat => Value.int .u8 (n : Int)).toArray
def layCells (cs : Array Value) : Go.Obj → Go.Obj
  | .cells _ t frozen => .cells cs t frozen
  | o => o
noncomputable def laidWorld (os : Os) : World :=
  { World.holding Tryz.prog os ⟨#[], #[], []⟩ with heap := ((World.holding Tryz.prog os ⟨#[], #[], []⟩).heap.modify 1 (layCells firstCells)).modify 2 (layCells accCells) }
def RT (ty : Ty) (n : Nat) (d : D) : Prop := ∃ cs, HasTy n ty cs ∧ d = ty.pack cs
theorem list_chooseP {α β γ : Type} {f : α → γ} {g : β → γ} {p : β → Prop} : ∀ (ls : List α), (∀ c ∈ ls, ∃ x, f c = g x ∧ p x) → ∃ l : List β, ls.map f = l.map g ∧ l.length = ls.length ∧ ∀ x ∈ l, p x
  | [], _ => ⟨[], rfl, rfl, fun x hx => by cases hx⟩
  | c :: ls, h => by
    obtain ⟨x, hx, hp⟩ := h c List.mem_cons_self
    obtain ⟨l, h1, h2, h3⟩ := list_chooseP ls fun c hc => h c (List.mem_cons_of_mem _ hc)
    exact ⟨x :: l, by simp [hx, h1], by simp [h2], fun y hy => by
      rcases List.mem_cons.1 hy with rfl | hy
      · exact hp
      · exact h3 y hy⟩
theorem has_strs {n : Nat} {cs : List D} (h : HasTy n (.slice .str) cs) : ∃ l : List Bs, cs = [.list (l.map .str)] ∧ l.length ≤ n ∧ ∀ w ∈ l, w.length ≤ n := by
  simp only [HasTy] at h
  obtain ⟨ls, hl, hs, rfl⟩ := h
  obtain ⟨m, e, k, hp⟩ := list_chooseP (f := Ty.str.pack) (g := D.str) (p := fun w : Bs => w.length ≤ n) ls fun c hc => by
    obtain ⟨s, hl, rfl⟩ := hs c hc
    exact ⟨s, rfl, hl⟩
  exact ⟨m, by rw [e], by omega, hp⟩
abbrev tyFl : Ty := .struct [.str, .str]
abbrev tySp : Ty := .struct [.str, .int .i64, .int .i64]
abbrev tyMc : Ty := .struct [.str, .slice .str, tySp]
abbrev tyTk : Ty := .struct [.int .i64, .str]
abbrev tyLn : Ty := .struct [.str, .int .i64]
abbrev tyCs : Ty := .struct [.slice tyFl, .slice tyMc, .slice tyTk, tyLn, .str]
theorem has_fl {n : Nat} {cs : List D} (h : HasTy n tyFl cs) : ∃ x : Fl, tyFl.pack cs = eFl x ∧ x.2.length ≤ n := by
  simp only [HasTy, HasTyL] at h
  obtain ⟨_, _, ⟨a, ha, rfl⟩, ⟨_, _, ⟨b, hb, rfl⟩, rfl, rfl⟩, rfl⟩ := h
  exact ⟨(a, b), rfl, hb⟩
theorem has_tk {n : Nat} {cs : List D} (h : HasTy n tyTk cs) : ∃ x : Tk, tyTk.pack cs = eTk x ∧ x.2.length ≤ n := by
  simp only [HasTy, HasTyL] at h
  obtain ⟨_, _, ⟨a, ha, rfl⟩, ⟨_, _, ⟨b, hb, rfl⟩, rfl, rfl⟩, rfl⟩ := h
  exact ⟨(a, b), rfl, hb⟩
theorem has_mc {n : Nat} {cs : List D} (h : HasTy n tyMc cs) : ∃ x : Mc, tyMc.pack cs = eMc x ∧ x.params.length ≤ n := by
  rw [HasTy] at h
  simp only [HasTyL] at h
  obtain ⟨_, _, h1, ⟨_, _, h2, ⟨_, _, h3, rfl, rfl⟩, rfl⟩, rfl⟩ := h
  obtain ⟨ps, rfl, hp, _⟩ := has_strs h2
  simp only [HasTy, HasTyL] at h1 h3
  obtain ⟨a, ha, rfl⟩ := h1
  obtain ⟨_, _, ⟨p, _, rfl⟩, ⟨_, _, ⟨x, _, rfl⟩, ⟨_, _, ⟨y, _, rfl⟩, rfl, rfl⟩, rfl⟩, rfl⟩ := h3
  exact ⟨⟨a, ps, (p, x, y)⟩, rfl, hp⟩
theorem has_sl {α : Type} {n : Nat} {ty : Ty} {e : α → D} {p : α → Prop} {cs : List D} (k : ∀ {cs : List D}, HasTy n ty cs → ∃ x : α, ty.pack cs = e x ∧ p x) (h : HasTy n (.slice ty) cs) : ∃ l : List α, cs = [.list (l.map e)] ∧ l.length ≤ n ∧ ∀ x ∈ l, p x := by
  simp only [HasTy] at h
  obtain ⟨ls, hl, hs, rfl⟩ := h
  obtain ⟨m, e1, k1, hp⟩ := list_chooseP (f := ty.pack) (g := e) (p := p) ls fun c hc => k (hs c hc)
  exact ⟨m, by rw [e1], by omega, hp⟩
theorem rt_case {n : Nat} (hn : n ≤ 1099511627776) {d : D} (h : RT tyCs n d) : ∃ (fs : List Fl) (us : List Mc) (l : List Tk) (lp : Bs) (ln : Int) (tx : Bs), ((fs.length ≤ 1099511627776 ∧ ∀ f ∈ fs, f.2.length ≤ 1099511627776) ∧ (us.length ≤ 1099511627776 ∧ ∀ m ∈ us, m.params.length ≤ 1099511627776) ∧ l.length ≤ 1099511627776) ∧ d = .agg [.list (fs.map eFl), .list (us.map eMc), .list (l.map eTk), .str lp, i64 ln, .str tx] := by
  obtain ⟨cs, h, rfl⟩ := h
  rw [HasTy] at h
  simp only [HasTyL] at h
  obtain ⟨_, _, h1, ⟨_, _, h2, ⟨_, _, h3, ⟨_, _, h4, ⟨_, _, h5, rfl, rfl⟩, rfl⟩, rfl⟩, rfl⟩, rfl⟩ := h
  obtain ⟨fs, rfl, k1, k2⟩ := has_sl has_fl h1
  obtain ⟨us, rfl, k3, k4⟩ := has_sl has_mc h2
  obtain ⟨l, rfl, k5, _⟩ := has_sl has_tk h3
  simp only [HasTy, HasTyL] at h4 h5
  obtain ⟨_, _, ⟨p, _, rfl⟩, ⟨_, _, ⟨x, _, rfl⟩, rfl, rfl⟩, rfl⟩ := h4
  obtain ⟨t, _, rfl⟩ := h5
  exact ⟨fs, us, l, p, x, t, ⟨⟨by omega, fun f hf => by have := k2 f hf; omega⟩, ⟨by omega, fun m hm => by have := k4 m hm; omega⟩, by omega⟩, rfl⟩
end Go.Ab
namespace Go.Ab
open Go Go.RowKit Go.Proofs
set_option maxRecDepth 100000
set_option maxHeartbeats 40000000
def cCs (fs : List Fl) (us : List Mc) (l : List Tk) (lp : Bs) (ln : Int) (tx : Bs) : List D := [.list (fs.map eFl), .list (us.map eMc), .list (l.map eTk), .str lp, i64 ln, .str tx]
noncomputable def g_pl11 : List D → Option D := encSpec (fun x : Mc × Int × Bs => [eMc x.1, .ref [i64 x.2.1, .str x.2.2]]) (fun x : Mc × Int × Bs => True) (fun x : Mc × Int × Bs => .bool (x.1.name == x.2.2))
theorem g_pl11_eq {m : Mc} {kd : Int} {s : Bs} (hd : True) : g_pl11 [eMc m, .ref [.int .i64 kd, .str s]] = some (.bool (m.name == s)) := encSpec_eq (x := (m, kd, s)) hd fun y hy => by
    obtain ⟨y0, y1, y2⟩ := y; simp only [List.cons.injEq, and_true, true_and, D.str.injEq, D.int.injEq, D.list.injEq, D.bool.injEq, D.agg.injEq, D.clo.injEq, Int.natCast_inj, inj_ie, D.ref.injEq, eTk_ie, eTk_e, eFl_ie, eSp_ie, eSp_e, eMc_e, eMc_ie] at hy
    (try obtain ⟨rfl, rfl, rfl⟩ := hy)
    (try subst_vars)
    rfl
theorem f_pl11_ok : PureOK Tryz.prog 26 true g_pl11 := by
  have hΓ := Γ0_ok
  refine pure_enc (n := 9) (rs := [.tmp 3]) Tryz.func26 (by kernel_rfl) rfl (by kernel_rfl) (by kernel_rfl) ?_
  rintro ⟨m, kd, s⟩ hd
  (try dsimp only at hd ⊢)
  refine ⟨fun _ => by (repeat (first | exact .int _ _ | exact .bool _ | exact .str _ | (refine .tup _ (fun d hd => ?_); simp only [List.mem_cons, List.not_mem_nil, or_false] at hd; rcases hd with rfl | hd))), fun k hz0 => ?_⟩
  obtain ⟨m1, m2, m3, m4, m5⟩ := m
  rw [eMc_eq]
  dsimp only
  generalize hc : (m1 == s) = c
  rw [start_frame (by simp)]; simp only [enumV, go_sem, emptyH]
  repeat (first
    | (apply axJ; (focus ((with_reducible constructor) <;> rfl)))
    | (apply awT mixedOK hΓ (by kernel_rfl); (simp (disch := omega) only [go_sem, ↓reduceIte, dk, ↓lk, Int.reduceBEq, Int.reduceBNe, Bool.true_bne, Bool.false_bne, Bool.not_true, Bool.not_false, hc] <;> with_reducible rfl))
    | ((first | apply awR hΓ | apply awG | apply awH mixedOK hΓ rfl (by kernel_rfl) | apply ovE rfl); (simp (disch := omega) only [go_sem, ↓reduceIte, dk, ↓lk, Int.reduceBEq, Int.reduceBNe, Bool.true_bne, Bool.false_bne, Bool.not_true, Bool.not_false, hc] <;> with_reducible rfl); exact trivial)
    | rfl)
  try rfl
noncomputable def g_anyPl : List D → Option D := encSpec (fun y : List Mc × Tk => [.list (y.1.map eMc), .clo 26 [.ref [i64 y.2.1, .str y.2.2]]]) (fun y => y.1.length ≤ 1099511627776) (fun y => .bool (y.1.any fun m : Mc => m.name == y.2.2))
theorem f_anyPl_ok : PureOK Tryz.prog 25 true g_anyPl := by
  refine pure_union (X := Tk) (G := fun w => gAnyD eMc (fun _ => True) 26 [.ref [i64 w.1, .str w.2]] (fun m => m.name == w.2)) (fun w => f_anyMc_ok f_pl11_ok fun y _ => g_pl11_eq (m := y) (kd := w.1) (s := w.2) trivial) fun ds d hd => ?_
  obtain ⟨⟨l, w⟩, rfl, h1, rfl⟩ := encSpec_some hd
  exact ⟨w, gAnyD_eq eMc_inj h1 (fun _ _ => trivial)⟩
theorem g_anyPl_eq {l : List Mc} {k : Int} {t : Bs} (h1 : l.length ≤ 1099511627776) : g_anyPl [.list (l.map eMc), .clo 26 [.ref [.int .i64 k, .str t]]] = some (.bool (l.any fun m : Mc => m.name == t)) := encSpec_eq (x := (l, (k, t))) h1 fun y hy => by
  obtain ⟨y1, ⟨y2, y3⟩⟩ := y
  simp only [List.cons.injEq, and_true, D.list.injEq, D.clo.injEq, D.ref.injEq, D.str.injEq, D.int.injEq, true_and, eMc_ie] at hy
  obtain ⟨rfl, rfl, rfl⟩ := hy
  rfl
def namedT (us : List Mc) (t : Tk) : Bool := us.any fun m => m.name == t.2
noncomputable def g_pl1 : List D → Option D := encSpec (fun x : Tk × (List Fl) × (List Mc) × (List Tk) × Bs × Int × Bs => [eTk x.1, .ref [.list (x.2.1.map eFl), .list (x.2.2.1.map eMc), .list (x.2.2.2.1.map eTk), .str x.2.2.2.2.1, i64 x.2.2.2.2.2.1, .str x.2.2.2.2.2.2]]) (fun x : Tk × (List Fl) × (List Mc) × (List Tk) × Bs × Int × Bs => x.2.2.1.length ≤ 1099511627776) (fun x : Tk × (List Fl) × (List Mc) × (List Tk) × Bs × Int × Bs => .bool (namedT x.2.2.1 x.1))
theorem g_pl1_eq {t : Tk} {fs : List Fl} {us : List Mc} {l : List Tk} {lp : Bs} {ln : Int} {tx : Bs} (hd : us.length ≤ 1099511627776) : g_pl1 [eTk t, .ref [.list (fs.map eFl), .list (us.map eMc), .list (l.map eTk), .str lp, .int .i64 ln, .str tx]] = some (.bool (namedT us t)) := encSpec_eq (x := (t, fs, us, l, lp, ln, tx)) hd fun y hy => by
    obtain ⟨y0, y1, y2, y3, y4, y5, y6⟩ := y; simp only [List.cons.injEq, and_true, true_and, D.str.injEq, D.int.injEq, D.list.injEq, D.bool.injEq, D.agg.injEq, D.clo.injEq, Int.natCast_inj, inj_ie, D.ref.injEq, eTk_ie, eTk_e, eFl_ie, eSp_ie, eSp_e, eMc_e, eMc_ie] at hy
    (try obtain ⟨rfl, rfl, rfl, rfl, rfl, rfl, rfl⟩ := hy)
    (try subst_vars)
    rfl
theorem f_pl1_ok : PureOK Tryz.prog 24 true g_pl1 := by
  have hΓ := Γp f_anyPl_ok (Γn)
  refine pure_enc (n := 8) (rs := [.tmp 3]) Tryz.func24 (by kernel_rfl) rfl (by kernel_rfl) (by kernel_rfl) ?_
  rintro ⟨t, fs, us, l, lp, ln, tx⟩ hd
  (try dsimp only at hd ⊢)
  refine ⟨fun _ => by (repeat (first | exact .int _ _ | exact .bool _ | exact .str _ | (refine .tup _ (fun d hd => ?_); simp only [List.mem_cons, List.not_mem_nil, or_false] at hd; rcases hd with rfl | hd))), fun k hz0 => ?_⟩
  obtain ⟨t1, t2⟩ := t
  have e1 := g_anyPl_eq (l := us) (k := t1) (t := t2) hd
  unfold namedT
  dsimp only
  generalize us.any (fun m => m.name == t2) = c at *
  rw [eTk_eq]
  rw [start_frame (by simp)]; simp only [enumV, go_sem, emptyH]
  repeat (first
    | (apply axJ; (focus ((with_reducible constructor) <;> rfl)))
    | (apply awT mixedOK hΓ (by kernel_rfl); (simp (disch := omega) only [go_sem, ↓reduceIte, dk, ↓lk, Int.reduceBEq, Int.reduceBNe, Bool.true_bne, Bool.false_bne, Bool.not_true, Bool.not_false, e1] <;> with_reducible rfl))
    | ((first | apply awR hΓ | apply awG | apply awH mixedOK hΓ rfl (by kernel_rfl) | apply ovE rfl); (simp (disch := omega) only [go_sem, ↓reduceIte, dk, ↓lk, Int.reduceBEq, Int.reduceBNe, Bool.true_bne, Bool.false_bne, Bool.not_true, Bool.not_false, e1] <;> with_reducible rfl); exact trivial)
    | rfl)
  try rfl
end Go.Ab
namespace Go.Ab
open Go Go.RowKit Go.Proofs
set_option maxRecDepth 100000
set_option maxHeartbeats 40000000
structure DtX where
  l : List Tk
  fs : List Fl
  us : List Mc
  l0 : List Tk
  lp : Bs
  ln : Int
  tx : Bs
structure DtOK (y : DtX) : Prop where
  n : y.l.length ≤ 1000000
  u : y.us.length ≤ 1099511627776
def dtB (y : DtX) : Obj := .box [.data (.list (y.fs.map eFl)), .data (.list (y.us.map eMc)), .data (.list (y.l0.map eTk)), .data (.str y.lp), .data (i64 y.ln), .data (.str y.tx)]
def dtA (y : DtX) : List AV := [.row 0 y.l.length, .fn 24 [.ptr 1 0]]
def dtO (y : DtX) : List Obj := [.row 55 2 (y.l.map eTk), dtB y]
def keptT (us : List Mc) (l : List Tk) : List Tk := l.filter fun t => !namedT us t
def DtG (y : DtX) (r : AV) (os : List Obj) : Prop := (keptT y.us y.l = y.l ∧ r = .row 0 y.l.length ∧ os = dtO y) ∨ (r = .row 2 (keptT y.us y.l).length ∧ os = [.dead, dtB y, .row 55 2 ((keptT y.us y.l).map eTk)])
theorem dt_inj (a b : DtX) (h : dtA a = dtA b) (h2 : dtO a = dtO b) : a = b := by
  obtain ⟨a1, a2, a3, a4, a5, a6, a7⟩ := a
  obtain ⟨b1, b2, b3, b4, b5, b6, b7⟩ := b
  simp only [dtO, dtB, List.cons.injEq, Obj.row.injEq, Obj.box.injEq, AV.data.injEq, D.str.injEq, D.int.injEq, D.list.injEq, true_and, and_true, eTk_ie, eFl_ie, eMc_ie] at h2
  obtain ⟨rfl, rfl, rfl, rfl, rfl, rfl, rfl⟩ := h2
  rfl
noncomputable def g_dixT : List D → Option D := encSpec (fun y : DtX => [.list (y.l.map eTk), .clo 24 [.ref (cCs y.fs y.us y.l0 y.lp y.ln y.tx)]]) (fun y => y.l.length ≤ 1099511627776 ∧ y.us.length ≤ 1099511627776) (fun y => i64 (idx (namedT y.us) y.l))
theorem f_dixT_ok : PureOK Tryz.prog 48 true g_dixT := by
  refine pure_union (X := {y : DtX // y.us.length ≤ 1099511627776}) (G := fun y => gIdxD eTk (fun _ => True) 24 [.ref (cCs y.1.fs y.1.us y.1.l0 y.1.lp y.1.ln y.1.tx)] (namedT y.1.us)) (fun y => f_idxTk_ok f_pl1_ok fun t _ => g_pl1_eq (t := t) (fs := y.1.fs) (us := y.1.us) (l := y.1.l0) (lp := y.1.lp) (ln := y.1.ln) (tx := y.1.tx) y.2) fun ds d hd => ?_
  obtain ⟨y, rfl, h1, rfl⟩ := encSpec_some hd
  exact ⟨⟨y, h1.2⟩, gIdxD_eq eTk_inj h1.1 (fun _ _ => trivial)⟩
theorem g_dixT_eq (y : DtX) (h1 : y.l.length ≤ 1099511627776 ∧ y.us.length ≤ 1099511627776) : g_dixT [.list (y.l.map eTk), .clo 24 [.ref (cCs y.fs y.us y.l0 y.lp y.ln y.tx)]] = some (i64 (idx (namedT y.us) y.l)) := encSpec_eq (x := y) h1 fun z hz => by
  obtain ⟨a1, a2, a3, a4, a5, a6, a7⟩ := y
  obtain ⟨b1, b2, b3, b4, b5, b6, b7⟩ := z
  simp only [cCs, List.cons.injEq, and_true, D.list.injEq, D.clo.injEq, D.ref.injEq, D.str.injEq, D.int.injEq, true_and, eMc_ie, eTk_ie, eFl_ie] at hz
  obtain ⟨rfl, rfl, rfl, rfl, rfl, rfl, rfl⟩ := hz
  rfl
theorem f_delT_ex : ∃ g, LocOK Tryz.prog 23 g ∧ ∀ y : DtX, DtOK y → ∃ r os, DtG y r os ∧ g (dtA y) (dtO y) = some (r, os) := by
  refine loc_ex (enc := dtA) (eno := dtO) (dom := DtOK) (good := DtG) (n := 42) (rs := [.tmp 4]) Tryz.func23 (by kernel_rfl) rfl (by kernel_rfl) (by kernel_rfl) dt_inj ?_
  rintro ⟨l, fs, us, l0, lp, ln, tx⟩ ⟨hn, hu⟩
  dsimp only at hn hu
  have hΓ := (Γp f_pl1_ok (Γp f_dixT_ok (Γn)))
  unfold dtA dtO dtB
  dsimp only
  have e77 := g_dixT_eq ⟨l, fs, us, l0, lp, ln, tx⟩ ⟨by dsimp only; omega, hu⟩
  unfold cCs at e77
  dsimp only at e77
  have e50 := fun t => g_pl1_eq (t := t) (fs := fs) (us := us) (l := l0) (lp := lp) (ln := ln) (tx := tx) hu
  rw [start_frameA (by simp)]; simp only [enumA, enumO, List.length_cons, List.length_nil, Nat.reduceAdd, go_sem]
  rcases idx_cases7 (namedT us) l with ⟨h1, h2⟩ | ⟨i, hi, h1, hp, h2⟩
  · rw [h1] at e77
    (repeat (first | (apply axJ; (focus ((with_reducible constructor) <;> rfl))) | ((first | apply axR hΓ | apply axG | apply ovX rfl | apply ovE rfl); (simp (disch := omega) only [go_sem, ↓reduceIte, ↓lk, dk, Int.reduceBEq, Int.reduceBNe, Bool.true_bne, Bool.false_bne, Bool.not_true, Bool.not_false, e77] <;> with_reducible rfl); exact trivial) | rfl))
    exact retl_x (r := .row 0 l.length) (os := [.row 55 2 (l.map eTk), .box [.data (.list (fs.map eFl)), .data (.list (us.map eMc)), .data (.list (l0.map eTk)), .data (.str lp), .data (i64 ln), .data (.str tx)]]) rfl (by simp (disch := omega) only [go_sem, ↓reduceIte, dk] <;> rfl) (Weak.of (by simp) ⟨rfl, trivial⟩ ⟨rfl, by simp, rfl, rfl, by simp, rfl, trivial⟩ rfl) (.inl ⟨h2, rfl, rfl⟩)
  · rw [h1] at e77
    have hz : ((i : Int) == -1) = false := by rw [beq_eq_false_iff_ne]; omega
    (repeat (first | (refine axA ?_; first | (apply axR hΓ; (simp (disch := omega) only [go_sem, ↓reduceIte, ↓lk, dk, Int.reduceBEq, Int.reduceBNe, Bool.true_bne, Bool.false_bne, Bool.not_true, Bool.not_false, e77, hz] <;> with_reducible rfl); exact trivial) | refine axA ?_ | refine axB ?_) | refine axB ?_ | (apply axK; (focus ((with_reducible constructor) <;> rfl))) | ((first | apply axR hΓ | apply axG | apply ovX rfl | apply ovE rfl); (simp (disch := omega) only [go_sem, ↓reduceIte, ↓lk, dk, Int.reduceBEq, Int.reduceBNe, Bool.true_bne, Bool.false_bne, Bool.not_true, Bool.not_false, e77, hz] <;> with_reducible rfl); exact trivial) | rfl))
    refine axp_loop_at (X := Nat × Nat × List Tk) (fun y => (frame 42 [(0, .row 0 l.length), (1, .fn 24 [.ptr 1 0]), (5, .data (i64 y.2.1)), (6, .data (i64 y.1))])) (fun y => [(0, .row 55 2 (y.2.2.map eTk)), (1, .box [.data (.list (fs.map eFl)), .data (.list (us.map eMc)), .data (.list (l0.map eTk)), .data (.str lp), .data (i64 ln), .data (.str tx)])]) 2
      (fun y => y.2.1 < y.1 ∧ y.1 ≤ l.length ∧ y.2.2.length = l.length ∧ y.2.2.take y.2.1 = (l.take y.1).filter (fun t => !namedT us t) ∧ y.2.2.drop y.1 = l.drop y.1) (fun y => l.length - y.1) (i + 1, i, l) ⟨by simp, hi, rfl, by
        rw [List.take_add_one, List.filter_append, h2, List.getElem?_eq_getElem hi]; (try simp [hp]), rfl⟩ (Weak.w (h3 := by simp [refsF, AV.refsOK, refsOKs])) ?_
    rintro ⟨j, i, m⟩ ⟨hij, hj, hml, ht, hd⟩
    dsimp only at hij hj hml ht hd ⊢
    by_cases hjl : j < l.length
    · have hjm : j < m.length := by omega
      have hmj := get_of_drop hd hjl hjm
      have e51 := e50 l[j]
      generalize hy : l[j] = y at *
      generalize hb : namedT us y = b at e51
      obtain ⟨y1, y2⟩ := y
      rw [eTk_eq] at e51
      cases b with
      | true =>
        obtain ⟨k1, k2⟩ := keep_skip (p := namedT us) hjl ht hd (by rw [hy]; exact hb)
        (repeat (first | (apply axJ; (focus ((with_reducible constructor) <;> rfl))) | ((first | apply axR hΓ | apply axG | apply ovX rfl | apply ovE rfl); (simp (disch := omega) only [go_sem, ↓reduceIte, ↓lk, dk, hmj, e51] <;> with_reducible rfl); exact trivial) | rfl))
        exact ⟨(j + 1, i, m), ⟨by dsimp only; omega, hjl, hml, k1, k2⟩, by dsimp only; omega, (Weak.w (h3 := by simp [refsF, AV.refsOK, refsOKs]))⟩
      | false =>
        obtain ⟨k1, k2⟩ := keep_step (p := namedT us) hjl hml hij ht hd (by rw [hy]; exact hb)
        rw [hy] at k1 k2
        have hs : (m.map eTk).set i (.agg [.int .i64 y1, .str y2]) = (m.set i (y1, y2)).map eTk := by rw [List.map_set]; rfl
        (repeat (first | (apply axJ; (focus ((with_reducible constructor) <;> rfl))) | ((first | apply axR hΓ | apply axG | apply ovX rfl | apply ovE rfl); (simp (disch := omega) only [go_sem, ↓reduceIte, ↓lk, dk, hmj, e51, hs] <;> with_reducible rfl); exact trivial) | rfl))
        exact ⟨(j + 1, i + 1, m.set i (y1, y2)), ⟨by dsimp only; omega, hjl, by simp [hml], k1, k2⟩, by dsimp only; omega, (Weak.w (h3 := by simp [refsF, AV.refsOK, refsOKs]))⟩
    · obtain rfl : j = l.length := by omega
      rw [List.take_length] at ht
      have hkl : (l.filter fun t => !namedT us t).length = i := by rw [← ht, List.length_take]; omega
      have hmt : (m.map eTk).take i = (l.filter fun t => !namedT us t).map eTk := by rw [← ht, List.map_take]
      refine axA ?_
      refine axA ?_
      (repeat (first | refine axB ?_ | (apply axK; (focus ((with_reducible constructor) <;> rfl))) | ((first | apply axR hΓ | apply axG | apply ovX rfl | apply ovE rfl); (simp (disch := omega) only [go_sem, ↓reduceIte, dk] <;> with_reducible rfl); exact trivial) | rfl))
      refine axp_cut (x := 0) (y := 5) (ob := 0) (i := i) (l := m.map eTk) (n := l.length) rfl rfl ⟨rfl, rfl, rfl⟩ ⟨rfl, rfl, rfl⟩ ⟨rfl, rfl, rfl⟩ ⟨rfl, rfl, rfl⟩ ⟨rfl, rfl, rfl⟩ ⟨rfl, rfl, rfl⟩ ⟨rfl, rfl, rfl⟩ ⟨rfl, rfl, rfl⟩ (by decide) ?_ ?_ ?_ ?_ ?_ ?_ ty_und38 ty_size55 ty_zero55 rfl (by decide) ?_
      · simp [frame]
      · simp (disch := omega) only [go_sem, ↓reduceIte, dk]
      · simp (disch := omega) only [go_sem, ↓reduceIte, dk]
      · rfl
      · simp [hml]
      · omega
      rw [hmt]
      (repeat (first | (apply axJ; (focus ((with_reducible constructor) <;> rfl))) | ((first | apply axR hΓ | apply axG | apply ovX rfl | apply ovE rfl); (simp (disch := omega) only [go_sem, ↓reduceIte, dk] <;> with_reducible rfl); exact trivial) | rfl))
      refine retl_x (r := .row 2 i) (os := [.dead, .box [.data (.list (fs.map eFl)), .data (.list (us.map eMc)), .data (.list (l0.map eTk)), .data (.str lp), .data (i64 ln), .data (.str tx)], .row 55 2 ((l.filter fun t => !namedT us t).map eTk)]) rfl (by simp (disch := omega) only [go_sem, ↓reduceIte, dk] <;> rfl) (Weak.packd (objs := [.dead, .box [.data (.list (fs.map eFl)), .data (.list (us.map eMc)), .data (.list (l0.map eTk)), .data (.str lp), .data (i64 ln), .data (.str tx)], .row 55 2 ((l.filter fun t => !namedT us t).map eTk)]) (fp := [0, 1, 6]) rfl rfl (by decide) rfl rfl) (.inr ⟨by simp only [keptT]; rw [hkl], rfl⟩)
noncomputable def g_delT := f_delT_ex.choose
theorem f_delT_ok : LocOK Tryz.prog 23 g_delT := f_delT_ex.choose_spec.1
theorem g_delT_eq {y : DtX} (h : DtOK y) : ∃ r os, DtG y r os ∧ g_delT (dtA y) (dtO y) = some (r, os) := f_delT_ex.choose_spec.2 y h
end Go.Ab
namespace Go.Ab
open Go Go.RowKit Go.Proofs
set_option maxRecDepth 100000
set_option maxHeartbeats 40000000
theorem eq_nilT7 (ao : Option Addr) (n cap : Nat) (w : World) : (binOp BinOp.eql 38 (.slice ao n cap) (.slice none 0 0)).run Tryz.prog w = .ok (.bool ao.isNone) w := by
  have heq : ∀ k, (Op.equalIn (k + 1) 38 (.slice ao n cap) (.slice none 0 0)).run Tryz.prog w = .ok ao.isNone w := fun k => by
    simp only [Op.equalIn, Sem.run_bind, run_underlying ty_und38, Result.andThen_ok, Sem.run_pure]
    cases ao <;> simp
  have h2 : (Op.equal 38 (.slice ao n cap) (.slice none 0 0)).run Tryz.prog w = .ok ao.isNone w := heq 9999
  simp only [binOp, Sem.run_bind, h2, Result.andThen_ok, Sem.run_pure]
theorem callCloT7 (ao : Option Addr) (cap : Nat) (w : World) :
    Calls Tryz.prog 22 #[.slice ao 0 cap] w fun e w' => ∃ v, e = .returned v ∧ ownsM w' w.heap.size 55 2 v 0 [] ∧ Below w.heap.size w w' := by
  cases ao with
  | none =>
    go_enter Tryz.func22, Tryz.ntmps22
    go_wp2
    rw [eq_nilT7]
    simp only [Result.andThen]
    rw [Oper.upon_value]
    go_wp2
    go_ret
    exact ⟨_, rfl, ⟨rfl, .inl ⟨rfl, rfl⟩⟩, Below.refl _ _⟩
  | some a =>
    go_enter Tryz.func22, Tryz.ntmps22
    go_wp2
    rw [eq_nilT7]
    simp only [Result.andThen]
    rw [Oper.upon_value]
    go_wp2
    go_ret
    exact ⟨_, rfl, ownsM_lit w #[] 0 (Nat.le_refl _) (Nat.zero_le _) rfl, (Below.refl _ _).alloc (Nat.le_refl _) _⟩
theorem f_cloT7_ex : ∃ g, OwnOK Tryz.prog 22 g ∧ ∀ l : List Tk, l.length ≤ 1099511627776 ∧ l ≠ [] → ∃ m, m = l.map eTk ∧ g [.list (l.map eTk)] = some (55, 2, m) := by
  have hΓ := Γ0_ok
  refine own_ex (enc := fun l : List Tk => [.list (l.map eTk)]) (dom := fun l => l.length ≤ 1099511627776 ∧ l ≠ []) (good := fun l m => m = l.map eTk) (t := 55) (sz := 2) (n := 8) (rs := [.tmp 2]) (by omega) Tryz.func22 (by kernel_rfl) rfl (by kernel_rfl) (by kernel_rfl) (fun a b h => by
    simp only [List.cons.injEq, and_true, D.list.injEq] at h
    exact cast (eTk_ie _ _) h) ?_
  rintro l ⟨hl, hne⟩
  obtain ⟨x, l, rfl⟩ := List.exists_cons_of_ne_nil hne
  refine ⟨fun l' hm => hm ▸ elemsOK_map (f := eTk) (sz := 2) (fun _ => ⟨rfl, rfl⟩) _, ?_⟩
  rw [List.map_cons, eTk_eq]
  rw [start_frame (by simp)]; simp only [enumV, go_sem, emptyH]
  have hem : elemsOK 2 (l.map eTk) = true := elemsOK_map (f := eTk) (sz := 2) (fun _ => ⟨rfl, rfl⟩) l
  have hml : (l.map eTk).length + 1 ≤ 1099511627776 := by simpa using hl
  generalize l.map eTk = m at *
  (repeat (first | (apply axJ; (focus ((with_reducible constructor) <;> rfl))) | ((first | apply axR hΓ | apply axG | apply ovX rfl | apply ovE rfl); (simp (disch := omega) only [go_sem, ↓reduceIte, ↓lk, dk, hem] <;> with_reducible rfl); exact trivial) | rfl))
  exact reto_x (o := 3) (l := eTk x :: m) rfl (by simp [go_sem]) rfl rfl
open Classical in
noncomputable def g_cloT7 : List D → Option (TypeId × Nat × List D) := fun ds => if ds = [.list []] then some (55, 2, []) else f_cloT7_ex.choose ds
theorem g_cloT7_eq {l : List Tk} (h : l.length ≤ 1099511627776) : g_cloT7 [.list (l.map eTk)] = some (55, 2, l.map eTk) := by
  cases l with
  | nil => rw [List.map_nil]; exact if_pos rfl
  | cons x l =>
    obtain ⟨m, rfl, h2⟩ := f_cloT7_ex.choose_spec.2 (x :: l) ⟨h, by simp⟩
    rw [← h2]
    exact if_neg (by simp)
theorem f_cloT7_ok : OwnOK Tryz.prog 22 g_cloT7 := by
  intro ds e sz l hd
  unfold g_cloT7 at hd
  by_cases hds : ds = [.list []]
  · rw [if_pos hds] at hd
    cases hd
    subst hds
    refine ⟨by omega, by simp, by simp [flat], fun w B vs hB hz hvs => ⟨⟨_, Tryz.func22, rfl, rfl⟩, ?_⟩⟩
    obtain ⟨u, hu⟩ : ∃ u, vs[0]? = some u := ⟨_, Array.getElem?_eq_getElem (by simp at hz; omega)⟩
    obtain ⟨ao, cap, hv, _⟩ := (hvs 0 (by simp) u hu).list_inv
    have hvs2 : vs = #[.slice ao 0 cap] := by
      apply Array.ext_getElem?
      intro i
      match i with
      | 0 => rw [hu, hv]; rfl
      | i + 1 => rw [Array.getElem?_eq_none (by simp at hz; omega), Array.getElem?_eq_none (by simp)]
    rw [hvs2]
    refine (callCloT7 ao cap w).mono ?_
    rintro e w' ⟨v, rfl, ho, hb⟩
    exact ⟨_, rfl, ⟨[], ho, fun i hi => by simp [flat] at hi⟩, hb⟩
  · rw [if_neg hds] at hd
    exact f_cloT7_ex.choose_spec.1 ds e sz l hd
end Go.Ab
namespace Go.Ab
open Go Go.RowKit Go.Proofs
set_option maxRecDepth 100000
set_option maxHeartbeats 40000000
theorem meant_plain {us : List Mc} {t : Tk} (h : namedT us t = false) : meantB us (t, []) = none := by
  unfold meantB
  split
  · rfl
  · rw [List.find?_eq_none]
    intro m hm hn
    unfold namedT at h
    rw [List.any_eq_false] at h
    exact h m hm hn
theorem line_plain {fs : List Fl} {us : List Mc} {l : List Tk} (h : allV l = true) : lineG fs us (keptT us l) = ((keptT us l, []), 0) := by
  unfold allV at h
  simp only [Bool.and_eq_true, decide_eq_true_eq] at h
  have hl : (keptT us l).length ≤ l.length := List.length_filter_le _ _
  rw [lineG_eq, if_neg (by simp only [decide_eq_true_eq]; omega), if_pos (by
    rw [List.all_eq_true] at h ⊢
    exact fun t ht => h.1 t (List.mem_filter.1 ht).1)]
  have hf : findG us (w0 (keptT us l)) = none := findG_none.2 fun w hw => by
    obtain ⟨t, ht, rfl⟩ := List.mem_map.1 hw
    have := (List.mem_filter.1 ht).2
    exact meant_plain (by simpa using this)
  rw [loopG_eq, hf]
  dsimp only
  rw [setG_nil]
  unfold w0
  rw [List.map_map]
  show ((List.map id _, _), _) = _
  rw [List.map_id]
noncomputable def g_law7p : List D → Option D := encSpec (fun x : (List Fl) × (List Mc) × (List Tk) × Bs × Int × Bs => [.agg [.list (x.1.map eFl), .list (x.2.1.map eMc), .list (x.2.2.1.map eTk), .str x.2.2.2.1, i64 x.2.2.2.2.1, .str x.2.2.2.2.2]]) (fun x : (List Fl) × (List Mc) × (List Tk) × Bs × Int × Bs => (x.1.length ≤ 1099511627776 ∧ ∀ f ∈ x.1, f.2.length ≤ 1099511627776) ∧ (x.2.1.length ≤ 1099511627776 ∧ ∀ m ∈ x.2.1, m.params.length ≤ 1099511627776) ∧ x.2.2.1.length ≤ 1099511627776) (fun x : (List Fl) × (List Mc) × (List Tk) × Bs × Int × Bs => .bool true)
theorem f_law7p_ok : PureOK Tryz.prog 7 true g_law7p := by
  have hΓ := Γp f_wk07_ok (Γp f_fewC_ok (Γp f_allVR_ok (Γo f_cloT7_ok (Γq f_delT_ok (Γp f_unit07_ok (Γp f_lineP7_ok (Γp f_sameT_ok (Γn))))))))
  refine pure_enc (n := 45) (rs := [.tmp 2]) Tryz.func7 (by kernel_rfl) rfl (by kernel_rfl) (by kernel_rfl) ?_
  rintro ⟨fs, us, l, lp, ln, tx⟩ hd
  (try dsimp only at hd ⊢)
  refine ⟨fun _ => by (repeat (first | exact .int _ _ | exact .bool _ | exact .str _ | (refine .tup _ (fun d hd => ?_); simp only [List.mem_cons, List.not_mem_nil, or_false] at hd; rcases hd with rfl | hd))), fun k hz0 => ?_⟩
  have e0 := g_wk07_eq
  have e1 := g_fewC_eq (fs := fs) (us := us) (l := l) (lp := lp) (ln := ln) (tx := tx) hd
  have e2 := g_unit07_eq (fs := fs) (us := us) (l := l) (lp := lp) (ln := ln) (tx := tx) trivial
  rw [eU_eq] at e2
  have hf := @few07_d fs us l tx
  generalize few07 fs us l tx = c at *
  rw [start_frame (by simp)]; simp only [enumV, go_sem, emptyH]
  cases c
  · repeat (first
    | (apply axJ; (focus ((with_reducible constructor) <;> rfl)))
    | (apply awT mixedOK hΓ (by kernel_rfl); (simp (disch := omega) only [go_sem, ↓reduceIte, dk, ↓lk, Int.reduceBEq, Int.reduceBNe, Bool.true_bne, Bool.false_bne, Bool.not_true, Bool.not_false, e0, e1] <;> with_reducible rfl))
    | ((first | apply awR hΓ | apply awG | apply awH mixedOK hΓ rfl (by kernel_rfl) | apply ovE rfl); (simp (disch := omega) only [go_sem, ↓reduceIte, dk, ↓lk, Int.reduceBEq, Int.reduceBNe, Bool.true_bne, Bool.false_bne, Bool.not_true, Bool.not_false, e0, e1] <;> with_reducible rfl); exact trivial)
    | rfl)
    try rfl
  obtain ⟨⟨f1, f2⟩, ⟨f3, f4⟩, ⟨f5, f6⟩, f7⟩ := hf rfl
  have e3 := g_allVR_eq (l := l) ⟨by omega, fun t ht => by have := f6 t ht; omega⟩
  have hpl := @line_plain fs us l
  cases hv : allV l
  · rw [hv] at e3
    repeat (first
      | (apply axJ; (focus ((with_reducible constructor) <;> rfl)))
      | (apply awT mixedOK hΓ (by kernel_rfl); (simp (disch := omega) only [go_sem, ↓reduceIte, dk, ↓lk, Int.reduceBEq, Int.reduceBNe, Bool.true_bne, Bool.false_bne, Bool.not_true, Bool.not_false, e0, e1, e3] <;> with_reducible rfl))
      | ((first | apply awR hΓ | apply awG | apply awH mixedOK hΓ rfl (by kernel_rfl) | apply ovE rfl); (simp (disch := omega) only [go_sem, ↓reduceIte, dk, ↓lk, Int.reduceBEq, Int.reduceBNe, Bool.true_bne, Bool.false_bne, Bool.not_true, Bool.not_false, e0, e1, e3] <;> with_reducible rfl); exact trivial)
      | rfl)
    try rfl
  rw [hv] at e3
  replace hpl := hpl hv
  have hkl : (keptT us l).length ≤ l.length := List.length_filter_le _ _
  have e4 := g_lineP7_eq (fs := fs) (us := us) (l := keptT us l) ⟨⟨⟨by omega, fun f hf => by have := f2 f hf; omega⟩, by omega, fun m hm => by have := f4 m hm; omega⟩, by omega, fun t ht => by have := f6 t (List.mem_filter.1 ht).1; omega⟩
  rw [hpl, eU_eq] at e4
  unfold eLR at e4
  dsimp only [List.map_nil] at e4
  have e5 := g_sameT_eq (a := keptT us l) (b := keptT us l) ⟨by omega, by omega⟩
  rw [decide_eq_true rfl] at e5
  have e6 := g_cloT7_eq (l := l) (by omega)
  obtain ⟨r, os, hG, e7⟩ := g_delT_eq (y := ⟨l, fs, us, l, lp, ln, tx⟩) ⟨by dsimp only; omega, by dsimp only; omega⟩
  unfold dtA dtO dtB at e7
  dsimp only at e7
  have hz : (((0 : Nat) : Int) == 0) = true := rfl
  rcases hG with ⟨hk, rfl, rfl⟩ | ⟨rfl, rfl⟩
  · dsimp only at hk
    rw [hk] at e4 e5
    unfold dtO dtB at e7
    dsimp only at e7
    have hcall : ∀ k m, callLoc k ⟨[(0, .box [.data (.list (fs.map eFl)), .data (.list (us.map eMc)), .data (.list (l.map eTk)), .data (.str lp), .data (i64 ln), .data (.str tx)]), (15, .row 55 2 (l.map eTk))], m⟩ g_delT [.row 15 l.length, .fn 24 [.ptr 0 0]] = some (.row 15 l.length, ⟨[(0, .box [.data (.list (fs.map eFl)), .data (.list (us.map eMc)), .data (.list (l.map eTk)), .data (.str lp), .data (i64 ln), .data (.str tx)]), (15, .row 55 2 (l.map eTk))], k⟩) := fun k m => (callLoc_of (fp := [15, 0]) rfl rfl rfl e7 (Nat.le_refl _)).trans rfl
    repeat (first
      | (apply axJ; (focus ((with_reducible constructor) <;> rfl)))
      | (apply awT mixedOK hΓ (by kernel_rfl); (simp (disch := omega) only [go_sem, ↓reduceIte, dk, ↓lk, Int.reduceBEq, Int.reduceBNe, Bool.true_bne, Bool.false_bne, Bool.not_true, Bool.not_false, e0, e1, e3, e6, hcall] <;> with_reducible rfl))
      | ((first | apply awR hΓ | apply awG | apply awH mixedOK hΓ rfl (by kernel_rfl) | apply ovE rfl); (simp (disch := omega) only [go_sem, ↓reduceIte, dk, ↓lk, Int.reduceBEq, Int.reduceBNe, Bool.true_bne, Bool.false_bne, Bool.not_true, Bool.not_false, e0, e1, e3, e6, hcall] <;> with_reducible rfl); exact trivial)
      | rfl)
    refine awp_weak ((Weak.freeze (o := 15) rfl).trans (show Weak _ _ _ ((frame 45 [(1, .ptr 0 0), (3, .data (.list (l.map eTk)))])) ⟨[(0, .box [.data (.list (fs.map eFl)), .data (.list (us.map eMc)), .data (.list (l.map eTk)), .data (.str lp), .data (i64 ln), .data (.str tx)])], 19⟩ from Weak.v (by (simp [ConvF, lookV, Conv, ints, upd, Heap.set, Heap.get, look, List.length_map]; done)) (by (simp (disch := omega) only [TabSub, look, if_pos, if_neg, Obj.refsOK, refsOKs, AV.refsOK, decide_eq_true_eq, Bool.and_true, Bool.and_self, upd, Heap.set, Heap.get, look, List.length_map] ) <;> ((repeat' apply And.intro) <;> first | exact True.intro | omega | (simp; done) | rfl)))) ?_
    repeat (first
      | (apply axJ; (focus ((with_reducible constructor) <;> rfl)))
      | (apply awT mixedOK hΓ (by kernel_rfl); (simp (disch := omega) only [go_sem, ↓reduceIte, dk, ↓lk, Int.reduceBEq, Int.reduceBNe, Bool.true_bne, Bool.false_bne, Bool.not_true, Bool.not_false, BEq.rfl, e2, e4, e5] <;> with_reducible rfl))
      | ((first | apply awR hΓ | apply awG | apply awH mixedOK hΓ rfl (by kernel_rfl) | apply ovE rfl); (simp (disch := omega) only [go_sem, ↓reduceIte, dk, ↓lk, Int.reduceBEq, Int.reduceBNe, Bool.true_bne, Bool.false_bne, Bool.not_true, Bool.not_false, BEq.rfl, e2, e4, e5] <;> with_reducible rfl); exact trivial)
      | rfl)
    try rfl
  · unfold dtB at e7
    dsimp only at e7
    generalize keptT us l = kp at *
    have hcall : ∀ m, callLoc 17 ⟨[(0, .box [.data (.list (fs.map eFl)), .data (.list (us.map eMc)), .data (.list (l.map eTk)), .data (.str lp), .data (i64 ln), .data (.str tx)]), (15, .row 55 2 (l.map eTk))], m⟩ g_delT [.row 15 l.length, .fn 24 [.ptr 0 0]] = some (.row 17 kp.length, ⟨[(0, .box [.data (.list (fs.map eFl)), .data (.list (us.map eMc)), .data (.list (l.map eTk)), .data (.str lp), .data (i64 ln), .data (.str tx)]), (15, .dead), (17, .row 55 2 (kp.map eTk))], 18⟩) := fun m => (callLoc_of (fp := [15, 0]) rfl rfl rfl e7 (by simp)).trans rfl
    repeat (first
      | (apply axJ; (focus ((with_reducible constructor) <;> rfl)))
      | (apply awT mixedOK hΓ (by kernel_rfl); (simp (disch := omega) only [go_sem, ↓reduceIte, dk, ↓lk, Int.reduceBEq, Int.reduceBNe, Bool.true_bne, Bool.false_bne, Bool.not_true, Bool.not_false, e0, e1, e3, e6, hcall] <;> with_reducible rfl))
      | ((first | apply awR hΓ | apply awG | apply awH mixedOK hΓ rfl (by kernel_rfl) | apply ovE rfl); (simp (disch := omega) only [go_sem, ↓reduceIte, dk, ↓lk, Int.reduceBEq, Int.reduceBNe, Bool.true_bne, Bool.false_bne, Bool.not_true, Bool.not_false, e0, e1, e3, e6, hcall] <;> with_reducible rfl); exact trivial)
      | rfl)
    refine awp_weak ((Weak.freeze (o := 17) rfl).trans (show Weak _ _ _ ((frame 45 [(1, .ptr 0 0), (3, .data (.list (kp.map eTk)))])) ⟨[(0, .box [.data (.list (fs.map eFl)), .data (.list (us.map eMc)), .data (.list (l.map eTk)), .data (.str lp), .data (i64 ln), .data (.str tx)])], 19⟩ from Weak.v (by (simp [ConvF, lookV, Conv, ints, upd, Heap.set, Heap.get, look, List.length_map]; done)) (by (simp (disch := omega) only [TabSub, look, if_pos, if_neg, Obj.refsOK, refsOKs, AV.refsOK, decide_eq_true_eq, Bool.and_true, Bool.and_self, upd, Heap.set, Heap.get, look, List.length_map] ) <;> ((repeat' apply And.intro) <;> first | exact True.intro | omega | (simp; done) | rfl)))) ?_
    repeat (first
      | (apply axJ; (focus ((with_reducible constructor) <;> rfl)))
      | (apply awT mixedOK hΓ (by kernel_rfl); (simp (disch := omega) only [go_sem, ↓reduceIte, dk, ↓lk, Int.reduceBEq, Int.reduceBNe, Bool.true_bne, Bool.false_bne, Bool.not_true, Bool.not_false, BEq.rfl, e2, e4, e5] <;> with_reducible rfl))
      | ((first | apply awR hΓ | apply awG | apply awH mixedOK hΓ rfl (by kernel_rfl) | apply ovE rfl); (simp (disch := omega) only [go_sem, ↓reduceIte, dk, ↓lk, Int.reduceBEq, Int.reduceBNe, Bool.true_bne, Bool.false_bne, Bool.not_true, Bool.not_false, BEq.rfl, e2, e4, e5] <;> with_reducible rfl); exact trivial)
      | rfl)
    try rfl
end Go.Ab
