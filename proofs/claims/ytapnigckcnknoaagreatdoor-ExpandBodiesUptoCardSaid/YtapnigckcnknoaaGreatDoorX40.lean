/-
  One text of the proof (own work): contracts of functions of the program, by the abstract machine.
-/
import Derived.Test.YtapnigckcnknoaaGreatDoorX19
import Derived.Test.YtapnigckcnknoaaGreatDoorX39
import Derived.Test.YtapnigckcnknoaaGreatDoorX22
import Derived.Test.YtapnigckcnknoaaGreatDoorX17
import Derived.Test.YtapnigckcnknoaaGreatDoorX18
import Derived.Test.YtapnigckcnknoaaGreatDoorX23
set_option linter.unusedVariables false
set_option linter.unusedSimpArgs false
namespace Go.Ab
open Go Go.RowKit Go.Proofs
set_option maxRecDepth 100000
set_option maxHeartbeats 40000000
def dlA (l : List Sp) : List AV := [.row 0 l.length, .data (.clo 68 [])]
def dlO (l : List Sp) : List Obj := [.row 26 3 (l.map eSp)]
def keptS (l : List Sp) : List Sp := l.filter fun y => !emptyS y
def DlG (l : List Sp) (r : AV) (os : List Obj) : Prop := (keptS l = l ∧ r = .row 0 l.length ∧ os = dlO l) ∨ (r = .row 1 (keptS l).length ∧ os = [.dead, .row 26 3 ((keptS l).map eSp)])
theorem dl_inj (x y : List Sp) (h : dlA x = dlA y) (h2 : dlO x = dlO y) : x = y := by
  simp only [dlO, List.cons.injEq, Obj.row.injEq, true_and, and_true, eSp_ie] at h2
  exact h2
theorem keep_step {α : Type} {p : α → Bool} {l m : List α} {i j : Nat} (hj : j < l.length) (hm : m.length = l.length) (hij : i < j) (h1 : m.take i = (l.take j).filter fun y => !p y) (h2 : m.drop j = l.drop j) (hp : p l[j] = false) :
    (m.set i l[j]).take (i + 1) = (l.take (j + 1)).filter (fun y => !p y) ∧ (m.set i l[j]).drop (j + 1) = l.drop (j + 1) := by
  constructor
  · rw [List.take_add_one, List.take_set_of_le (Nat.le_refl _), h1, List.take_add_one (l := l), List.filter_append, List.getElem?_eq_getElem hj]
    simp [hp, show i < m.length by omega]
  · rw [List.drop_set_of_lt (by omega), ← List.drop_drop (i := 1) (j := j), h2, List.drop_drop]
theorem keep_skip {α : Type} {p : α → Bool} {l m : List α} {i j : Nat} (hj : j < l.length) (h1 : m.take i = (l.take j).filter fun y => !p y) (h2 : m.drop j = l.drop j) (hp : p l[j] = true) :
    m.take i = (l.take (j + 1)).filter (fun y => !p y) ∧ m.drop (j + 1) = l.drop (j + 1) := by
  constructor
  · rw [h1, List.take_add_one (l := l), List.filter_append, List.getElem?_eq_getElem hj]
    simp [hp]
  · rw [← List.drop_drop (i := 1) (j := j), h2, List.drop_drop]
theorem get_of_drop {α : Type} {l m : List α} {j : Nat} (h : m.drop j = l.drop j) (hj : j < l.length) (hm : j < m.length) : m[j] = l[j] := by
  have := congrArg (·[0]?) h
  simpa [hj, hm] using this
theorem idx_cases7 {α : Type} (p : α → Bool) (l : List α) : (idx p l = -1 ∧ l.filter (fun y => !p y) = l) ∨ ∃ (i : Nat) (h : i < l.length), idx p l = i ∧ p l[i] = true ∧ (l.take i).filter (fun y => !p y) = l.take i := by
  unfold idx
  cases hf : l.findIdx? p with
  | none =>
    left
    rw [List.findIdx?_eq_none_iff] at hf
    exact ⟨rfl, List.filter_eq_self.2 fun x hx => by simp [hf x hx]⟩
  | some i =>
    right
    obtain ⟨h1, h2, h3⟩ := List.findIdx?_eq_some_iff_getElem.1 hf
    refine ⟨i, h1, rfl, h2, List.filter_eq_self.2 fun x hx => ?_⟩
    obtain ⟨j, hj, rfl⟩ := List.mem_iff_getElem.1 hx
    rw [List.length_take] at hj
    have := h3 j (by omega)
    simp only [List.getElem_take]
    simpa using this
theorem set1_eq (s : Sp) : g_set1 [.agg [.str s.1, .int .i64 s.2.1, .int .i64 s.2.2]] = some (.bool (emptyS s)) := g_set1_eq (s := s) trivial
theorem f_del_ex : ∃ g, LocOK Tryz.prog 66 g ∧ ∀ l : List Sp, l.length ≤ 1000000 → ∃ r os, DlG l r os ∧ g (dlA l) (dlO l) = some (r, os) := by
  refine loc_ex (enc := dlA) (eno := dlO) (dom := fun l => l.length ≤ 1000000) (good := DlG) (n := 42) (rs := [.tmp 4]) Tryz.func66 (by kernel_rfl) rfl (by kernel_rfl) (by kernel_rfl) dl_inj ?_
  intro l hn
  have hΓ := (Γp f_set1_ok (Γp f_dix_ok (Γn)))
  unfold dlA dlO
  have e77 : g_dix [.list (l.map eSp), .clo 68 []] = some (.int .i64 (idx emptyS l)) := gIdxD_eq (e := eSp) (dm := fun _ => True) eSp_inj (by omega) (fun _ _ => trivial)
  rw [start_frameA (by simp)]; simp only [enumA, enumO, List.length_cons, List.length_nil, Nat.reduceAdd, go_sem]
  rcases idx_cases7 emptyS l with ⟨h1, h2⟩ | ⟨i, hi, h1, hp, h2⟩
  · rw [h1] at e77
    (repeat (first | (apply axJ; (focus ((with_reducible constructor) <;> rfl))) | ((first | apply axR hΓ | apply axG | apply ovX rfl | apply ovE rfl); (simp (disch := omega) only [go_sem, ↓reduceIte, ↓lk, dk, Int.reduceBEq, Int.reduceBNe, Bool.true_bne, Bool.false_bne, Bool.not_true, Bool.not_false, e77] <;> with_reducible rfl); exact trivial) | rfl))
    exact retl_x (r := .row 0 l.length) (os := [.row 26 3 (l.map eSp)]) rfl (by simp (disch := omega) only [go_sem, ↓reduceIte, dk] <;> rfl) (Weak.of (by simp) ⟨rfl, trivial⟩ ⟨rfl, by simp, rfl, trivial⟩ rfl) (.inl ⟨h2, rfl, rfl⟩)
  · rw [h1] at e77
    have hz : ((i : Int) == -1) = false := by rw [beq_eq_false_iff_ne]; omega
    (repeat (first | (refine axA ?_; first | (apply axR hΓ; (simp (disch := omega) only [go_sem, ↓reduceIte, ↓lk, dk, Int.reduceBEq, Int.reduceBNe, Bool.true_bne, Bool.false_bne, Bool.not_true, Bool.not_false, e77, hz] <;> with_reducible rfl); exact trivial) | refine axA ?_ | refine axB ?_) | refine axB ?_ | (apply axK; (focus ((with_reducible constructor) <;> rfl))) | ((first | apply axR hΓ | apply axG | apply ovX rfl | apply ovE rfl); (simp (disch := omega) only [go_sem, ↓reduceIte, ↓lk, dk, Int.reduceBEq, Int.reduceBNe, Bool.true_bne, Bool.false_bne, Bool.not_true, Bool.not_false, e77, hz] <;> with_reducible rfl); exact trivial) | rfl))
    refine axp_loop_at (X := Nat × Nat × List Sp) (fun x => (frame 42 [(0, .row 0 l.length), (1, .data (.clo 68 [])), (5, .data (i64 x.2.1)), (6, .data (i64 x.1))])) (fun x => [(0, .row 26 3 (x.2.2.map eSp))]) 1
      (fun x => x.2.1 < x.1 ∧ x.1 ≤ l.length ∧ x.2.2.length = l.length ∧ x.2.2.take x.2.1 = (l.take x.1).filter (fun y => !emptyS y) ∧ x.2.2.drop x.1 = l.drop x.1) (fun x => l.length - x.1) (i + 1, i, l) ⟨by simp, hi, rfl, by
        rw [List.take_add_one, List.filter_append, h2, List.getElem?_eq_getElem hi]; (try simp [hp]), rfl⟩ (Weak.w (h3 := by simp [refsF, AV.refsOK, refsOKs])) ?_
    rintro ⟨j, i, m⟩ ⟨hij, hj, hml, ht, hd⟩
    dsimp only at hij hj hml ht hd ⊢
    by_cases hjl : j < l.length
    · have hjm : j < m.length := by omega
      have hmj := get_of_drop hd hjl hjm
      have e51 := set1_eq l[j]
      generalize hy : l[j] = y at *
      generalize hb : emptyS y = b at e51
      cases b with
      | true =>
        obtain ⟨k1, k2⟩ := keep_skip (p := emptyS) hjl ht hd (by rw [hy]; exact hb)
        (repeat (first | (apply axJ; (focus ((with_reducible constructor) <;> rfl))) | ((first | apply axR hΓ | apply axG | apply ovX rfl | apply ovE rfl); (simp (disch := omega) only [go_sem, ↓reduceIte, ↓lk, dk, hmj, e51] <;> with_reducible rfl); exact trivial) | rfl))
        exact ⟨(j + 1, i, m), ⟨by dsimp only; omega, hjl, hml, k1, k2⟩, by dsimp only; omega, (Weak.w (h3 := by simp [refsF, AV.refsOK, refsOKs]))⟩
      | false =>
        obtain ⟨k1, k2⟩ := keep_step (p := emptyS) hjl hml hij ht hd (by rw [hy]; exact hb)
        rw [hy] at k1 k2
        have hs : (m.map eSp).set i (.agg [.str y.1, .int .i64 y.2.1, .int .i64 y.2.2]) = (m.set i y).map eSp := by rw [List.map_set]; rfl
        (repeat (first | (apply axJ; (focus ((with_reducible constructor) <;> rfl))) | ((first | apply axR hΓ | apply axG | apply ovX rfl | apply ovE rfl); (simp (disch := omega) only [go_sem, ↓reduceIte, ↓lk, dk, hmj, e51, hs] <;> with_reducible rfl); exact trivial) | rfl))
        exact ⟨(j + 1, i + 1, m.set i y), ⟨by dsimp only; omega, hjl, by simp [hml], k1, k2⟩, by dsimp only; omega, (Weak.w (h3 := by simp [refsF, AV.refsOK, refsOKs]))⟩
    · obtain rfl : j = l.length := by omega
      rw [List.take_length] at ht
      have hkl : (l.filter fun y => !emptyS y).length = i := by rw [← ht, List.length_take]; omega
      have hmt : (m.map eSp).take i = (l.filter fun y => !emptyS y).map eSp := by rw [← ht, List.map_take]
      refine axA ?_
      refine axA ?_
      (repeat (first | refine axB ?_ | (apply axK; (focus ((with_reducible constructor) <;> rfl))) | ((first | apply axR hΓ | apply axG | apply ovX rfl | apply ovE rfl); (simp (disch := omega) only [go_sem, ↓reduceIte, dk] <;> with_reducible rfl); exact trivial) | rfl))
      refine axp_cut (x := 0) (y := 5) (ob := 0) (i := i) (l := m.map eSp) (n := l.length) rfl rfl ⟨rfl, rfl, rfl⟩ ⟨rfl, rfl, rfl⟩ ⟨rfl, rfl, rfl⟩ ⟨rfl, rfl, rfl⟩ ⟨rfl, rfl, rfl⟩ ⟨rfl, rfl, rfl⟩ ⟨rfl, rfl, rfl⟩ ⟨rfl, rfl, rfl⟩ (by decide) ?_ ?_ ?_ ?_ ?_ ?_ ty_und34 ty_size26 ty_zero26 rfl (by decide) ?_
      · simp [frame]
      · simp (disch := omega) only [go_sem, ↓reduceIte, dk]
      · simp (disch := omega) only [go_sem, ↓reduceIte, dk]
      · rfl
      · simp [hml]
      · omega
      rw [hmt]
      (repeat (first | (apply axJ; (focus ((with_reducible constructor) <;> rfl))) | ((first | apply axR hΓ | apply axG | apply ovX rfl | apply ovE rfl); (simp (disch := omega) only [go_sem, ↓reduceIte, dk] <;> with_reducible rfl); exact trivial) | rfl))
      refine retl_x (r := .row 1 i) (os := [.dead, .row 26 3 ((l.filter fun y => !emptyS y).map eSp)]) rfl (by simp (disch := omega) only [go_sem, ↓reduceIte, dk] <;> rfl) (Weak.packd (objs := [.dead, .row 26 3 ((l.filter fun y => !emptyS y).map eSp)]) (fp := [0, 5]) rfl rfl (by decide) rfl rfl) (.inr ⟨by simp only [keptS]; rw [hkl], rfl⟩)
noncomputable def g_delS := f_del_ex.choose
theorem f_delS_ok : LocOK Tryz.prog 66 g_delS := f_del_ex.choose_spec.1
theorem g_delS_eq {l : List Sp} (h : l.length ≤ 1000000) : ∃ r os, DlG l r os ∧ g_delS (dlA l) (dlO l) = some (r, os) := f_del_ex.choose_spec.2 l h
end Go.Ab
namespace Go.Ab
open Go Go.RowKit
noncomputable def locSpec {X : Type} (enc : X → List AV) (eno : X → List Obj) (dom : X → Prop) (out : X → AV × List Obj) (xs : List AV) (os : List Obj) : Option (AV × List Obj) :=
  open Classical in if h : ∃ x, enc x = xs ∧ eno x = os ∧ dom x then some (out h.choose) else none
theorem locSpec_eq {X : Type} {enc : X → List AV} {eno : X → List Obj} {dom : X → Prop} {out : X → AV × List Obj} {x : X} (hx : dom x) (inj : ∀ y, enc y = enc x → eno y = eno x → out y = out x) : locSpec enc eno dom out (enc x) (eno x) = some (out x) := by
  have h : ∃ y, enc y = enc x ∧ eno y = eno x ∧ dom y := ⟨x, rfl, rfl, hx⟩
  unfold locSpec
  rw [dif_pos h, inj _ h.choose_spec.1 h.choose_spec.2.1]
end Go.Ab
namespace Go.Ab
open Go Go.RowKit
theorem scalar_one {l : List D} (h : l.all D.scalar = true) : (∀ d ∈ l, d.cells.length = 1) ∧ ∀ d ∈ l, d.one = true := by
  rw [List.all_eq_true] at h
  refine ⟨fun d hd => ?_, fun d hd => ?_⟩
  · have := h d hd
    cases d <;> first | rfl | (exact absurd this (by simp [D.scalar]))
  · have := h d hd
    cases d <;> first | rfl | (exact absurd this (by simp [D.scalar]))
structure RowTurn (w w' : World) (e : TypeId) (v v' : Value) (xs : List Value) : Prop where
  own : ownsM w' 0 e 1 v' xs.length xs
  os : w'.os = w.os
  tape : w'.tape = w.tape
  output : w'.output = w.output
  size : w.heap.size ≤ w'.heap.size
  blk' : ∀ b, blk v' = some b → blk v = some b
  block : ∀ b, b < w.heap.size → blk v ≠ some b → w'.heap[b]? = w.heap[b]?
section
variable {P : Program} {f : FuncId} {fn : Func} {e : TypeId} {dom : List D → Prop} {out : List D → List D}
end
end Go.Ab
namespace Go.Ab
open Go Go.RowKit
def D.wide (k : Nat) (d : D) : Prop := d.cells.length = k ∧ d.cells.all D.scalar = true
theorem wide_flat {k : Nat} {l : List D} (h : ∀ d ∈ l, d.wide k) : (flat l).all D.scalar = true ∧ (∀ d ∈ l, d.cells.length = k) ∧ ∀ d ∈ flat l, d.one = true := by
  have h1 : (flat l).all D.scalar = true := by
    rw [List.all_eq_true]
    intro d hd
    unfold flat at hd
    rw [List.mem_flatMap] at hd
    obtain ⟨x, hx, hdx⟩ := hd
    exact List.all_eq_true.1 (h x hx).2 d hdx
  exact ⟨h1, fun d hd => (h d hd).1, (scalar_one h1).2⟩
structure RowTurnK (w w' : World) (e : TypeId) (k : Nat) (v v' : Value) (n : Nat) (xs : List Value) : Prop where
  own : ownsM w' 0 e k v' n xs
  os : w'.os = w.os
  tape : w'.tape = w.tape
  output : w'.output = w.output
  size : w.heap.size ≤ w'.heap.size
  blk' : ∀ b, blk v' = some b → blk v = some b
  block : ∀ b, b < w.heap.size → blk v ≠ some b → w'.heap[b]? = w.heap[b]?
section
variable {P : Program} {f : FuncId} {fn : Func} {e : TypeId} {k : Nat} {dom : List D → Prop} {out : List D → List D}
theorem rowK_arg {c : Ctx} {l : List D} {q : FuncId} {θ : Nat → Value} {w : World} {vs : Array Value} (hsc : ∀ d ∈ l, d.wide k) (hsim : HSim c ⟨enumO 0 [.row e k l], 1⟩ θ w) (hvs : vs.size = 2)
    (hv : ∀ i (hi : i < [AV.row 0 l.length, .data (.clo q [])].length) u, vs[i]? = some u → VR ⟨enumO 0 [.row e k l], 1⟩ θ w (vis c ⟨enumO 0 [.row e k l], 1⟩ θ w) ([AV.row 0 l.length, .data (.clo q [])][i]) u) :
    vs = #[θ 0, .func (.func q) #[] #[]] ∧ ownsM w 0 e k (θ 0) l.length ((flat l).map D.val) ∧ (∀ b, blk (θ 0) = some b → c.n0 ≤ b ∨ c.Init b) := by
  have hg : (⟨enumO 0 [.row e k l], 1⟩ : Heap).get 0 = some (.row e k l) := rfl
  have h0 := hv 0 (by simp) (vs[0]'(by omega)) (Array.getElem?_eq_getElem _)
  obtain ⟨he, _⟩ := row_val hsim h0 hg rfl
  have h1 : vs[1]'(by omega) = .func (.func q) #[] #[] := by
    have := hv 1 (by simp) (vs[1]'(by omega)) (Array.getElem?_eq_getElem _)
    generalize vs[1]'(by omega) = v at this
    cases this with
    | data d v h =>
      cases h with
      | clo _ _ us _ hz => rw [Array.eq_empty_of_size_eq_zero hz]
  obtain ⟨w1, w2, w3⟩ := wide_flat hsc
  obtain ⟨_, h2, h3, us, h4, h5, h6⟩ := hsim.objs 0 _ hg
  have hfl : (flat l).length = l.length * k := flat_length w2
  have hus : us = (flat l).map D.val := by
    have hlen := h4.1
    apply List.ext_getElem?
    intro i
    by_cases hi : i < (flat l).length
    · have hi2 : i < us.length := by omega
      have := h6 i hi us[i] (List.getElem?_eq_getElem hi2)
      rw [List.getElem?_eq_getElem hi2, scalar_val (List.all_eq_true.1 w1 _ (List.getElem_mem _)) this, List.getElem?_map, List.getElem?_eq_getElem hi]
      simp only [Option.map_some]
    · rw [List.getElem?_eq_none (by omega), List.getElem?_eq_none (by simp; omega)]
  rw [hus] at h4
  refine ⟨Array.ext hvs fun n i1 i2 => ?_, h4, h5⟩
  match n, i2 with
  | 0, _ => exact he
  | 1, _ => exact h1
theorem loc_rowK {q : FuncId} (hk : 0 < k) (hf : P.funcs[f]? = some fn) (hname : (fn.name == "runtime.NumGoroutine") = false) (hb : fn.body.isNone = false)
    (hd : ∀ l, dom l → (∀ d ∈ l, d.wide k) ∧ (∀ d ∈ out l, d.wide k) ∧ (out l).length = l.length)
    (h : ∀ l, dom l → ∀ (w : World) (v : Value), ownsM w 0 e k v l.length ((flat l).map D.val) → Calls P f #[v, .func (.func q) #[] #[]] w fun ex w' => (∃ u, ex = .returned u) ∧ RowTurnK w w' e k v v l.length ((flat (out l)).map D.val)) :
    LocOK P f (locSpec (fun l => [.row 0 l.length, .data (.clo q [])]) (fun l => [.row e k l]) dom (fun l => (.junk, [.row e k (out l)]))) := by
  intro xs os r os' hg _ c θ w vs hbase hsim hvs hvals
  unfold locSpec at hg
  split at hg
  · rename_i hh
    obtain ⟨h1, h2, h3⟩ := hh.choose_spec
    generalize hh.choose = l at h1 h2 h3 hg
    simp only [Option.some.injEq, Prod.mk.injEq] at hg
    obtain ⟨rfl, rfl⟩ := hg
    subst h1 h2
    obtain ⟨s1, s2, s3⟩ := hd l h3
    obtain ⟨e1, e2, e3⟩ := rowK_arg s1 hsim hvs hvals
    rw [e1]
    refine ⟨⟨fn, hf, hname, hb⟩, (h l h3 w (θ 0) e2).mono ?_⟩
    rintro ex w' ⟨⟨u, rfl⟩, ht⟩
    obtain ⟨o0, o1, o2⟩ := wide_flat s2
    have hg' : ∀ o x, (⟨enumO 0 [.row e k (out l)], 1⟩ : Heap).get o = some x → o = 0 ∧ x = .row e k (out l) := fun o x hx => by
      rw [get_enumO] at hx
      match o, hx with
      | 0, hx => exact ⟨rfl, by simpa using hx.symm⟩
      | n + 1, hx => simp at hx
    refine ⟨u, rfl, θ, ⟨Nat.le_trans hsim.size ht.size, fun o x hx => ?_, fun o o' x x' hx hx' _ _ hne => ?_⟩, .junk _, ⟨ht.os, ht.tape, ht.output, ht.size, fun b b1 b2 => ht.block b (Nat.lt_of_lt_of_le b1 hsim.size) fun hbl => ?_⟩, ?_⟩
    · obtain ⟨rfl, rfl⟩ := hg' o x hx
      refine ⟨hk, o1, o2, (flat (out l)).map D.val, by rw [s3]; exact ht.own, e3, fun i hi u hu => ?_⟩
      rw [List.getElem?_map, List.getElem?_eq_getElem hi] at hu
      simp only [Option.map_some, Option.some.injEq] at hu
      subst hu
      exact scalar_reads (List.all_eq_true.1 o0 _ (List.getElem_mem hi))
    · exact absurd ((hg' o x hx).1.trans (hg' o' x' hx').1.symm) hne
    · rcases e3 b hbl with h4 | h4
      · omega
      · exact b2 h4
    · intro o x' _ hx
      obtain ⟨rfl, rfl⟩ := hg' o x' hx
      exact ⟨.row e k l, rfl, by simp [Obj.evo, s3], fun _ => rfl⟩
  · cases hg
end
end Go.Ab
