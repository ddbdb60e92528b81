/-
  One text of the proof (own work): contracts of functions of the program, by the abstract machine.
-/
import Derived.Test.YtmcgfohokniepaaX25
import Derived.Test.YtmcgfohokniepaaX35
import Derived.Test.YtmcgfohokniepaaX33
import Derived.Test.YtmcgfohokniepaaX36
import Derived.Test.YtmcgfohokniepaaX24
import Derived.Test.YtmcgfohokniepaaX34
set_option linter.unusedVariables false
set_option linter.unusedSimpArgs false
namespace Go.Ab
open Go Go.RowKit Go.Proofs
set_option maxRecDepth 100000
set_option maxHeartbeats 40000000
structure DlX where
  l : List Now
  nm : List UInt8
structure DlOK (x : DlX) : Prop where
  n : x.l.length ≤ 64
  q : ∀ y ∈ x.l, Qsz y
def dlA (x : DlX) : List AV := [.row 0 x.l.length, .fn 51 [.ptr 1 0]]
def dlO (x : DlX) : List Obj := [.row 39 3 (x.l.map eN), .box [.data (.str x.nm)]]
def kept (x : DlX) : List Now := x.l.filter fun y => !pkq x.nm y
def DlG (x : DlX) (r : AV) (os : List Obj) : Prop := (kept x = x.l ∧ r = .row 0 x.l.length ∧ os = dlO x) ∨ (r = .row 2 (kept x).length ∧ os = [.dead, .box [.data (.str x.nm)], .row 39 3 ((kept x).map eN)])
theorem dl_inj (x y : DlX) (h : dlA x = dlA y) (h2 : dlO x = dlO y) : x = y := by
  obtain ⟨a1, a2⟩ := x
  obtain ⟨b1, b2⟩ := y
  simp only [dlO, List.cons.injEq, Obj.row.injEq, Obj.box.injEq, AV.data.injEq, D.str.injEq, true_and, and_true] at h2
  rw [map_inj eN_inj h2.1, h2.2]
noncomputable def Γ54 (nm : List UInt8) : FuncId → Option CSpec := fun f => if f = 51 then some (.pure true (g51 nm)) else if f = 77 then some (.pure true (gIdxD eN Qsz 51 [.ref [.str nm]] (pkq nm))) else none
theorem Γ54_ok (nm : List UInt8) : ∀ f s, Γ54 nm f = some s → SpecOK Try.prog f s := by
  intro f s h
  unfold Γ54 at h
  split at h
  · rename_i hf; cases h; subst hf; exact f51_ok nm
  split at h
  · rename_i hf; cases h; subst hf; exact f77_all
  · cases h
theorem keep_step {p : Now → Bool} {l m : List Now} {i j : Nat} (hj : j < l.length) (hm : m.length = l.length) (hij : i < j) (h1 : m.take i = (l.take j).filter fun y => !p y) (h2 : m.drop j = l.drop j) (hp : p l[j] = false) :
    (m.set i l[j]).take (i + 1) = (l.take (j + 1)).filter (fun y => !p y) ∧ (m.set i l[j]).drop (j + 1) = l.drop (j + 1) := by
  constructor
  · rw [List.take_add_one, List.take_set_of_le (Nat.le_refl _), h1, List.take_add_one (l := l), List.filter_append, List.getElem?_eq_getElem hj]
    simp [hp, show i < m.length by omega]
  · rw [List.drop_set_of_lt (by omega), ← List.drop_drop (i := 1) (j := j), h2, List.drop_drop]
theorem keep_skip {p : Now → Bool} {l m : List Now} {i j : Nat} (hj : j < l.length) (h1 : m.take i = (l.take j).filter fun y => !p y) (h2 : m.drop j = l.drop j) (hp : p l[j] = true) :
    m.take i = (l.take (j + 1)).filter (fun y => !p y) ∧ m.drop (j + 1) = l.drop (j + 1) := by
  constructor
  · rw [h1, List.take_add_one (l := l), List.filter_append, List.getElem?_eq_getElem hj]
    simp [hp]
  · rw [← List.drop_drop (i := 1) (j := j), h2, List.drop_drop]
theorem get_of_drop {l m : List Now} {j : Nat} (h : m.drop j = l.drop j) (hj : j < l.length) (hm : j < m.length) : m[j] = l[j] := by
  have := congrArg (·[0]?) h
  simpa [hj, hm] using this
theorem idx_cases {α : Type} (p : α → Bool) (l : List α) : (idx p l = -1 ∧ l.filter (fun y => !p y) = l) ∨ ∃ (i : Nat) (h : i < l.length), idx p l = i ∧ p l[i] = true ∧ (l.take i).filter (fun y => !p y) = l.take i := by
  unfold idx
  cases hf : l.findIdx? p with
  | none =>
    left
    rw [List.findIdx?_eq_none_iff] at hf
    exact ⟨rfl, List.filter_eq_self.2 fun x hx => by simp [hf x hx]⟩
  | some i =>
    right
    obtain ⟨h1, h2, h3⟩ := List.findIdx?_eq_some_iff_getElem.1 hf
    refine ⟨i, h1, rfl, h2, List.filter_eq_self.2 fun x hx => ?_⟩
    obtain ⟨j, hj, rfl⟩ := List.mem_iff_getElem.1 hx
    rw [List.length_take] at hj
    have := h3 j (by omega)
    simp only [List.getElem_take]
    simpa using this
theorem f54_ex : ∃ g, LocOK Try.prog 54 g ∧ ∀ x, DlOK x → ∃ r os, DlG x r os ∧ g (dlA x) (dlO x) = some (r, os) := by
  refine loc_ex (enc := dlA) (eno := dlO) (dom := DlOK) (good := DlG) (n := 42) (rs := [.tmp 4]) Try.func54 (by kernel_rfl) rfl (by kernel_rfl) (by kernel_rfl) dl_inj ?_
  rintro ⟨l, nm⟩ ⟨hn, hq⟩
  dsimp only at hn hq
  have hΓ := Γ54_ok nm
  unfold dlA dlO
  dsimp only
  have e77 := gIdxD_eq (e := eN) (dm := Qsz) eN_inj (f := 51) (caps := [.ref [.str nm]]) (p := pkq nm) (l := l) (by omega) hq
  rw [start_frameA (by simp)]; simp only [enumA, enumO, List.length_cons, List.length_nil, Nat.reduceAdd, go_sem]
  rcases idx_cases (pkq nm) l with ⟨h1, h2⟩ | ⟨i, hi, h1, hp, h2⟩
  · rw [h1] at e77
    (repeat (first | (apply axJ; (focus ((with_reducible constructor) <;> rfl))) | ((first | apply axR hΓ | apply axG | apply ovX rfl | apply ovE rfl); (simp (disch := omega) only [go_sem, ↓reduceIte, ↓lk, dk, Int.reduceBEq, Int.reduceBNe, Bool.true_bne, Bool.false_bne, Bool.not_true, Bool.not_false, Γ54, e77] <;> with_reducible rfl); exact trivial) | rfl))
    exact retl_x (r := .row 0 l.length) (os := [.row 39 3 (l.map eN), .box [.data (.str nm)]]) rfl (by simp (disch := omega) only [go_sem, ↓reduceIte, dk] <;> rfl) (Weak.of (by simp) ⟨rfl, trivial⟩ ⟨rfl, by simp, rfl, rfl, by simp, rfl, trivial⟩ rfl) (.inl ⟨h2, rfl, rfl⟩)
  · rw [h1] at e77
    have hz : ((i : Int) == -1) = false := by rw [beq_eq_false_iff_ne]; omega
    (repeat (first | (refine axA ?_; first | (apply axR hΓ; (simp (disch := omega) only [go_sem, ↓reduceIte, ↓lk, dk, Int.reduceBEq, Int.reduceBNe, Bool.true_bne, Bool.false_bne, Bool.not_true, Bool.not_false, Γ54, e77, hz] <;> with_reducible rfl); exact trivial) | refine axA ?_ | refine axB ?_) | refine axB ?_ | (apply axK; (focus ((with_reducible constructor) <;> rfl))) | ((first | apply axR hΓ | apply axG | apply ovX rfl | apply ovE rfl); (simp (disch := omega) only [go_sem, ↓reduceIte, ↓lk, dk, Int.reduceBEq, Int.reduceBNe, Bool.true_bne, Bool.false_bne, Bool.not_true, Bool.not_false, Γ54, e77, hz] <;> with_reducible rfl); exact trivial) | rfl))
    refine axp_loop_at (X := Nat × Nat × List Now) (fun x => (frame 42 [(0, .row 0 l.length), (1, .fn 51 [.ptr 1 0]), (5, .data (i64 x.2.1)), (6, .data (i64 x.1))])) (fun x => [(0, .row 39 3 (x.2.2.map eN)), (1, .box [.data (.str nm)])]) 2
      (fun x => x.2.1 < x.1 ∧ x.1 ≤ l.length ∧ x.2.2.length = l.length ∧ x.2.2.take x.2.1 = (l.take x.1).filter (fun y => !pkq nm y) ∧ x.2.2.drop x.1 = l.drop x.1) (fun x => l.length - x.1) (i + 1, i, l) ⟨by simp, hi, rfl, by
        rw [List.take_add_one, List.filter_append, h2, List.getElem?_eq_getElem hi]; (try simp [hp]), rfl⟩ ((Weak.w (h3 := by simp [refsF, AV.refsOK, refsOKs]))) ?_
    rintro ⟨j, i, m⟩ ⟨hij, hj, hml, ht, hd⟩
    dsimp only at hij hj hml ht hd ⊢
    by_cases hjl : j < l.length
    · have hjm : j < m.length := by omega
      have hmj := get_of_drop hd hjl hjm
      have hqj := hq _ (List.getElem_mem hjl)
      have e51 := g51_eq (nm := nm) _ hqj
      generalize hy : l[j] = y at *
      generalize hb : pkq nm y = b at e51
      unfold eN at e51
      cases b with
      | true =>
        obtain ⟨k1, k2⟩ := keep_skip (p := pkq nm) hjl ht hd (by rw [hy]; exact hb)
        (repeat (first | (apply axJ; (focus ((with_reducible constructor) <;> rfl))) | ((first | apply axR hΓ | apply axG | apply ovX rfl | apply ovE rfl); (simp (disch := omega) only [go_sem, ↓reduceIte, ↓lk, dk, Γ54, hmj, e51] <;> with_reducible rfl); exact trivial) | rfl))
        exact ⟨(j + 1, i, m), ⟨by dsimp only; omega, hjl, hml, k1, k2⟩, by dsimp only; omega, (Weak.w (h3 := by simp [refsF, AV.refsOK, refsOKs]))⟩
      | false =>
        obtain ⟨k1, k2⟩ := keep_step (p := pkq nm) hjl hml hij ht hd (by rw [hy]; exact hb)
        rw [hy] at k1 k2
        have hs : (m.map eN).set i (.agg [.str y.q, .str y.s, .str y.d]) = (m.set i y).map eN := by rw [List.map_set]; rfl
        (repeat (first | (apply axJ; (focus ((with_reducible constructor) <;> rfl))) | ((first | apply axR hΓ | apply axG | apply ovX rfl | apply ovE rfl); (simp (disch := omega) only [go_sem, ↓reduceIte, ↓lk, dk, Γ54, hmj, e51, hs] <;> with_reducible rfl); exact trivial) | rfl))
        exact ⟨(j + 1, i + 1, m.set i y), ⟨by dsimp only; omega, hjl, by simp [hml], k1, k2⟩, by dsimp only; omega, (Weak.w (h3 := by simp [refsF, AV.refsOK, refsOKs]))⟩
    · obtain rfl : j = l.length := by omega
      rw [List.take_length] at ht
      have hkl : (l.filter fun y => !pkq nm y).length = i := by rw [← ht, List.length_take]; omega
      have hmt : (m.map eN).take i = (l.filter fun y => !pkq nm y).map eN := by rw [← ht, List.map_take]
      refine axA ?_
      refine axA ?_
      (repeat (first | refine axB ?_ | (apply axK; (focus ((with_reducible constructor) <;> rfl))) | ((first | apply axR hΓ | apply axG | apply ovX rfl | apply ovE rfl); (simp (disch := omega) only [go_sem, ↓reduceIte, dk] <;> with_reducible rfl); exact trivial) | rfl))
      refine axp_cut (x := 0) (y := 5) (ob := 0) (i := i) (l := m.map eN) (n := l.length) rfl rfl ⟨rfl, rfl, rfl⟩ ⟨rfl, rfl, rfl⟩ ⟨rfl, rfl, rfl⟩ ⟨rfl, rfl, rfl⟩ ⟨rfl, rfl, rfl⟩ ⟨rfl, rfl, rfl⟩ ⟨rfl, rfl, rfl⟩ ⟨rfl, rfl, rfl⟩ (by decide) ?_ ?_ ?_ ?_ ?_ ?_ ty_und31 ty_size39 ty_zero39 rfl (by decide) ?_
      · simp [frame]
      · simp (disch := omega) only [go_sem, ↓reduceIte, dk]
      · simp (disch := omega) only [go_sem, ↓reduceIte, dk]
      · rfl
      · simp [hml]
      · omega
      rw [hmt]
      (repeat (first | (apply axJ; (focus ((with_reducible constructor) <;> rfl))) | ((first | apply axR hΓ | apply axG | apply ovX rfl | apply ovE rfl); (simp (disch := omega) only [go_sem, ↓reduceIte, dk] <;> with_reducible rfl); exact trivial) | rfl))
      refine retl_x (r := .row 2 i) (os := [.dead, .box [.data (.str nm)], .row 39 3 ((l.filter fun y => !pkq nm y).map eN)]) rfl (by simp (disch := omega) only [go_sem, ↓reduceIte, dk] <;> rfl) (Weak.packed (objs := [.dead, .box [.data (.str nm)], .row 39 3 ((l.filter fun y => !pkq nm y).map eN)]) (fp := [0, 1, 6]) rfl rfl (by decide) rfl rfl) (.inr ⟨by simp only [kept]; rw [hkl], rfl⟩)
noncomputable def g54 := f54_ex.choose
theorem f54_ok : LocOK Try.prog 54 g54 := f54_ex.choose_spec.1
theorem g54_eq {x : DlX} (h : DlOK x) : ∃ r os, DlG x r os ∧ g54 (dlA x) (dlO x) = some (r, os) := f54_ex.choose_spec.2 x h
end Go.Ab
namespace Go.Ab
open Go Go.RowKit Go.Proofs
set_option maxRecDepth 4000
theorem bl_ir : ∀ a : List UInt8, Op.bytesLess a a = false
  | [] => rfl
  | a :: x => by simp [Op.bytesLess, bl_ir x, UInt8.lt_irrefl]
theorem bl_tr : ∀ a b c : List UInt8, Op.bytesLess a b = true → Op.bytesLess b c = true → Op.bytesLess a c = true
  | [], _, [], _, h => by cases ‹List UInt8› <;> simp [Op.bytesLess] at h
  | [], _, _ :: _, _, _ => rfl
  | _ :: _, [], _, h, _ => by simp [Op.bytesLess] at h
  | _ :: _, _ :: _, [], _, h => by simp [Op.bytesLess] at h
  | a :: x, b :: y, c :: z, h, k => by
    have ih := bl_tr x y z
    simp only [Op.bytesLess, Bool.or_eq_true, decide_eq_true_eq, Bool.and_eq_true, beq_iff_eq] at h k ⊢
    rcases h with h | ⟨rfl, h⟩ <;> rcases k with k | ⟨rfl, k⟩
    · exact .inl (UInt8.lt_trans h k)
    · exact .inl h
    · exact .inl k
    · exact .inr ⟨rfl, ih h k⟩
theorem bl_tot : ∀ a b : List UInt8, a ≠ b → Op.bytesLess a b = true ∨ Op.bytesLess b a = true
  | [], [], h => absurd rfl h
  | [], _ :: _, _ => .inl rfl
  | _ :: _, [], _ => .inr rfl
  | a :: x, b :: y, h => by
    simp only [Op.bytesLess]
    by_cases h1 : a < b
    · left; simp [h1]
    · by_cases h2 : b < a
      · right; simp [h2]
      · have : a = b := UInt8.le_antisymm (UInt8.not_lt.1 h2) (UInt8.not_lt.1 h1)
        subst this
        have hxy : x ≠ y := fun e => h (by rw [e])
        rcases bl_tot x y hxy with h3 | h3
        · left; simp [h3]
        · right; simp [h3]
def Df (a b : Now) : Prop := a.q ≠ b.q ∨ a.s ≠ b.s
theorem nLt_iff (a b : Now) : nLt a b = true ↔ bl a.q b.q = true ∨ (a.q = b.q ∧ bl a.s b.s = true) := by simp [nLt]
theorem nLt_tot {a b : Now} (h : Df a b) : nLt a b = true ∨ nLt b a = true := by
  simp only [nLt_iff]
  by_cases h1 : a.q = b.q
  · have h2 : a.s ≠ b.s := h.resolve_left fun h => h h1
    rcases bl_tot _ _ h2 with h3 | h3
    · exact .inl (.inr ⟨h1, h3⟩)
    · exact .inr (.inr ⟨h1.symm, h3⟩)
  · rcases bl_tot _ _ h1 with h3 | h3
    · exact .inl (.inl h3)
    · exact .inr (.inl h3)
theorem nLt_tr {a b c : Now} (h : nLt a b = true) (k : nLt b c = true) : nLt a c = true := by
  simp only [nLt_iff] at *
  rcases h with h | ⟨h1, h2⟩ <;> rcases k with k | ⟨k1, k2⟩
  · exact .inl (bl_tr _ _ _ h k)
  · exact .inl (k1 ▸ h)
  · exact .inl (h1 ▸ k)
  · exact .inr ⟨h1.trans k1, bl_tr _ _ _ h2 k2⟩
theorem nLt_ir (a : Now) : nLt a a = false := by
  cases h : nLt a a with
  | false => rfl
  | true => rw [nLt_iff] at h; simp [bl, bl_ir] at h
theorem nLt_as {a b : Now} (h : nLt a b = true) : nLt b a = false := by
  cases k : nLt b a with
  | false => rfl
  | true => have := nLt_tr h k; rw [nLt_ir] at this; cases this
theorem nLt_df {a b : Now} (h : nLt a b = true) : Df a b := by
  by_cases h1 : a.q = b.q
  · refine .inr fun h2 => ?_
    rw [nLt_iff, h1, h2] at h
    simp [bl, bl_ir] at h
  · exact .inl h1
theorem Df.symm {a b : Now} (h : Df a b) : Df b a := h.imp Ne.symm Ne.symm
abbrev Srt (l : List Now) : Prop := l.Pairwise fun a b => nLt a b = true
abbrev Dfs (l : List Now) : Prop := l.Pairwise Df
theorem Srt.dfs {l : List Now} (h : Srt l) : Dfs l := List.Pairwise.imp (fun h => nLt_df h) h
theorem Dfs.perm {l m : List Now} (h : Dfs l) (p : l.Perm m) : Dfs m := (p.pairwise_iff (fun h => Df.symm h)).1 h
theorem srt_uniq {l m : List Now} (p : l.Perm m) (h : Srt l) (k : Srt m) : l = m := p.eq_of_pairwise (fun a b _ _ h1 h2 => by rw [nLt_as h1] at h2; cases h2) h k
theorem srt_ins {A B : List Now} {x : Now} (h : Srt (A ++ B)) (hb : ∀ y ∈ B, nLt x y = true) (ha : ∀ A' z, A = A' ++ [z] → nLt z x = true) : Srt (A ++ x :: B) := by
  obtain ⟨h1, h2, h3⟩ := List.pairwise_append.1 h
  refine List.pairwise_append.2 ⟨h1, List.pairwise_cons.2 ⟨hb, h2⟩, fun a haa b hbb => ?_⟩
  have hax : nLt a x = true := by
    rcases List.eq_nil_or_concat A with rfl | ⟨A', z, rfl⟩
    · cases haa
    · have hz := ha A' z (by simp)
      rw [List.concat_eq_append] at *
      rcases List.mem_append.1 haa with h | h
      · exact nLt_tr ((List.pairwise_append.1 h1).2.2 a h z (by simp)) hz
      · rw [List.mem_singleton.1 h]; exact hz
  rcases List.mem_cons.1 hbb with rfl | hbb
  · exact hax
  · exact nLt_tr hax (hb b hbb)
theorem vld_srt {l : List Now} (h : vld l = 0) : Srt l := by
  have hall : ∀ i, i < l.length → okAt l i = true := by
    intro i hi
    cases ho : okAt l i with
    | true => rfl
    | false =>
      by_cases hl : l.length > 1024
      · simp [vld, hl] at h
      · rw [vld_pre hi hl ho] at h; cases h
  have hstep : ∀ i (hi : i + 1 < l.length), nLt l[i] l[i + 1] = true := fun i hi => by
    have := hall (i + 1) hi
    simp only [okAt, List.getElem?_eq_getElem hi, okPair, List.getElem?_eq_getElem (show i < l.length by omega), Bool.and_eq_true] at this
    exact this.2
  have hgap : ∀ d i (hi : i + d + 1 < l.length), nLt l[i] l[i + d + 1] = true := by
    intro d
    induction d with
    | zero => exact fun i hi => hstep i hi
    | succ d ih => exact fun i hi => nLt_tr (ih i (by omega)) (hstep (i + d + 1) (by omega))
  refine List.pairwise_iff_getElem.2 ?_
  intro i j hi hj hij
  obtain ⟨d, rfl⟩ : ∃ d, j = i + d + 1 := ⟨j - i - 1, by omega⟩
  exact hgap d i hj
def rk2 (q s : List UInt8) : Nat := (if q = [108, 105, 99, 101, 110, 115, 101, 58, 97, 112, 112, 47, 97, 46, 115, 114, 99] then 0 else if q = [108, 105, 99, 101, 110, 115, 101, 58, 108, 105, 98, 47, 98, 46, 115, 114, 99] then 2 else 4) + if s = [] then 0 else 1
def nL2 (q s q' s' : List UInt8) : Bool := bl q q' || ((q == q') && bl s s')
def rkE (x : Now) : Nat := rk2 x.q x.s
theorem rkE_lt {a : Now} : rkE a < 6 := by
  unfold rkE rk2
  repeat' split
  all_goals omega
theorem rkE_mono {a b : Now} (ha : EkOK a) (hb : EkOK b) (h : nLt a b = true) : rkE a < rkE b := by
  obtain ⟨qa, sa, da⟩ := a
  obtain ⟨qb, sb, db⟩ := b
  simp only [EkOK, List.mem_cons, List.not_mem_nil, or_false] at ha hb
  obtain ⟨h1, h2⟩ := ha
  obtain ⟨h3, h4⟩ := hb
  change nL2 qa sa qb sb = true at h
  change rk2 qa sa < rk2 qb sb
  clear da db
  rcases h1 with rfl | rfl | rfl <;> rcases h2 with rfl | rfl <;> rcases h3 with rfl | rfl | rfl <;> rcases h4 with rfl | rfl <;> first | (exact absurd h (by decide)) | decide
theorem incr_len : ∀ (l : List Nat) (k n : Nat), l.Pairwise (· < ·) → (∀ x ∈ l, k ≤ x ∧ x < n) → l.length ≤ n - k
  | [], _, _, _, _ => Nat.zero_le _
  | x :: l, k, n, h, hb => by
    have h1 := List.pairwise_cons.1 h
    have h2 := hb x (by simp)
    have := incr_len l (x + 1) n h1.2 fun y hy => ⟨h1.1 y hy, (hb y (by simp [hy])).2⟩
    simp only [List.length_cons]
    omega
theorem ev_len {l : List Now} (h : Srt l) (hk : ∀ x ∈ l, EkOK x) : l.length ≤ 6 := by
  have : (l.map rkE).Pairwise (· < ·) := by
    rw [List.pairwise_map]
    exact List.Pairwise.imp_of_mem (fun ha hb h => rkE_mono (hk _ ha) (hk _ hb) h) h
  have := incr_len (l.map rkE) 0 6 this fun x hx => by
    obtain ⟨y, _, rfl⟩ := List.mem_map.1 hx
    exact ⟨Nat.zero_le _, rkE_lt⟩
  simpa using this
def insN (x : Now) : List Now → List Now
  | [] => [x]
  | y :: l => if nLt y x then y :: insN x l else x :: y :: l
theorem insN_perm (x : Now) : ∀ l : List Now, (insN x l).Perm (x :: l)
  | [] => .refl _
  | y :: l => by
    unfold insN
    split
    · exact ((insN_perm x l).cons y).trans (.swap x y l)
    · exact .refl _
theorem insN_at (x : Now) : ∀ (l : List Now) (j : Nat), (∀ y ∈ l.take j, nLt y x = true) → (∀ h : j < l.length, nLt l[j] x = false) → insN x l = l.take j ++ x :: l.drop j
  | [], _, _, _ => by simp [insN]
  | y :: l, 0, _, h => by
    have := h (by simp)
    simp only [List.getElem_cons_zero] at this
    simp [insN, this]
  | y :: l, j + 1, h1, h2 => by
    have hy : nLt y x = true := h1 y (by simp)
    simp only [insN, hy, if_true, List.take_succ_cons, List.drop_succ_cons, List.cons_append]
    rw [insN_at x l j (fun z hz => h1 z (by simp [hz])) fun h => by have h3 := h2 (by simpa using h); rwa [List.getElem_cons_succ] at h3]
theorem insN_srt {x : Now} : ∀ {l : List Now}, Srt l → (∀ y ∈ l, Df x y) → Srt (insN x l)
  | [], _, _ => by simp [insN]
  | y :: l, h, hd => by
    have h1 := List.pairwise_cons.1 h
    unfold insN
    split
    · rename_i hy
      refine List.pairwise_cons.2 ⟨fun z hz => ?_, insN_srt h1.2 fun z hz => hd z (by simp [hz])⟩
      rcases List.mem_cons.1 ((insN_perm x l).mem_iff.1 hz) with rfl | hz
      · exact hy
      · exact h1.1 z hz
    · rename_i hy
      have hxy : nLt x y = true := (nLt_tot (hd y (by simp))).resolve_right hy
      refine List.pairwise_cons.2 ⟨fun z hz => ?_, h⟩
      rcases List.mem_cons.1 hz with rfl | hz
      · exact hxy
      · exact nLt_tr hxy (h1.1 z hz)
def rpl (nm : List UInt8) (l own : List Now) : List Now := (l.filter fun x => !pkq nm x).foldl (fun out x => insN x out) own
theorem fold_perm : ∀ (l own : List Now), (l.foldl (fun out x => insN x out) own).Perm (own ++ l)
  | [], own => by simp
  | x :: l, own => by
    simp only [List.foldl_cons]
    refine (fold_perm l _).trans ?_
    refine ((insN_perm x own).append_right l).trans ?_
    exact (List.perm_middle (a := x) (l₁ := own) (l₂ := l)).symm
theorem fold_srt : ∀ (l own : List Now), Srt own → Dfs (own ++ l) → Srt (l.foldl (fun out x => insN x out) own)
  | [], own, h, _ => h
  | x :: l, own, h, hd => by
    simp only [List.foldl_cons]
    have hd2 : Dfs (x :: (own ++ l)) := hd.perm List.perm_middle
    have hp : (x :: (own ++ l)).Perm (insN x own ++ l) := ((insN_perm x own).append_right l).symm
    exact fold_srt l _ (insN_srt h fun y hy => (List.pairwise_cons.1 hd2).1 y (by simp [hy])) (hd2.perm hp)
theorem rpl_dfs {nm : List UInt8} {l own : List Now} (hl : Srt l) (ho : Srt own) (hn : ∀ x ∈ own, pkq nm x = true) : Dfs (own ++ l.filter fun x => !pkq nm x) := by
  refine List.pairwise_append.2 ⟨ho.dfs, (List.Pairwise.sublist List.filter_sublist hl.dfs), fun a ha b hb => ?_⟩
  have h1 := hn a ha
  have h2 := (List.mem_filter.1 hb).2
  refine .inl fun e => ?_
  unfold pkq at h1 h2
  rw [e] at h1
  simp [h1] at h2
theorem rpl_eq {nm : List UInt8} {l own m : List Now} (hl : Srt l) (ho : Srt own) (hn : ∀ x ∈ own, pkq nm x = true) (p : m.Perm (l.filter (fun x => !pkq nm x) ++ own)) (hm : Srt m) : m = rpl nm l own :=
  srt_uniq (p.trans (List.perm_append_comm.trans (fold_perm _ _).symm)) hm (fold_srt _ _ ho (rpl_dfs hl ho hn))
theorem rpl_own {nm : List UInt8} {l : List Now} (hl : Srt l) : rpl nm l (l.filter fun x => pkq nm x) = l := by
  refine (rpl_eq hl (List.Pairwise.sublist List.filter_sublist hl) (fun x hx => (List.mem_filter.1 hx).2) ?_ hl).symm
  have := (List.filter_append_perm (fun x => pkq nm x) l).symm
  exact this.trans List.perm_append_comm
end Go.Ab
