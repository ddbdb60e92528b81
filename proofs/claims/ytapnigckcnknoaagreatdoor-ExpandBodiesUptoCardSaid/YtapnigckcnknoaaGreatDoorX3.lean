/-
  One text of the proof (own work): contracts of functions of the program, by the abstract machine.
-/
import Derived.Test.YtapnigckcnknoaaGreatDoorX2
set_option linter.unusedVariables false
set_option linter.unusedSimpArgs false
namespace Go.Ab
open Go Go.RowKit
section
variable {H : Heap} {θ : Nat → Value} {w : World} {B : Nat → Prop}
theorem cav1_sound (v : Value) : VR H θ w B (cav1 v) v := by
  cases v with
  | bool b => exact .data _ _ (.bool b)
  | int k n => exact .data _ _ (.int k n)
  | string s => exact .data _ _ (by have := DR.str (w := w) (B := B) s.data.toList; simpa using this)
  | pointer a => cases a with
    | none => exact .data _ _ .nilp
    | some a => exact .junk _
  | slice a n c =>
    cases a with
    | some a => exact .junk _
    | none =>
      by_cases h : n = 0 ∧ c = 0
      · obtain ⟨rfl, rfl⟩ := h; exact .nils
      · have : cav1 (.slice none n c) = .junk := by
          unfold cav1
          split <;> simp_all
        rw [this]
        exact .junk _
  | map b => cases b with
    | none => exact .data _ _ .nilmap
    | some b => exact .junk _
  | _ => exact .junk _
theorem dat1_some {x : AV} {d : D} (h : x.dat1 = some d) : x = .data d ∧ d.one = true := by
  cases x <;> simp only [AV.dat1] at h <;> try cases h
  split at h
  · rename_i d' h1; simp only [Option.some.injEq] at h; subst h; exact ⟨rfl, h1⟩
  · cases h
theorem allDat_some {l : List AV} {ds : List D} (h : allDat l = some ds) : l = ds.map .data ∧ ∀ d ∈ ds, d.one = true := by
  induction l generalizing ds with
  | nil => simp only [allDat, Option.some.injEq] at h; subst h; simp
  | cons x r ih =>
    simp only [allDat] at h
    split at h
    · rename_i d ds' h1 h2
      simp only [Option.some.injEq] at h
      subst h
      obtain ⟨rfl, ho⟩ := dat1_some h1
      obtain ⟨rfl, hh⟩ := ih h2
      exact ⟨rfl, fun d hd => by
        rcases List.mem_cons.1 hd with rfl | hd
        · exact ho
        · exact hh d hd⟩
    · cases h
theorem VR.data_inv {d : D} {v : Value} (h : VR H θ w B (.data d) v) : DR w B d v := by cases h; assumption
theorem mkAgg_sound {l : List AV} {vs : Array Value} (h : VR H θ w B (.agg l) (.agg vs)) : VR H θ w B (mkAgg l) (.agg vs) := by
  unfold mkAgg
  split
  · rename_i ds hd
    obtain ⟨rfl, ho⟩ := allDat_some hd
    cases h with
    | agg _ _ u hz hv hh =>
      simp only [List.length_map] at hz hv
      exact .data _ _ (.agg ds vs u hz ho (fun i hi => (hv i hi).1) (fun i hi => by
        have := hh i (by simpa using hi)
        simp only [List.getElem_map] at this
        exact this.data_inv))
  · exact h
theorem cav_sound (v : Value) : VR H θ w B (cav v) v := by
  cases v with
  | agg cs =>
    simp only [cav]
    split
    · rename_i ho
      refine mkAgg_sound (.agg _ cs (fun i => cs.getD i undef) (by simp) (fun i hi => ?_) (fun i hi => ?_))
      · simp only [List.length_map, Array.length_toList] at hi
        have : cs[i]? = some (cs.getD i undef) := by simp [hi]
        refine ⟨this, ?_⟩
        simp only [List.all_eq_true] at ho
        have := ho (cs.getD i undef) (by simp [hi])
        exact this
      · simp only [List.length_map, Array.length_toList] at hi
        simp only [List.getElem_map, Array.getElem_toList]
        have : cs.getD i undef = cs[i] := by simp [hi]
        rw [this]
        exact cav1_sound _
    · exact .junk _
  | _ => simp only [cav]; exact cav1_sound _
theorem aev_sound {c : Ctx} {sl : List AV} {a : Act} (hs : St c H θ w sl a) (x : Operand) : VR H θ w (vis c H θ w) (aev sl x) (a.eval x) := by
  cases x with
  | tmp t =>
    simp only [aev, Act.eval]
    rcases Nat.lt_or_ge t sl.length with h | h
    · have h2 : t < a.tmps.size := by rw [hs.size]; exact h
      have h1 := hs.vals t sl[t] a.tmps[t] (by simp [h]) (by simp [h2])
      simpa [List.getD, h, h2] using h1
    · rw [List.getD_eq_getElem?_getD, List.getElem?_eq_none h]
      exact .junk _
  | const v => exact cav_sound v
  | func f => exact .data _ _ (.clo f [] #[] (fun _ => undef) rfl (fun i hi => by simp at hi) (fun i hi => by simp at hi))
  | global g => exact .junk _
theorem cells_sound {x : AV} {v : Value} {cs : List AV} (h : VR H θ w B x v) (hc : x.cells = some cs) :
    v.cells.size = cs.length ∧ ∀ i (hi : i < cs.length) u, v.cells[i]? = some u → VR H θ w B (cs[i]) u ∧ u.oneCell' = true := by
  have one : ∀ (y : AV), VR H θ w B y v → v.oneCell' = true → cs = [y] → v.cells.size = cs.length ∧ ∀ i (hi : i < cs.length) u, v.cells[i]? = some u → VR H θ w B (cs[i]) u ∧ u.oneCell' = true := by
    rintro y hy ho rfl
    have hv : v.cells = #[v] := by cases v <;> simp_all [Value.cells, Value.oneCell']
    rw [hv]
    refine ⟨rfl, fun i hi u hu => ?_⟩
    simp only [List.length_singleton] at hi
    obtain rfl : i = 0 := by omega
    simp at hu
    subst hu
    exact ⟨hy, ho⟩
  cases h with
  | data d v h =>
    cases h with
    | agg ds vs u hz ho hv hh =>
      simp only [AV.cells, Option.some.injEq] at hc
      subst hc
      simp only [Value.cells, List.length_map]
      refine ⟨hz, fun i hi x hx => ?_⟩
      have h1 := hv i hi
      rw [hx] at h1
      simp only [Option.some.injEq] at h1
      subst h1
      have h2 := hh i hi
      exact ⟨by simpa using VR.data _ _ h2, h2.oneCell (ho _ (List.getElem_mem hi))⟩
    | tup _ _ _ _ _ _ => cases hc
    | bool b => simp only [AV.cells, Option.some.injEq] at hc; exact one _ (.data _ _ (.bool b)) rfl hc.symm
    | int k n => simp only [AV.cells, Option.some.injEq] at hc; exact one _ (.data _ _ (.int k n)) rfl hc.symm
    | str s => simp only [AV.cells, Option.some.injEq] at hc; exact one _ (.data _ _ (.str s)) rfl hc.symm
    | nilp => simp only [AV.cells, Option.some.injEq] at hc; exact one _ (.data _ _ .nilp) rfl hc.symm
    | empty ao cap => simp only [AV.cells, Option.some.injEq] at hc; exact one _ (.data _ _ (.empty ao cap)) rfl hc.symm
    | list l a cap sz u hb h1 hs ho hm h => simp only [AV.cells, Option.some.injEq] at hc; exact one _ (.data _ _ (.list l a cap sz u hb h1 hs ho hm h)) rfl hc.symm
    | ref cs a u hb ho hm h => simp only [AV.cells, Option.some.injEq] at hc; exact one _ (.data _ _ (.ref cs a u hb ho hm h)) rfl hc.symm
    | clo f cs vs u hz hv h => simp only [AV.cells, Option.some.injEq] at hc; exact one _ (.data _ _ (.clo f cs vs u hz hv h)) rfl hc.symm
    | nilmap => simp only [AV.cells, Option.some.injEq] at hc; exact one _ (.data _ _ .nilmap) rfl hc.symm
    | map ks vs b clock es hb hw hk hv hst h1 h2 => simp only [AV.cells, Option.some.injEq] at hc; exact one _ (.data _ _ (.map ks vs b clock es hb hw hk hv hst h1 h2)) rfl hc.symm
    | set ss b clock es hb hw hst hs => simp only [AV.cells, Option.some.injEq] at hc; exact one _ (.data _ _ (.set ss b clock es hb hw hst hs)) rfl hc.symm
  | junk v => cases hc
  | nils => simp only [AV.cells, Option.some.injEq] at hc; exact one _ .nils rfl hc.symm
  | ptr o off v hv hr h => simp only [AV.cells, Option.some.injEq] at hc; exact one _ (.ptr o off v hv hr h) hv hc.symm
  | row o n v hv hr h => simp only [AV.cells, Option.some.injEq] at hc; exact one _ (.row o n v hv hr h) hv hc.symm
  | mref o v hv hr h => simp only [AV.cells, Option.some.injEq] at hc; exact one _ (.mref o v hv hr h) hv hc.symm
  | rref o n i off v hv hr h => simp only [AV.cells, Option.some.injEq] at hc; exact one _ (.rref o n i off v hv hr h) hv hc.symm
  | agg l vs u hz hv hh =>
    simp only [AV.cells, Option.some.injEq] at hc
    subst hc
    simp only [Value.cells]
    refine ⟨hz, fun i hi x hx => ?_⟩
    have h1 := hv i hi
    rw [hx] at h1
    simp only [Option.some.injEq] at h1
    obtain ⟨rfl, ho⟩ := h1
    exact ⟨hh i hi, ho⟩
  | tup l vs u hz hv hh => cases hc
  | fn f l vs u hz hv hh => simp only [AV.cells, Option.some.injEq] at hc; exact one _ (.fn f l vs u hz hv hh) rfl hc.symm
  | bnd f l vs u hz hv hh => simp only [AV.cells, Option.some.injEq] at hc; exact one _ (.bnd f l vs u hz hv hh) rfl hc.symm
end
end Go.Ab
namespace Go.Ab
open Go Go.RowKit
def Yields (P : Program) (c : Ctx) (o : Oper) (a : Act) (w : World) (sl : List AV) (H : Heap) (θ : Nat → Value) (r : AV) (H' : Heap) : Prop :=
  ∀ (K : Act → World → Prop) (Q : Exit → Act → World → Prop),
    (∀ v w' θ', VR H' θ' w' (vis c H' θ' w') r v → St c H' θ' w' sl a → Kept c w w' → HLe H θ H' θ' → K (a.put o.dst v) w') → o.wp P a w K Q
section
variable {P : Program} {c : Ctx} {H H' : Heap} {θ θ' : Nat → Value} {w w' : World} {sl : List AV} {a : Act} {o : Oper} {r : AV}
theorem Yields.value {v : Value} (hr : (execOp a.eval o).run P w = .ok (.value v) w') (hv : VR H' θ' w' (vis c H' θ' w') r v) (hs : St c H' θ' w' sl a) (hk : Kept c w w') (hl : HLe H θ H' θ') : Yields P c o a w sl H θ r H' := by
  intro K Q h
  unfold Oper.wp
  rw [hr]
  exact h v w' θ' hv hs hk hl
theorem Yields.skip (hr : (execOp a.eval o).run P w = .ok .skip w') (hs : St c H' θ' w' sl a) (hk : Kept c w w') (hl : HLe H θ H' θ') : Yields P c o a w sl H θ .junk H' := by
  intro K Q h
  unfold Oper.wp
  rw [hr]
  exact h undef w' θ' (.junk _) hs hk hl
theorem Yields.read {v : Value} (hs : St c H θ w sl a) (hr : (execOp a.eval o).run P w = .ok (.value v) w) (hv : VR H θ w (vis c H θ w) r v) : Yields P c o a w sl H θ r H :=
  .value hr hv hs (Kept.refl c w) (HLe.refl H θ)
theorem y_move (hs : St c H θ w sl a) {x : Operand} (ho : o.op = .move x ∨ o.op = .assign x) : Yields P c o a w sl H θ (aev sl x) H := by
  refine .read hs (v := a.eval x) ?_ (aev_sound hs x)
  rcases ho with ho | ho <;> simp [execOp, ho]
theorem y_nil (hs : St c H θ w sl a) {x : Operand} (ho : o.op = .nilCheck x) (h : anil H (aev sl x) = some r) : Yields P c o a w sl H θ r H := by
  have hx := aev_sound hs x
  unfold anil at h
  split at h
  · rename_i ob off he
    rw [he] at hx
    split at h
    · rename_i cs hg
      simp only [Option.some.injEq] at h
      subst h
      generalize hv : a.eval x = v at hx
      cases hx with
      | ptr _ _ _ hv1 hr hh =>
        obtain ⟨b, _, rfl⟩ := hh cs hg
        refine .read hs (v := .pointer (some ⟨b, off, none⟩)) ?_ (.ptr _ _ _ hv1 hr hh)
        simp [execOp, ho, hv]
    · cases h
  · rename_i cs he
    rw [he] at hx
    simp only [Option.some.injEq] at h
    subst h
    have hd := hx.data_inv
    generalize hv : a.eval x = v at hx hd
    obtain ⟨ad, u, rfl, _⟩ := hd.ref_inv
    refine .read hs (v := .pointer (some ad)) ?_ hx
    simp [execOp, ho, hv]
  · rename_i ob m i off he
    rw [he] at hx
    split at h
    · rename_i e sz l hg
      split at h
      · rename_i hm
        simp only [Option.some.injEq] at h
        subst h
        generalize hv : a.eval x = v at hx
        cases hx with
        | rref _ _ _ _ _ hv1 hr hp =>
          obtain ⟨g, cap, hθ, rfl⟩ := (hp _ _ _ hg rfl rfl).2 hm
          refine .read hs ?_ (.rref _ _ _ _ _ rfl hr hp)
          simp [execOp, ho, hv]
      · cases h
    · rename_i e sz k cs hg
      split at h
      · rename_i hm
        simp only [Option.some.injEq] at h
        subst h
        generalize hv : a.eval x = v at hx
        cases hx with
        | rref _ _ _ _ _ hv1 hr hp =>
          obtain ⟨g, cap, hθ, rfl⟩ := (hp _ _ _ hg rfl rfl).2 hm
          refine .read hs ?_ (.rref _ _ _ _ _ rfl hr hp)
          simp [execOp, ho, hv]
      · cases h
    · cases h
  · cases h
theorem y_pick (hs : St c H θ w sl a) {x y z : Operand} {b : Bool} (ho : o.op = .pick x y z) (hb : aev sl x = .data (.bool b)) : Yields P c o a w sl H θ (if b then aev sl y else aev sl z) H := by
  have h1 := aev_sound hs x
  rw [hb] at h1
  have h2 := h1.data_inv.bool_eq
  refine .read hs (v := if b then a.eval y else a.eval z) ?_ ?_
  · simp [execOp, ho, h2, asBool]
  · cases b
    · exact aev_sound hs z
    · exact aev_sound hs y
theorem add_box (hs : St c H θ w sl a) {k : Nat} (hk : ¬ H.ref k) {e : TypeId} {x : AV} {v : Value} {cs : List AV} (hx : VR H θ w (vis c H θ w) x v) (hc : x.cells = some cs) :
    ∃ θ', VR (H.set k (.box cs)) θ' (w.alloc (.cells v.cells e)) (vis c (H.set k (.box cs)) θ' (w.alloc (.cells v.cells e))) (.ptr k 0) (.pointer (some ⟨w.heap.size, 0, none⟩)) ∧
      St c (H.set k (.box cs)) θ' (w.alloc (.cells v.cells e)) sl a ∧ Kept c w (w.alloc (.cells v.cells e)) ∧ HLe H θ (H.set k (.box cs)) θ' := by
  obtain ⟨hz, hcs⟩ := cells_sound hx hc
  have h := hs.add (w' := w.alloc (.cells v.cells e)) (k := k) (x := .box cs) (val := .pointer (some ⟨w.heap.size, 0, none⟩)) hk
    (fun b hb => Below.heap_alloc w _ b hb) (by simp) (fun b hb => by simp [blk] at hb; omega)
    (fun hvr => ⟨w.heap.size, e, v.cells, rfl, heap_alloc_new w _, hz, .inl hs.sim.size, fun i hi u hu => ⟨hvr _ _ (hcs i hi u hu).1, (hcs i hi u hu).2⟩⟩)
  refine ⟨_, ?_, h.1, ⟨rfl, rfl, rfl, by simp, fun b hb _ => Below.heap_alloc w _ b (Nat.lt_of_lt_of_le hb hs.sim.size)⟩, h.2.2⟩
  refine .ptr k 0 _ rfl (.inr (by rw [Heap.get_set, if_pos rfl]; rfl)) fun cs' hcs' => ⟨w.heap.size, by simp [updθ], rfl⟩
theorem y_box (hs : St c H θ w sl a) {k : Nat} (hk : ¬ H.ref k) {e : TypeId} {x : Operand} {cs : List AV} (ho : o.op = .box e x) (hc : (aev sl x).cells = some cs) : Yields P c o a w sl H θ (.ptr k 0) (H.set k (.box cs)) := by
  obtain ⟨θ', h1, h2, h3, h4⟩ := add_box hs hk (e := e) (aev_sound hs x) hc
  refine .value ?_ h1 h2 h3 h4
  simp [execOp, ho, Instr.box, newVar, newRow]
theorem y_alloc (hs : St c H θ w sl a) {k : Nat} (hk : ¬ H.ref k) {e : TypeId} {z : Value} {cs : List AV} (ho : o.op = .alloc e) (hz : tzero P e = some z) (hc : (cav z).cells = some cs) : Yields P c o a w sl H θ (.ptr k 0) (H.set k (.box cs)) := by
  obtain ⟨θ', h1, h2, h3, h4⟩ := add_box hs hk (e := e) (cav_sound z) hc
  refine .value ?_ h1 h2 h3 h4
  simp only [tzero, Option.bind_eq_some_iff] at hz
  obtain ⟨i, hi, hzz⟩ := hz
  simp [execOp, ho, Instr.alloc, zeroValue, typeInfo, hi, hzz, newVar, newRow]
theorem run_isAgg {t : TypeId} {b : Bool} (h : tagg P t = some b) (w : World) : (isAgg t).run P w = .ok b w := by
  unfold tagg at h
  unfold isAgg
  cases hu : P.underlying t with
  | none => rw [hu] at h; cases h
  | some d =>
    rw [hu] at h
    simp only [Sem.run_bind, run_underlying hu, Result.andThen_ok]
    cases d <;> simp at h <;> subst h <;> rfl
theorem run_sizeOf' {t : TypeId} {n : Nat} (h : tsize P t = some n) (w : World) : (sizeOf t).run P w = .ok n w := by
  simp only [tsize, Option.map_eq_some_iff] at h
  obtain ⟨i, hi, hz⟩ := h
  simp [sizeOf, typeInfo, hi, hz]
theorem run_loadVar_agg {t : TypeId} {n : Nat} (ht : tagg P t = some true) (hn : tsize P t = some n) {p : Addr} {f : Nat → Value} (h : ∀ j, j < n → w.cell? (p.add j) = some (f j)) :
    (loadVar t p).run P w = .ok (.agg ((List.range n).map f).toArray) w := by
  simp [loadVar, run_isAgg ht, run_sizeOf' hn, run_loadCells w p n f h]
theorem run_loadVar_one {t : TypeId} (ht : tagg P t = some false) {p : Addr} {v : Value} (h : w.cell? (p.add 0) = some v) : (loadVar t p).run P w = .ok v w := by
  simp only [Addr.add, if_true] at h
  simp [loadVar, run_isAgg ht, h]
theorem takeN_some {α : Type} {n : Nat} {l r : List α} (h : takeN n l = some r) : n ≤ l.length ∧ r = l.take n := by
  induction n generalizing l r with
  | zero => simp only [takeN, Option.some.injEq] at h; subst h; simp
  | succ n ih =>
    cases l with
    | nil => cases h
    | cons x l =>
      simp only [takeN] at h
      split at h
      · rename_i r' h1
        simp only [Option.some.injEq] at h
        subst h
        obtain ⟨h2, rfl⟩ := ih h1
        exact ⟨by simp; omega, by simp⟩
      · cases h
theorem loadD_sound {t : TypeId} {cs : List D} {x : AV} (h : loadD P t cs = some x) {p : Addr} {u : Nat → Value} {B : Nat → Prop} (ho : ∀ d ∈ cs, d.one = true)
    (hm : ∀ i, i < cs.length → w.cell? (p.add i) = some (u i)) (hd : ∀ i (hi : i < cs.length), DR w B (cs[i]) (u i)) :
    ∃ v, (loadVar t p).run P w = .ok v w ∧ VR H θ w B x v := by
  unfold loadD at h
  split at h
  · rename_i ht
    split at h
    · rename_i n hn
      split at h
      · rename_i l hl
        simp only [Option.some.injEq] at h
        subst h
        obtain ⟨h1, rfl⟩ := takeN_some hl
        refine ⟨_, run_loadVar_agg ht hn (f := u) (fun j hj => hm j (by omega)), .data _ _ (.agg _ _ u (by simp; omega) (fun d hd' => ho d (List.mem_of_mem_take hd')) (fun i hi => ?_) (fun i hi => ?_))⟩
        · simp only [List.length_take] at hi
          simp [show i < n by omega]
        · simp only [List.length_take] at hi
          rw [List.getElem_take]
          exact hd i (by omega)
      · cases h
    · cases h
  · rename_i ht
    split at h
    · rename_i d r
      simp only [Option.some.injEq] at h
      subst h
      exact ⟨u 0, run_loadVar_one ht (hm 0 (by simp)), .data _ _ (hd 0 (by simp))⟩
    · cases h
  · cases h
theorem loadA_sound {t : TypeId} {cs : List AV} {x : AV} (h : loadA P t cs = some x) {p : Addr} {u : Nat → Value} {B : Nat → Prop}
    (hm : ∀ i, i < cs.length → w.cell? (p.add i) = some (u i)) (hd : ∀ i (hi : i < cs.length), VR H θ w B (cs[i]) (u i) ∧ (u i).oneCell' = true) :
    ∃ v, (loadVar t p).run P w = .ok v w ∧ VR H θ w B x v := by
  unfold loadA at h
  split at h
  · rename_i ht
    split at h
    · rename_i n hn
      split at h
      · rename_i l hl
        simp only [Option.some.injEq] at h
        subst h
        obtain ⟨h1, rfl⟩ := takeN_some hl
        refine ⟨_, run_loadVar_agg ht hn (f := u) (fun j hj => hm j (by omega)), mkAgg_sound (.agg _ _ u (by simp; omega) (fun i hi => ?_) (fun i hi => ?_))⟩
        · simp only [List.length_take] at hi
          exact ⟨by simp [show i < n by omega], (hd i (by omega)).2⟩
        · simp only [List.length_take] at hi
          rw [List.getElem_take]
          exact (hd i (by omega)).1
      · cases h
    · cases h
  · rename_i ht
    split at h
    · rename_i d r
      simp only [Option.some.injEq] at h
      subst h
      exact ⟨u 0, run_loadVar_one ht (hm 0 (by simp)), (hd 0 (by simp)).1⟩
    · cases h
  · cases h
theorem box_cells (hs : HSim c H θ w) {o : Nat} {cs : List AV} (hg : H.get o = some (.box cs)) :
    ∃ b e vs, θ o = .pointer (some ⟨b, 0, none⟩) ∧ w.heap[b]? = some (.cells vs e (0, 0)) ∧ vs.size = cs.length ∧ (c.n0 ≤ b ∨ c.Init b) ∧
      ∀ i (hi : i < cs.length) u, vs[i]? = some u → VR H θ w (vis c H θ w) (cs[i]) u ∧ u.oneCell' = true := hs.objs o _ hg
theorem row_cells (hs : HSim c H θ w) {o : Nat} {e : TypeId} {sz : Nat} {l : List D} (hg : H.get o = some (.row e sz l)) :
    0 < sz ∧ (∀ d ∈ l, d.cells.length = sz) ∧ (∀ d ∈ flat l, d.one = true) ∧ ∃ vs, ownsM w 0 e sz (θ o) l.length vs ∧ (∀ b, blk (θ o) = some b → c.n0 ≤ b ∨ c.Init b) ∧
      ∀ i (hi : i < (flat l).length) u, vs[i]? = some u → DR w (vis c H θ w) ((flat l)[i]) u := hs.objs o _ hg
theorem arr_cells (hs : HSim c H θ w) {o : Nat} {e : TypeId} {sz n : Nat} {cs : List AV} (hg : H.get o = some (.arr e sz n cs)) :
    0 < sz ∧ cs.length = n * sz ∧ ∃ vs, ownsM w 0 e sz (θ o) n vs ∧ (∀ b, blk (θ o) = some b → c.n0 ≤ b ∨ c.Init b) ∧
      ∀ i (hi : i < cs.length) u, vs[i]? = some u → VR H θ w (vis c H θ w) (cs[i]) u ∧ u.oneCell' = true := hs.objs o _ hg
theorem flat_getElem {l : List D} {sz : Nat} (h : ∀ d ∈ l, d.cells.length = sz) {i j : Nat} {d : D} (hd : l[i]? = some d) (hj : j < sz) :
    ∃ (h1 : i * sz + j < (flat l).length) (h2 : j < d.cells.length), (flat l)[i * sz + j] = d.cells[j] := by
  have hl := flat_length h
  have hi : i < l.length := (List.getElem?_eq_some_iff.1 hd).1
  have hlt : i * sz + j < l.length * sz := by
    have h1 : (i + 1) * sz ≤ l.length * sz := Nat.mul_le_mul_right _ hi
    rw [Nat.succ_mul] at h1
    omega
  have hdl : d.cells.length = sz := h d (List.mem_of_getElem? hd)
  have h1 := flat_get h hd hj
  refine ⟨by rw [hl]; exact hlt, by omega, ?_⟩
  rw [List.getElem?_eq_getElem (by rw [hl]; exact hlt), List.getElem?_eq_getElem (by omega)] at h1
  exact Option.some.inj h1
theorem aload_sound (hs : St c H θ w sl a) {t : TypeId} {x y : AV} {v : Value} (hx : VR H θ w (vis c H θ w) x v) (h : aload P H t x = some y) :
    ∃ u, (Instr.loadAt t v).run P w = .ok u w ∧ VR H θ w (vis c H θ w) y u := by
  unfold aload at h
  split at h
  · rename_i cs
    obtain ⟨p, u, rfl, hb, ho, hm, hd⟩ := hx.data_inv.ref_inv
    obtain ⟨v', hr, hv⟩ := loadD_sound (H := H) (θ := θ) h ho hm hd
    exact ⟨v', by simp [Instr.loadAt, Instr.sureAddr, hr], hv⟩
  · rename_i ob off
    split at h
    · rename_i cs hg
      obtain ⟨b, e, vs, hθ, hh, hz, hown, hcs⟩ := box_cells hs.sim hg
      cases hx with
      | ptr _ _ _ hv hr hp =>
        obtain ⟨b', hb', rfl⟩ := hp cs hg
        rw [hθ] at hb'
        simp only [Value.pointer.injEq, Option.some.injEq, Addr.mk.injEq, and_true] at hb'
        subst hb'
        have hcell : ∀ i, off + i < cs.length → w.cell? ((⟨b, off, none⟩ : Addr).add i) = some (vs.getD (off + i) undef) := by
          intro i hi
          rw [Addr.add_lit, cell_of_row w b _ vs e (0, 0) hh]
          simp [show off + i < vs.size by omega]
        obtain ⟨v', hr', hv'⟩ := loadA_sound (H := H) (θ := θ) (B := vis c H θ w) (u := fun i => vs.getD (off + i) undef) (p := ⟨b, off, none⟩) h
          (fun i hi => hcell i (by simp only [List.length_drop] at hi; omega))
          (fun i hi => by
            simp only [List.length_drop] at hi
            rw [List.getElem_drop]
            exact hcs (off + i) (by omega) _ (by simp [show off + i < vs.size by omega]))
        exact ⟨v', by simp [Instr.loadAt, Instr.sureAddr, hr'], hv'⟩
    · cases h
  · rename_i ob n i off
    split at h
    · rename_i e sz l hg
      split at h
      · rename_i hn
        split at h
        · rename_i d hd
          obtain ⟨h0, h1, h2, vs, hown, _, hvs⟩ := row_cells hs.sim hg
          cases hx with
          | rref _ _ _ _ _ hv hr hp =>
            obtain ⟨_, h3⟩ := hp _ _ _ hg rfl rfl
            obtain ⟨g, cap, hθ, rfl⟩ := h3 hn
            rw [hθ] at hown
            subst hn
            have hl := flat_length h1
            have hdl := h1 d (List.mem_of_getElem? hd)
            have hcell : ∀ j, off + j < sz → w.cell? ((⟨g, i * sz + off, none⟩ : Addr).add j) = some (vs.getD (i * sz + (off + j)) undef) ∧ DR w (vis c H θ w) (d.cells.getD (off + j) default) (vs.getD (i * sz + (off + j)) undef) ∧ (d.cells.getD (off + j) default).one = true := by
              intro j hj
              obtain ⟨h4, h5, h6⟩ := flat_getElem h1 hd hj
              have h7 : i * sz + (off + j) < vs.length := by rw [hown.1, ← hl]; exact h4
              have hx : vs[i * sz + (off + j)]? = some (vs.getD (i * sz + (off + j)) undef) := by simp [h7]
              refine ⟨?_, ?_, ?_⟩
              · rw [Addr.add_lit, hown.cellAt _ (by rw [hl] at h4; omega), show i * sz + off + j = i * sz + (off + j) from by omega]
                exact hx
              · have h8 := hvs _ h4 _ hx
                rw [h6] at h8
                simpa [List.getD, h5] using h8
              · have h8 := h2 _ (List.getElem_mem h4)
                rw [h6] at h8
                simpa [List.getD, h5] using h8
            obtain ⟨v', hr', hv'⟩ := loadD_sound (H := H) (θ := θ) (B := vis c H θ w) (u := fun j => vs.getD (i * sz + (off + j)) undef) (p := ⟨g, i * sz + off, none⟩) h
              (fun d' hd' => by
                obtain ⟨j, hj, rfl⟩ := List.mem_iff_getElem.1 hd'
                simp only [List.length_drop] at hj
                rw [List.getElem_drop]
                have := (hcell j (by omega)).2.2
                simpa [List.getD, show off + j < d.cells.length by omega] using this)
              (fun j hj => (hcell j (by simp only [List.length_drop] at hj; omega)).1)
              (fun j hj => by
                simp only [List.length_drop] at hj
                rw [List.getElem_drop]
                have := (hcell j (by omega)).2.1
                simpa [List.getD, show off + j < d.cells.length by omega] using this)
            exact ⟨v', by simp [Instr.loadAt, Instr.sureAddr, hr'], hv'⟩
        · cases h
      · cases h
    · rename_i e sz m cs hg
      split at h
      · rename_i hn
        obtain ⟨h0, h1, vs, hown, _, hvs⟩ := arr_cells hs.sim hg
        cases hx with
        | rref _ _ _ _ _ hv hr hp =>
          obtain ⟨_, h3⟩ := hp _ _ _ hg rfl rfl
          obtain ⟨g, cap, hθ, rfl⟩ := h3 hn
          rw [hθ] at hown
          subst hn
          have hlen : vs.length = cs.length := by rw [hown.1, h1]
          obtain ⟨v', hr', hv'⟩ := loadA_sound (H := H) (θ := θ) (B := vis c H θ w) (u := fun j => vs.getD (i * sz + off + j) undef) (p := ⟨g, i * sz + off, none⟩) h
            (fun j hj => by
              simp only [List.length_drop] at hj
              have h7 : i * sz + off + j < vs.length := by omega
              rw [Addr.add_lit, hown.cellAt _ (by omega)]
              simp [h7])
            (fun j hj => by
              simp only [List.length_drop] at hj
              rw [List.getElem_drop]
              exact hvs (i * sz + off + j) (by omega) _ (by simp [show i * sz + off + j < vs.length by omega]))
          exact ⟨v', by simp [Instr.loadAt, Instr.sureAddr, hr'], hv'⟩
      · cases h
    · cases h
  · cases h
theorem y_load (hs : St c H θ w sl a) {t : TypeId} {x : Operand} {y : AV} (ho : o.op = .load t x) (h : aload P H t (aev sl x) = some y) : Yields P c o a w sl H θ y H := by
  obtain ⟨u, hr, hv⟩ := aload_sound hs (aev_sound hs x) h
  refine .read hs (v := u) ?_ hv
  simp [execOp, ho, hr]
end
end Go.Ab
