/-
  One text of the proof (own work): contracts of functions of the program, by the abstract machine.
-/
import Derived.Test.YtapnigckcnknoaaGreatDoorX3
set_option linter.unusedVariables false
set_option linter.unusedSimpArgs false
namespace Go.Ab
open Go Go.RowKit
def over {α : Type} (o : Nat) (xs l : List α) : List α := l.take o ++ xs ++ l.drop (o + xs.length)
theorem over_get {α : Type} {o : Nat} {xs l : List α} (h : o + xs.length ≤ l.length) (i : Nat) : (over o xs l)[i]? = if i < o then l[i]? else if i < o + xs.length then xs[i - o]? else l[i]? := by
  unfold over
  rw [List.append_assoc]
  by_cases h1 : i < o
  · rw [if_pos h1, List.getElem?_append_left (by simp; omega), List.getElem?_take, if_pos h1]
  · rw [if_neg h1, List.getElem?_append_right (by simp; omega), List.length_take, Nat.min_eq_left (by omega)]
    by_cases h2 : i < o + xs.length
    · rw [if_pos h2, List.getElem?_append_left (by omega)]
    · rw [if_neg h2, List.getElem?_append_right (by omega), List.getElem?_drop]
      congr 1
      omega
theorem over_length {α : Type} {o : Nat} {xs l : List α} (h : o + xs.length ≤ l.length) : (over o xs l).length = l.length := by
  unfold over; simp; omega
theorem lay_some {α : Type} {i : Nat} {xs l r : List α} (h : lay i xs l = some r) : i + xs.length ≤ l.length ∧ r = over i xs l := by
  induction l generalizing i xs r with
  | nil =>
    cases i with
    | zero =>
      cases xs with
      | nil => simp only [lay, Option.some.injEq] at h; subst h; exact ⟨by simp, by simp [over]⟩
      | cons x xs => cases h
    | succ i => cases xs <;> cases h
  | cons y l ih =>
    cases i with
    | zero =>
      cases xs with
      | nil => simp only [lay, Option.some.injEq] at h; subst h; exact ⟨by simp, by simp [over]⟩
      | cons x xs =>
        simp only [lay] at h
        split at h
        · rename_i r' h1
          simp only [Option.some.injEq] at h
          subst h
          obtain ⟨h2, rfl⟩ := ih h1
          exact ⟨by simp at h2 ⊢; omega, by simp [over]⟩
        · cases h
    | succ i =>
      simp only [lay] at h
      split at h
      · rename_i r' h1
        simp only [Option.some.injEq] at h
        subst h
        obtain ⟨h2, rfl⟩ := ih h1
        exact ⟨by simp; omega, by simp [over, Nat.add_right_comm]⟩
      · cases h
theorem plain_sound {H : Heap} {θ : Nat → Value} {w : World} {B : Nat → Prop} {x : AV} {v : Value} {d : D} (hx : VR H θ w B x v) (h : x.plain = some d) : DR w B d v := by
  cases hx with
  | data d' v hd => simp only [AV.plain, Option.some.injEq] at h; subst h; exact hd
  | nils => simp only [AV.plain, Option.some.injEq] at h; subst h; exact .empty none 0
  | _ => cases h
theorem plains_some {l : List AV} {ds : List D} (h : plains l = some ds) : ds.length = l.length ∧ (∀ d ∈ ds, d.one = true) ∧ ∀ i (hi : i < l.length) (hj : i < ds.length), (l[i]).plain = some ds[i] := by
  induction l generalizing ds with
  | nil => simp only [plains, Option.some.injEq] at h; subst h; simp
  | cons x r ih =>
    simp only [plains] at h
    split at h
    · rename_i d ds' h1 h2
      split at h
      · rename_i ho
        simp only [Option.some.injEq] at h
        subst h
        obtain ⟨h3, h4, h5⟩ := ih h2
        refine ⟨by simp [h3], fun y hy => ?_, fun i hi hj => ?_⟩
        · rcases List.mem_cons.1 hy with rfl | hy
          · exact ho
          · exact h4 y hy
        · cases i with
          | zero => exact h1
          | succ i => exact h5 i (by simpa using hi) (by simpa using hj)
      · cases h
    · cases h
theorem one_cells {d : D} (h : d.one = true) : d.cells = [d] := by cases d <;> simp_all [D.one, D.cells]
theorem rebuild_cells {d : D} {cs : List D} (h : cs.length = d.cells.length) (ho : ∀ x ∈ cs, x.one = true) : (rebuild d cs).cells = cs := by
  have key : ∀ (d : D), d.cells = [d] → rebuild d cs = (match cs with | [] => d | x :: _ => x) → cs.length = 1 → (rebuild d cs).cells = cs := by
    intro d _ hr hl
    match cs, hl with
    | [x], _ => rw [hr]; exact one_cells (ho x (by simp))
  cases d with
  | agg ds => rfl
  | _ => exact key _ rfl (by cases cs <;> rfl) (by simpa [D.cells] using h)
theorem flat_set {l : List D} {sz : Nat} (h : ∀ d ∈ l, d.cells.length = sz) {i : Nat} {d' : D} (hd' : d'.cells.length = sz) (hi : i < l.length) (k : Nat) :
    (flat (l.set i d'))[k]? = if k < i * sz then (flat l)[k]? else if k < i * sz + sz then d'.cells[k - i * sz]? else (flat l)[k]? := by
  induction l generalizing i k with
  | nil => simp at hi
  | cons x l ih =>
    have hx := h x (by simp)
    cases i with
    | zero =>
      simp only [List.set_cons_zero, flat_cons, Nat.zero_mul, Nat.not_lt_zero, if_false, Nat.zero_add, Nat.sub_zero]
      by_cases hk : k < sz
      · rw [if_pos hk, List.getElem?_append_left (by omega)]
      · rw [if_neg hk, List.getElem?_append_right (by omega), List.getElem?_append_right (by omega), hx, hd']
    | succ i =>
      simp only [List.set_cons_succ, flat_cons]
      have ihk := ih (fun y hy => h y (by simp [hy])) (i := i) (by simpa using hi) (k - sz)
      have e : (i + 1) * sz = i * sz + sz := Nat.succ_mul _ _
      rw [e]
      by_cases hk : k < sz
      · rw [List.getElem?_append_left (by omega), List.getElem?_append_left (by omega), if_pos (show k < i * sz + sz from by omega)]
      · rw [List.getElem?_append_right (by omega), List.getElem?_append_right (by omega), hx, ihk]
        by_cases h1 : k - sz < i * sz
        · rw [if_pos h1, if_pos (show k < i * sz + sz from by omega)]
        · rw [if_neg h1, if_neg (show ¬ k < i * sz + sz from by omega)]
          by_cases h2 : k - sz < i * sz + sz
          · rw [if_pos h2, if_pos (show k < i * sz + sz + sz from by omega), show k - sz - i * sz = k - (i * sz + sz) from by omega]
          · rw [if_neg h2, if_neg (show ¬ k < i * sz + sz + sz from by omega)]
section
variable {P : Program} {c : Ctx} {H H' : Heap} {θ θ' : Nat → Value} {w w' : World} {sl : List AV} {a : Act} {o : Oper} {r : AV}
theorem run_storeVar_at {t : TypeId} {v : Value} (hn : tsize P t = some v.cells.size) {g off : Nat} {e : TypeId} {cur : Array Value} {fr : Nat × Nat} (hg : w.heap[g]? = some (.cells cur e fr)) (hso : Soft fr cur.size)
    (hfit : off + v.cells.size ≤ cur.size) (h1 : ∀ u ∈ v.cells.toList, u.oneCell' = true) :
    (Instr.storeAt t (.pointer (some ⟨g, off, none⟩)) v).run P w = .ok () (w.setRow g (over off v.cells.toList cur.toList).toArray) := by
  have h := run_storeCells_soft (P := P) (off := off) hg hso (by simpa using hfit) h1
  simp only [overV] at h
  simp [Instr.storeAt, Instr.sureAddr, storeVar, run_sizeOf' hn, h, over]
theorem store_box (hs : St c H θ w sl a) {t : TypeId} {ob off : Nat} {cs cs' xs : List AV} {x : AV} {pv v : Value} (hp : VR H θ w (vis c H θ w) (.ptr ob off) pv) (hx : VR H θ w (vis c H θ w) x v)
    (hc : x.cells = some xs) (hn : tsize P t = some xs.length) (hg : H.get ob = some (.box cs)) (hl : lay off xs cs = some cs') :
    ∃ w' θ', (Instr.storeAt t pv v).run P w = .ok () w' ∧ St c (H.set ob (.box cs')) θ' w' sl a ∧ Kept c w w' ∧ HLe H θ (H.set ob (.box cs')) θ' := by
  obtain ⟨b, e, vs, hθ, hh, hz, hown, hcs⟩ := box_cells hs.sim hg
  obtain ⟨hxz, hxs⟩ := cells_sound hx hc
  obtain ⟨hfit, rfl⟩ := lay_some hl
  have hpv : pv = .pointer (some ⟨b, off, none⟩) := by
    cases hp with
    | ptr _ _ _ hv hr hp =>
      obtain ⟨b', hb', rfl⟩ := hp cs hg
      rw [hθ] at hb'
      simp only [Value.pointer.injEq, Option.some.injEq, Addr.mk.injEq, and_true] at hb'
      rw [hb']
  subst hpv
  have h1 : ∀ u ∈ v.cells.toList, u.oneCell' = true := by
    intro u hu
    obtain ⟨i, hi, rfl⟩ := List.mem_iff_getElem.1 hu
    simp only [Array.length_toList] at hi
    exact (hxs i (by omega) _ (by simp [hi])).2
  have hr := run_storeVar_at (P := P) (w := w) (t := t) (v := v) (by rw [hn, hxz]) (g := b) (off := off) hh (soft0 _) (by omega) h1
  have hT := hs.sim.turn (w' := w.setRow b (over off v.cells.toList vs.toList).toArray) (k := ob) (x0 := .box cs) (x := .box (over off xs cs)) (val := θ ob) hg rfl rfl
    (fun k hk hne => setRow_other w b k _ (fun e => hne (by rw [hθ, e]; rfl))) (by simp) (fun k hk => .inl hk) trivial (fun _ => rfl)
    (fun hvr => ⟨b, e, _, hθ, setRow_heap w b vs _ e _ hh, by simp only [List.size_toArray]; rw [over_length (by simp; omega), over_length hfit]; simpa using hz, hown, fun i hi u hu => by
      simp only [List.getElem?_toArray] at hu
      rw [over_get (by simp; omega)] at hu
      have hi' : i < cs.length := by rw [over_length hfit] at hi; exact hi
      have hx' : (over off xs cs)[i]? = some (over off xs cs)[i] := List.getElem?_eq_getElem hi
      rw [over_get hfit] at hx'
      simp only [Array.length_toList, hxz] at hu
      by_cases c1 : i < off
      · rw [if_pos c1] at hu hx'
        have := hcs i hi' u (by simpa using hu)
        rw [List.getElem?_eq_getElem hi', Option.some.injEq] at hx'
        rw [← hx']
        exact ⟨hvr _ _ this.1, this.2⟩
      · rw [if_neg c1] at hu hx'
        by_cases c2 : i < off + xs.length
        · rw [if_pos c2] at hu hx'
          have := hxs (i - off) (by omega) u (by simpa using hu)
          rw [List.getElem?_eq_getElem (show i - off < xs.length by omega), Option.some.injEq] at hx'
          rw [← hx']
          exact ⟨hvr _ _ this.1, this.2⟩
        · rw [if_neg c2] at hu hx'
          have := hcs i hi' u (by simpa using hu)
          rw [List.getElem?_eq_getElem hi', Option.some.injEq] at hx'
          rw [← hx']
          exact ⟨hvr _ _ this.1, this.2⟩⟩)
  refine ⟨_, _, hr, ⟨hT.1, hs.defers, hs.size, fun i y u h1 h2 => hT.2.1 y u (hs.vals i y u h1 h2)⟩, ⟨rfl, rfl, rfl, by simp, fun k hk hi => setRow_other w b k _ (fun e => ?_)⟩, hT.2.2⟩
  subst e
  rcases hown with h | h
  · omega
  · exact hi h
theorem store_row (hs : St c H θ w sl a) {t : TypeId} {ob m i off : Nat} {e : TypeId} {sz : Nat} {l : List D} {xs : List AV} {ds cs' : List D} {d : D} {x : AV} {pv v : Value} (hp : VR H θ w (vis c H θ w) (.rref ob m i off) pv)
    (hx : VR H θ w (vis c H θ w) x v) (hc : x.cells = some xs) (hn : tsize P t = some xs.length) (hg : H.get ob = some (.row e sz l)) (hm : l.length = m) (hd : l[i]? = some d) (hpl : plains xs = some ds)
    (hl : lay off ds d.cells = some cs') :
    ∃ w' θ', (Instr.storeAt t pv v).run P w = .ok () w' ∧ St c (H.set ob (.row e sz (l.set i (rebuild d cs')))) θ' w' sl a ∧ Kept c w w' ∧ HLe H θ (H.set ob (.row e sz (l.set i (rebuild d cs')))) θ' := by
  obtain ⟨h0, hcl, hone, vs, hown, hbl, hvs⟩ := row_cells hs.sim hg
  obtain ⟨hxz, hxs⟩ := cells_sound hx hc
  obtain ⟨hfit, rfl⟩ := lay_some hl
  obtain ⟨hdl, hdo, hdp⟩ := plains_some hpl
  have hi : i < l.length := (List.getElem?_eq_some_iff.1 hd).1
  have hdsz : d.cells.length = sz := hcl d (List.mem_of_getElem? hd)
  obtain ⟨g, cap, hθ, hpv⟩ : ∃ g cap, θ ob = .slice (some ⟨g, 0, none⟩) m cap ∧ pv = .pointer (some ⟨g, i * sz + off, none⟩) := by
    cases hp with
    | rref _ _ _ _ _ hv hr hp => exact (hp _ _ _ hg rfl rfl).2 hm
  subst hpv
  subst hm
  have hfl := flat_length hcl
  have hisz : i * sz + sz ≤ l.length * sz := by
    have h1 : (i + 1) * sz ≤ l.length * sz := Nat.mul_le_mul_right _ hi
    rw [Nat.succ_mul] at h1
    exact h1
  have hown' := hown
  rw [hθ] at hown'
  obtain ⟨hvl, hrow⟩ := hown'
  rcases hrow with ⟨h, _⟩ | ⟨g', cap', cur, h, _, ⟨fr, hh, hso⟩, hnc, hcm, hcs, htake⟩
  · cases h
  simp only [Value.slice.injEq, Option.some.injEq, Addr.mk.injEq, and_true, true_and] at h
  obtain ⟨rfl, rfl⟩ := h
  have h1 : ∀ u ∈ v.cells.toList, u.oneCell' = true := by
    intro u hu
    obtain ⟨j, hj, rfl⟩ := List.mem_iff_getElem.1 hu
    simp only [Array.length_toList] at hj
    exact (hxs j (by omega) _ (by simp [hj])).2
  have hcap : l.length * sz ≤ cap * sz := Nat.mul_le_mul_right _ hnc
  have hr := run_storeVar_at (P := P) (w := w) (t := t) (v := v) (by rw [hn, hxz]) (g := g) (off := i * sz + off) hh hso (by omega) h1
  have hnew : (rebuild d (over off ds d.cells)).cells = over off ds d.cells := rebuild_cells (over_length hfit) (fun y hy => by
    unfold over at hy
    simp only [List.mem_append] at hy
    have hde : ∀ y ∈ d.cells, y.one = true := fun y hy => hone y (by
      unfold flat
      exact List.mem_flatMap.2 ⟨d, List.mem_of_getElem? hd, hy⟩)
    rcases hy with (hy | hy) | hy
    · exact hde y (List.mem_of_mem_take hy)
    · exact hdo y hy
    · exact hde y (List.mem_of_mem_drop hy))
  have hnewsz : (rebuild d (over off ds d.cells)).cells.length = sz := by rw [hnew, over_length hfit, hdsz]
  have hcl' : ∀ y ∈ l.set i (rebuild d (over off ds d.cells)), y.cells.length = sz := fun y hy => by
    rcases List.mem_or_eq_of_mem_set hy with h | h
    · exact hcl y h
    · rw [h]; exact hnewsz
  have hflat : ∀ k, (flat (l.set i (rebuild d (over off ds d.cells))))[k]? = if k < i * sz + off then (flat l)[k]? else if k < i * sz + off + ds.length then ds[k - (i * sz + off)]? else (flat l)[k]? := by
    intro k
    rw [flat_set hcl hnewsz hi k, hnew]
    by_cases c1 : k < i * sz
    · rw [if_pos c1, if_pos (show k < i * sz + off by omega)]
    · rw [if_neg c1]
      by_cases c2 : k < i * sz + sz
      · rw [if_pos c2, over_get hfit]
        have hfg := flat_get hcl hd (j := k - i * sz) (by omega)
        rw [show i * sz + (k - i * sz) = k from by omega] at hfg
        by_cases c3 : k - i * sz < off
        · rw [if_pos c3, if_pos (show k < i * sz + off by omega), hfg]
        · rw [if_neg c3, if_neg (show ¬ k < i * sz + off by omega)]
          by_cases c4 : k - i * sz < off + ds.length
          · rw [if_pos c4, if_pos (show k < i * sz + off + ds.length by omega), show k - i * sz - off = k - (i * sz + off) from by omega]
          · rw [if_neg c4, if_neg (show ¬ k < i * sz + off + ds.length by omega), hfg]
      · rw [if_neg c2, if_neg (show ¬ k < i * sz + off by omega), if_neg (show ¬ k < i * sz + off + ds.length by omega)]
  have hfo : (over (i * sz + off) v.cells.toList vs).length = vs.length := over_length (by simp only [Array.length_toList]; omega)
  have hT := hs.sim.turn (w' := w.setRow g (over (i * sz + off) v.cells.toList cur.toList).toArray) (k := ob) (x0 := .row e sz l) (x := .row e sz (l.set i (rebuild d (over off ds d.cells)))) (val := θ ob) hg rfl rfl
    (fun k hk hne => setRow_other w g k _ (fun e => hne (by rw [hθ, e]; rfl))) (by simp) (fun k hk => .inl hk) ⟨rfl, rfl, by simp⟩ (fun _ => rfl)
    (fun hvr => by
      refine ⟨h0, hcl', ?_, over (i * sz + off) v.cells.toList vs, ⟨by rw [hfo, hvl]; simp, .inr ⟨g, cap, _, by rw [hθ]; simp, Nat.zero_le _, ⟨fr, setRow_heap w g cur _ e _ hh, by rw [List.size_toArray, over_length (by simp only [Array.length_toList]; omega)]; simpa using hso⟩, by simpa using hnc, hcm, ?_, ?_⟩⟩, hbl, ?_⟩
      · intro y hy
        obtain ⟨k, hk, rfl⟩ := List.mem_iff_getElem.1 hy
        have h2 := hflat k
        rw [List.getElem?_eq_getElem hk] at h2
        split at h2
        · exact hone _ (List.mem_of_getElem? h2.symm)
        · split at h2
          · exact hdo _ (List.mem_of_getElem? h2.symm)
          · exact hone _ (List.mem_of_getElem? h2.symm)
      · simp only [List.size_toArray]
        rw [over_length (by simp; omega)]
        simpa using hcs
      · simp only [List.length_set]
        rw [← htake]
        apply List.ext_getElem?
        intro k
        rw [List.getElem?_take]
        by_cases hk : k < l.length * sz
        · rw [if_pos hk, over_get (by simp; omega), over_get (by simp; omega), List.getElem?_take, if_pos hk]
        · rw [if_neg hk, over_get (by simp; omega), if_neg (by omega), if_neg (by simp only [Array.length_toList]; omega), List.getElem?_take, if_neg hk]
      · intro k hk u hu
        rw [over_get (by simp only [Array.length_toList]; omega)] at hu
        have h2 := hflat k
        rw [List.getElem?_eq_getElem hk] at h2
        simp only [Array.length_toList, hxz] at hu
        rw [hdl] at h2
        by_cases c1 : k < i * sz + off
        · rw [if_pos c1] at hu h2
          have hk' := (List.getElem?_eq_some_iff.1 h2.symm).1
          rw [List.getElem?_eq_getElem hk', Option.some.injEq] at h2
          rw [h2]
          exact (hvr (.data _) u (.data _ _ (hvs k hk' u hu))).data_inv
        · rw [if_neg c1] at hu h2
          by_cases c2 : k < i * sz + off + xs.length
          · rw [if_pos c2] at hu h2
            have hk' := (List.getElem?_eq_some_iff.1 h2.symm).1
            rw [List.getElem?_eq_getElem hk', Option.some.injEq] at h2
            rw [h2]
            have h3 := (hxs (k - (i * sz + off)) (by omega) u (by simpa using hu)).1
            exact (hvr (.data _) u (.data _ _ (plain_sound h3 (hdp _ (by omega) hk')))).data_inv
          · rw [if_neg c2] at hu h2
            have hk' := (List.getElem?_eq_some_iff.1 h2.symm).1
            rw [List.getElem?_eq_getElem hk', Option.some.injEq] at h2
            rw [h2]
            exact (hvr (.data _) u (.data _ _ (hvs k hk' u hu))).data_inv)
  refine ⟨_, _, hr, ⟨hT.1, hs.defers, hs.size, fun i y u h1 h2 => hT.2.1 y u (hs.vals i y u h1 h2)⟩, ⟨rfl, rfl, rfl, by simp, fun k hk hi => setRow_other w g k _ (fun e => ?_)⟩, hT.2.2⟩
  subst e
  rcases hbl k (by rw [hθ]; rfl) with h | h
  · omega
  · exact hi h
theorem store_arr (hs : St c H θ w sl a) {t : TypeId} {ob m i off : Nat} {e : TypeId} {sz : Nat} {cs cs' xs : List AV} {x : AV} {pv v : Value} (hp : VR H θ w (vis c H θ w) (.rref ob m i off) pv)
    (hx : VR H θ w (vis c H θ w) x v) (hc : x.cells = some xs) (hn : tsize P t = some xs.length) (hg : H.get ob = some (.arr e sz m cs)) (hl : lay (i * sz + off) xs cs = some cs') :
    ∃ w' θ', (Instr.storeAt t pv v).run P w = .ok () w' ∧ St c (H.set ob (.arr e sz m cs')) θ' w' sl a ∧ Kept c w w' ∧ HLe H θ (H.set ob (.arr e sz m cs')) θ' := by
  obtain ⟨h0, hcl, vs, hown, hbl, hvs⟩ := arr_cells hs.sim hg
  obtain ⟨hxz, hxs⟩ := cells_sound hx hc
  obtain ⟨hfit, rfl⟩ := lay_some hl
  obtain ⟨g, cap, hθ, hpv⟩ : ∃ g cap, θ ob = .slice (some ⟨g, 0, none⟩) m cap ∧ pv = .pointer (some ⟨g, i * sz + off, none⟩) := by
    cases hp with
    | rref _ _ _ _ _ hv hr hp => exact (hp _ _ _ hg rfl rfl).2 rfl
  subst hpv
  have hown' := hown
  rw [hθ] at hown'
  obtain ⟨hvl, hrow⟩ := hown'
  rcases hrow with ⟨h, _⟩ | ⟨g', cap', cur, h, _, ⟨fr, hh, hso⟩, hnc, hcm, hcs, htake⟩
  · cases h
  simp only [Value.slice.injEq, Option.some.injEq, Addr.mk.injEq, and_true, true_and] at h
  obtain ⟨rfl, rfl⟩ := h
  have h1 : ∀ u ∈ v.cells.toList, u.oneCell' = true := by
    intro u hu
    obtain ⟨j, hj, rfl⟩ := List.mem_iff_getElem.1 hu
    simp only [Array.length_toList] at hj
    exact (hxs j (by omega) _ (by simp [hj])).2
  have hcap : m * sz ≤ cap * sz := Nat.mul_le_mul_right _ hnc
  have hr := run_storeVar_at (P := P) (w := w) (t := t) (v := v) (by rw [hn, hxz]) (g := g) (off := i * sz + off) hh hso (by omega) h1
  have hfo : (over (i * sz + off) v.cells.toList vs).length = vs.length := over_length (by simp only [Array.length_toList]; omega)
  have hT := hs.sim.turn (w' := w.setRow g (over (i * sz + off) v.cells.toList cur.toList).toArray) (k := ob) (x0 := .arr e sz m cs) (x := .arr e sz m (over (i * sz + off) xs cs)) (val := θ ob) hg rfl rfl
    (fun k hk hne => setRow_other w g k _ (fun e => hne (by rw [hθ, e]; rfl))) (by simp) (fun k hk => .inl hk) ⟨rfl, rfl, Nat.le_refl _⟩ (fun _ => rfl)
    (fun hvr => by
      refine ⟨h0, by rw [over_length hfit, hcl], over (i * sz + off) v.cells.toList vs, ⟨by rw [hfo, hvl], .inr ⟨g, cap, _, by rw [hθ], Nat.zero_le _, ⟨fr, setRow_heap w g cur _ e _ hh, by rw [List.size_toArray, over_length (by simp only [Array.length_toList]; omega)]; simpa using hso⟩, hnc, hcm, ?_, ?_⟩⟩, hbl, ?_⟩
      · simp only [List.size_toArray]
        rw [over_length (by simp only [Array.length_toList]; omega)]
        simpa using hcs
      · rw [← htake]
        apply List.ext_getElem?
        intro k
        rw [List.getElem?_take]
        by_cases hk : k < m * sz
        · rw [if_pos hk, over_get (by simp only [Array.length_toList]; omega), over_get (by simp only [List.length_take, Array.length_toList]; omega), List.getElem?_take, if_pos hk]
        · rw [if_neg hk, over_get (by simp only [List.length_take, Array.length_toList]; omega), if_neg (by omega), if_neg (by simp only [Array.length_toList]; omega), List.getElem?_take, if_neg hk]
      · intro k hk u hu
        rw [over_get (by simp only [Array.length_toList]; omega)] at hu
        have hk' : k < cs.length := by rw [over_length hfit] at hk; exact hk
        have hx' : (over (i * sz + off) xs cs)[k]? = some (over (i * sz + off) xs cs)[k] := List.getElem?_eq_getElem hk
        rw [over_get hfit] at hx'
        simp only [Array.length_toList, hxz] at hu
        by_cases c1 : k < i * sz + off
        · rw [if_pos c1] at hu hx'
          rw [List.getElem?_eq_getElem hk', Option.some.injEq] at hx'
          rw [← hx']
          exact ⟨hvr _ _ (hvs k hk' u hu).1, (hvs k hk' u hu).2⟩
        · rw [if_neg c1] at hu hx'
          by_cases c2 : k < i * sz + off + xs.length
          · rw [if_pos c2] at hu hx'
            have := hxs (k - (i * sz + off)) (by omega) u (by simpa using hu)
            rw [List.getElem?_eq_getElem (show k - (i * sz + off) < xs.length by omega), Option.some.injEq] at hx'
            rw [← hx']
            exact ⟨hvr _ _ this.1, this.2⟩
          · rw [if_neg c2] at hu hx'
            rw [List.getElem?_eq_getElem hk', Option.some.injEq] at hx'
            rw [← hx']
            exact ⟨hvr _ _ (hvs k hk' u hu).1, (hvs k hk' u hu).2⟩)
  refine ⟨_, _, hr, ⟨hT.1, hs.defers, hs.size, fun i y u h1 h2 => hT.2.1 y u (hs.vals i y u h1 h2)⟩, ⟨rfl, rfl, rfl, by simp, fun k hk hi => setRow_other w g k _ (fun e => ?_)⟩, hT.2.2⟩
  subst e
  rcases hbl k (by rw [hθ]; rfl) with h | h
  · omega
  · exact hi h
theorem astore_sound (hs : St c H θ w sl a) {t : TypeId} {p x : AV} {pv v : Value} (hp : VR H θ w (vis c H θ w) p pv) (hx : VR H θ w (vis c H θ w) x v) (h : astore P H t p x = some H') :
    ∃ w' θ', (Instr.storeAt t pv v).run P w = .ok () w' ∧ St c H' θ' w' sl a ∧ Kept c w w' ∧ HLe H θ H' θ' := by
  unfold astore at h
  split at h
  · rename_i xs n hc hn
    split at h
    · rename_i hlen
      subst hlen
      split at h
      · rename_i ob off
        split at h
        · rename_i cs hg
          split at h
          · rename_i cs' hl
            simp only [Option.some.injEq] at h
            subst h
            exact store_box hs hp hx hc hn hg hl
          · cases h
        · cases h
      · rename_i ob m i off
        split at h
        · rename_i e sz l hg
          split at h
          · rename_i hm
            split at h
            · rename_i d ds hd hpl
              split at h
              · rename_i cs' hl
                simp only [Option.some.injEq] at h
                subst h
                exact store_row hs hp hx hc hn hg hm hd hpl hl
              · cases h
            · cases h
          · cases h
        · rename_i e sz n cs hg
          split at h
          · rename_i hm
            subst hm
            split at h
            · rename_i cs' hl
              simp only [Option.some.injEq] at h
              subst h
              exact store_arr hs hp hx hc hn hg hl
            · cases h
          · cases h
        · cases h
      · cases h
    · cases h
  · cases h
theorem y_store (hs : St c H θ w sl a) {t : TypeId} {x y : Operand} (ho : o.op = .store t x y) (h : astore P H t (aev sl x) (aev sl y) = some H') : Yields P c o a w sl H θ .junk H' := by
  obtain ⟨w', θ', hr, h1, h2, h3⟩ := astore_sound hs (aev_sound hs x) (aev_sound hs y) h
  refine .skip ?_ h1 h2 h3
  simp [execOp, ho, hr]
end
end Go.Ab
