/-
  One text of the proof (own work): contracts of functions of the program, by the abstract machine.
-/
import Derived.Test.YtpecnbkfahekdaaAbFun
import Derived.Shelf.Spec.SlicesInsertGrow
import Derived.Test.YtpecnbkfahekdaaChecked
import Derived.Test.YtpecnbkfahekdaaAbLoc
import Derived.Test.YtpecnbkfahekdaaAbCallee
set_option linter.unusedVariables false
set_option linter.unusedSimpArgs false
namespace Go.Ab
open Go Go.RowKit Go.Proofs Go.Shelf
def insRen : Ren where
  f := fun n => if n = 21 then 53 else if n = 27 then 57 else if n = 28 then 58 else if n = 35 then 59 else if n = 39 then 60 else 0
  t := fun n => if n = 22 then 28 else n
  g := fun n => n
theorem lays21 : Lays2.n21 Try.prog insRen where
  mixed := by kernel_rfl
  f21 := by kernel_rfl
  f27 := by kernel_rfl
  f28 := by kernel_rfl
  f35 := by kernel_rfl
  f39 := by kernel_rfl
  t0 := by kernel_rfl
  a0 := by intro w; kernel_rfl
  z0 := by intro w; kernel_rfl
  v0 := by intro w; kernel_rfl
  t3 := by kernel_rfl
  a3 := by intro w; kernel_rfl
  z3 := by intro w; kernel_rfl
  v3 := by intro w; kernel_rfl
  t4 := by kernel_rfl
  a4 := by intro w; kernel_rfl
  z4 := by intro w; kernel_rfl
  v4 := by intro w; kernel_rfl
  t22 := by kernel_rfl
  a22 := by intro w; kernel_rfl
  z22 := by intro w; kernel_rfl
  v22 := by intro w; kernel_rfl
  i3 := by kernel_rfl

theorem setCells_same {g : Nat} {t : TypeId} : ∀ (vs : List Value) (o : Nat) (w : World) (cs : Array Value), w.heap[g]? = some (.cells cs t (0, 0)) → ∃ cs', (w.setCells g o vs).heap[g]? = some (.cells cs' t (0, 0)) ∧ cs'.size = cs.size
  | [], _, w, cs, h => ⟨cs, h, rfl⟩
  | v :: r, o, w, cs, h => by
    obtain ⟨cs', h1, h2⟩ := setCells_same r (o + 1) (w.setCell ⟨g, o, none⟩ v) _ (heap_setCell_same w g o cs t v h)
    exact ⟨cs', h1, by simpa using h2⟩
theorem setCells_other {g k : Nat} (hk : k ≠ g) : ∀ (vs : List Value) (o : Nat) (w : World), (w.setCells g o vs).heap[k]? = w.heap[k]?
  | [], _, w => rfl
  | v :: r, o, w => by rw [World.setCells, setCells_other hk r, heap_setCell_other w ⟨g, o, none⟩ k v hk]
theorem setCells_size {g : Nat} : ∀ (vs : List Value) (o : Nat) (w : World), (w.setCells g o vs).heap.size = w.heap.size
  | [], _, w => rfl
  | v :: r, o, w => by rw [World.setCells, setCells_size r]; simp [World.setCell]
theorem setCells_env {g : Nat} : ∀ (vs : List Value) (o : Nat) (w : World), (w.setCells g o vs).os = w.os ∧ (w.setCells g o vs).tape = w.tape ∧ (w.setCells g o vs).output = w.output
  | [], _, w => ⟨rfl, rfl, rfl⟩
  | v :: r, o, w => by rw [World.setCells]; exact setCells_env r _ _
theorem own_of_cells {w : World} {e : TypeId} {g cap n : Nat} {cur : Array Value} {xs : List Value} (hg : w.heap[g]? = some (.cells cur e (0, 0))) (hs : cur.size = cap) (hn : n ≤ cap) (hm : cap ≤ maxLen) (hl : xs.length = n)
    (hc : ∀ j u, xs[j]? = some u → w.cell? ⟨g, j, none⟩ = some u) : w.ownsRow 0 e 1 (.slice (some ⟨g, 0, none⟩) n cap) n xs := by
  refine ⟨by simpa using hl, .inr ⟨g, cap, cur, rfl, Nat.zero_le _, hg, hn, hm, by simpa using hs, ?_⟩⟩
  apply List.ext_getElem?
  intro j
  rw [List.getElem?_take]
  split
  · rename_i hj
    have hj' : j < xs.length := by omega
    have := hc j _ (List.getElem?_eq_getElem hj')
    rw [cell_of_row w g j cur e (0, 0) hg] at this
    rw [Array.getElem?_toList, this, List.getElem?_eq_getElem hj']
  · rw [List.getElem?_eq_none (by omega)]
theorem ins_get {α : Type} {xs : List α} {i : Nat} (hi : i ≤ xs.length) {x : α} {j : Nat} {u : α} (h : (xs.take i ++ x :: xs.drop i)[j]? = some u) : (j < i ∧ xs[j]? = some u) ∨ (j = i ∧ u = x) ∨ (i < j ∧ xs[j - 1]? = some u) := by
  have hl : (xs.take i).length = i := by rw [List.length_take]; omega
  rcases Nat.lt_trichotomy j i with c | c | c
  · rw [List.getElem?_append_left (by omega), List.getElem?_take, if_pos c] at h
    exact .inl ⟨c, h⟩
  · rw [List.getElem?_append_right (by omega), hl, c, Nat.sub_self] at h
    simp only [List.getElem?_cons_zero, Option.some.injEq] at h
    exact .inr (.inl ⟨c, h.symm⟩)
  · rw [List.getElem?_append_right (by omega), hl, show j - i = (j - i - 1) + 1 from by omega, List.getElem?_cons_succ, List.getElem?_drop, show i + (j - i - 1) = j - 1 from by omega] at h
    exact .inr (.inr ⟨c, h⟩)

/-- What a row of one's own becomes by slices.Insert of one element. -/
theorem insert_own {w : World} {v0 : Value} {n i vb vc : Nat} {cs : List Value} {x : Value} (hown : w.ownsRow 0 3 1 v0 n cs) (hx : w.ownsRow 0 3 1 (.slice (some ⟨vb, 0, none⟩) 1 vc) 1 [x]) (hi : i ≤ n) (hbig : (n + 1) * 8 ≤ 140737488355328)
    (hne : v0.ownBlock ≠ some vb) (h1c : ∀ v ∈ cs, v.oneCell' = true) (h1v : x.oneCell' = true) :
    Calls Try.prog 53 #[v0, .int .i64 i, .slice (some ⟨vb, 0, none⟩) 1 vc] w fun e w' => ∃ v, e = .returned v ∧ w'.ownsRow 0 3 1 v (n + 1) (cs.take i ++ x :: cs.drop i) ∧
      w.grownBy w' v0.ownBlock ∧ (v.ownBlock = v0.ownBlock ∨ v.ownBlock = some w.heap.size) := by
  have hcl : cs.length = n := by simpa using hown.1
  have hl' : (cs.take i ++ x :: cs.drop i).length = n + 1 := by simp; omega
  have hxc : ∀ j v, [x][j]? = some v → w.cell? ⟨vb, 0 + j, none⟩ = some v := fun j v hj => by
    have hj1 : j < 1 := by simpa using (List.getElem?_eq_some_iff.1 hj).1
    rw [Nat.zero_add, hx.cellAt j (by simpa using hj1)]
    exact hj
  have h1v' : ∀ v ∈ [x], v.oneCell' = true := by simpa using h1v
  have hfv : ∀ j, w.frozen? ⟨vb, j, none⟩ = false := hx.frozenAt
  obtain ⟨curv, hvh⟩ : ∃ cur, w.heap[vb]? = some (.cells cur 3 (0, 0)) := by
    rcases hx.2 with ⟨h, _⟩ | ⟨g, cp, cur, h, _, hg, _⟩
    · cases h
    · simp only [Value.slice.injEq, Option.some.injEq, Addr.mk.injEq, and_true, true_and] at h
      obtain ⟨rfl, _⟩ := h
      exact ⟨cur, hg⟩
  rcases hown.2 with ⟨rfl, h0⟩ | ⟨g, cap, cur, rfl, _, hg, hnc, hcm, hcs, htk⟩
  · subst h0
    have hi0 : i = 0 := by omega
    subst hi0
    have hcn : cs = [] := List.eq_nil_of_length_eq_zero hcl
    subst hcn
    refine (Any2.slices_Insert_int_end_grow lays21 none 0 0 vb 0 1 vc [] [x] w (by omega) (by omega) (by omega) (by omega) rfl rfl (fun _ => rfl) (fun a h => by cases h) hxc h1v').mono ?_
    rintro e w' ⟨he, hw⟩
    simp only [show insRen.t 3 = 3 from rfl] at he hw
    subst he hw
    refine ⟨_, rfl, own_of_cells (cur := (([] ++ [x]).toArray ++ Builtin.zeroCells (Value.int .i64 0).cells (grownCap w (0 + 1) 0 3 - (0 + 1)))) (by exact heap_alloc_new w.drew _) ?_ (grownCap_ge w (0 + 1) 0 3) (grownCap_le_maxLen w _ _ _ (by decide)) rfl ?_, ⟨rfl, rfl, rfl, by rw [show ∀ o, (w.drew.alloc o).heap = w.heap.push o from fun _ => rfl, Array.size_push]; omega, fun k hk _ => heap_alloc_old w.drew _ hk⟩, .inr rfl⟩
    · have := grownCap_ge w (0 + 1) 0 3
      rw [Array.size_append, show (Builtin.zeroCells (Value.int .i64 0).cells (grownCap w (0 + 1) 0 3 - (0 + 1))).size = grownCap w (0 + 1) 0 3 - (0 + 1) from by simp [Builtin.zeroCells, Value.cells]]
      simp only [List.nil_append, List.size_toArray, List.length_cons, List.length_nil]
      omega
    · intro j u hj
      have hh := heap_alloc_new w.drew (.cells (([] ++ [x]).toArray ++ Builtin.zeroCells (Value.int .i64 0).cells (grownCap w (0 + 1) 0 3 - (0 + 1))) 3)
      rw [cell_of_row _ w.heap.size j _ 3 (0, 0) hh]
      have hj1 : j < 1 := by simpa using (List.getElem?_eq_some_iff.1 hj).1
      have : j = 0 := by omega
      subst this
      rw [Array.getElem?_append_left (by simp)]
      simpa using hj
  · have hca : ∀ j v, cs[j]? = some v → w.cell? ⟨g, j, none⟩ = some v := fun j v hj => by
      have hj1 : j < n := by have := (List.getElem?_eq_some_iff.1 hj).1; omega
      rw [hown.cellAt j (by simpa using hj1)]
      exact hj
    have hfz : ∀ j, w.frozen? ⟨g, j, none⟩ = false := hown.frozenAt
    have hsp : ∀ j, j < cap → (w.cell? ⟨g, j, none⟩).isSome = true := fun j hj => by
      rw [cell_of_row w g j cur 3 (0, 0) hg, Array.getElem?_eq_getElem (by omega)]
      rfl
    have hvg : vb ≠ g := fun h => hne (by simp [Value.ownBlock, h])
    by_cases hroom : n + 1 ≤ cap
    · by_cases hin : i = n
      · subst hin
        refine (Any2.slices_Insert_int_end_room lays21 g 0 i cap vb 0 1 vc [x] w (by omega) hroom hcm rfl (fun j hj => hsp _ (by omega)) (fun j hj => hfz _) hxc h1v').mono ?_
        rintro e w' ⟨rfl, rfl⟩
        obtain ⟨cur', hg', hs'⟩ := setCells_same [x] (0 + i) w cur hg
        obtain ⟨e1, e2, e3⟩ := setCells_env (g := g) [x] (0 + i) w
        refine ⟨_, rfl, own_of_cells hg' (by omega) hroom hcm hl' fun j u hj => ?_, ⟨e1, e2, e3, by rw [setCells_size]; exact Nat.le_refl _, fun k hk hkn => setCells_other (fun h => hkn (by simp [Value.ownBlock, h])) _ _ _⟩, .inl rfl⟩
        rcases ins_get (by omega) hj with ⟨c, hu⟩ | ⟨c, rfl⟩ | ⟨c, hu⟩
        · rw [World.cell?_setCells_out g [x] (0 + i) w _ (fun _ _ => .inl (by simpa using c))]
          exact hca j u hu
        · subst c
          have := World.cell?_setCells_in g [u] (0 + j) w (fun k hk => hsp _ (by simp at hk; omega)) 0 (by simp)
          simpa using this
        · have := (List.getElem?_eq_some_iff.1 hu).1
          omega
      · refine (Any2.slices_Insert_int_shift lays21 g 0 n cap i vb 0 1 vc cs [x] w (by omega) (by omega) hroom hcm hvg hcl rfl (fun j v hj => by rw [Nat.zero_add]; exact hca j v hj) (fun j hj => hsp _ (by omega)) (fun j hj => hfz _) hxc h1c h1v' 3 3 curv.size cur.size (by simp [World.shape?, hvh]) (by simp [World.shape?, hg]) (by omega) (hfv _) (hfv _)).mono ?_
        rintro e w' ⟨rfl, rfl⟩
        obtain ⟨cur1, hg1, hs1⟩ := setCells_same (cs.drop i) (0 + (i + 1)) w.drew cur hg
        obtain ⟨cur', hg', hs'⟩ := setCells_same [x] (0 + i) (w.drew.setCells g (0 + (i + 1)) (cs.drop i)) cur1 hg1
        obtain ⟨e1, e2, e3⟩ := setCells_env (g := g) [x] (0 + i) (w.drew.setCells g (0 + (i + 1)) (cs.drop i))
        obtain ⟨f1, f2, f3⟩ := setCells_env (g := g) (cs.drop i) (0 + (i + 1)) w.drew
        have hdl : (cs.drop i).length = n - i := by rw [List.length_drop, hcl]
        refine ⟨_, rfl, own_of_cells hg' (by omega) hroom hcm hl' fun j u hj => ?_, ⟨e1.trans f1, e2.trans f2, e3.trans f3, by rw [setCells_size, setCells_size]; exact Nat.le_refl _, fun k hk hkn => ?_⟩, .inl rfl⟩
        · rcases ins_get (by omega) hj with ⟨c, hu⟩ | ⟨c, rfl⟩ | ⟨c, hu⟩
          · rw [World.cell?_setCells_out g [x] (0 + i) _ _ (fun _ _ => .inl (by simpa using c)), World.cell?_setCells_out g _ (0 + (i + 1)) _ _ (fun _ _ => .inl (by simp; omega))]
            exact hca j u hu
          · subst c
            have := World.cell?_setCells_in g [u] (0 + j) (w.drew.setCells g (0 + (j + 1)) (cs.drop j)) (fun k hk => by
              rw [World.cell?_setCells_out g _ (0 + (j + 1)) _ _ (fun _ _ => .inl (by simp at hk ⊢; omega))]
              exact hsp _ (by simp at hk; omega)) 0 (by simp)
            simpa using this
          · have hjl := (List.getElem?_eq_some_iff.1 hu).1
            rw [World.cell?_setCells_out g [x] (0 + i) _ _ (fun _ _ => .inr (by simp; omega))]
            have := World.cell?_setCells_in g (cs.drop i) (0 + (i + 1)) w.drew (fun k hk => hsp _ (by omega)) (j - (i + 1)) (by omega)
            rw [show 0 + (i + 1) + (j - (i + 1)) = j from by omega] at this
            rw [this, List.getElem_drop]
            rw [List.getElem?_eq_some_iff] at hu
            obtain ⟨h1, h2⟩ := hu
            rw [← h2]
            congr 2
            omega
        · have hkg : k ≠ g := fun h => hkn (by simp [Value.ownBlock, h])
          rw [setCells_other hkg, setCells_other hkg]
          rfl
    · have hgw : g < w.heap.size := (Array.getElem?_eq_some_iff.1 hg).1
      by_cases hin : i = n
      · subst hin
        refine (Any2.slices_Insert_int_end_grow lays21 (some ⟨g, 0, none⟩) i cap vb 0 1 vc cs [x] w (by omega) hnc (by omega) (by omega) hcl rfl (fun h => by cases h) (fun a ha j v hj => by cases ha; rw [Addr.add_lit, Nat.zero_add]; exact hca j v hj) hxc h1v').mono ?_
        rintro e w' ⟨he, hw⟩
        simp only [show insRen.t 3 = 3 from rfl] at he hw
        subst he hw
        have hge := grownCap_ge w (i + 1) cap 3
        have hml : i + 1 ≤ maxLen := by
          have : maxLen = 9223372036854775807 := by decide
          omega
        have hh := heap_alloc_new w.drew (.cells ((cs ++ [x]).toArray ++ Builtin.zeroCells (Value.int .i64 0).cells (grownCap w (i + 1) cap 3 - (i + 1))) 3)
        refine ⟨_, rfl, own_of_cells hh ?_ hge (grownCap_le_maxLen w _ _ _ hml) hl' fun j u hj => ?_, ⟨rfl, rfl, rfl, by rw [show ∀ o, (w.drew.alloc o).heap = w.heap.push o from fun _ => rfl, Array.size_push]; omega, fun k hk _ => heap_alloc_old w.drew _ hk⟩, .inr rfl⟩
        · simp [Builtin.zeroCells, Value.cells]
          omega
        · have hjl := (List.getElem?_eq_some_iff.1 hj).1
          rw [cell_of_row _ w.heap.size j _ 3 (0, 0) hh, Array.getElem?_append_left (by simp; omega)]
          rw [List.take_of_length_le (by omega), List.drop_eq_nil_of_le (by omega)] at hj
          simpa using hj
      · refine (Any2.slices_Insert_int_grow lays21 g 0 n cap i vb 0 1 vc cs [x] w (by omega) (by omega) hnc (by omega) (by omega) hcl rfl (fun j v hj => by rw [Nat.zero_add]; exact hca j v hj) hxc h1c h1v').mono ?_
        rintro e w' ⟨he, hw⟩
        simp only [show insRen.t 3 = 3 from rfl] at he hw
        subst he hw
        have hge := grownCap_ge w (n + 1) cap 3
        have hml : n + 1 ≤ maxLen := by
          have : maxLen = 9223372036854775807 := by decide
          omega
        generalize hR : ((cs.take i).toArray ++ Builtin.zeroCells (Value.int .i64 0).cells (n + 1 - i) ++ Builtin.zeroCells (Value.int .i64 0).cells (grownCap w (n + 1) cap 3 - (n + 1))) = R
        have hRs : R.size = grownCap w (n + 1) cap 3 := by
          rw [← hR]
          simp [Builtin.zeroCells, Value.cells]
          omega
        have hh : (w.alloc (.cells R 3)).drew.heap[w.heap.size]? = some (.cells R 3 (0, 0)) := heap_alloc_new w _
        have hdl : (cs.drop i).length = n - i := by rw [List.length_drop, hcl]
        obtain ⟨cur1, hg1, hs1⟩ := setCells_same [x] i (w.alloc (.cells R 3)).drew R hh
        obtain ⟨cur', hg', hs'⟩ := setCells_same (cs.drop i) (i + 1) ((w.alloc (.cells R 3)).drew.setCells w.heap.size i [x]).drew cur1 hg1
        obtain ⟨e1, e2, e3⟩ := setCells_env (g := w.heap.size) [x] i (w.alloc (.cells R 3)).drew
        obtain ⟨f1, f2, f3⟩ := setCells_env (g := w.heap.size) (cs.drop i) (i + 1) ((w.alloc (.cells R 3)).drew.setCells w.heap.size i [x]).drew
        have hcw : ∀ j, (w.alloc (.cells R 3)).drew.cell? ⟨w.heap.size, j, none⟩ = R[j]? := fun j => cell_of_row _ _ j R 3 (0, 0) hh
        refine ⟨_, rfl, own_of_cells hg' (by omega) hge (grownCap_le_maxLen w _ _ _ hml) hl' fun j u hj => ?_, ⟨f1.trans e1, f2.trans e2, f3.trans e3, ?_, fun k hk hkn => ?_⟩, .inr rfl⟩
        · rcases ins_get (by omega) hj with ⟨c, hu⟩ | ⟨c, rfl⟩ | ⟨c, hu⟩
          · rw [World.cell?_setCells_out _ _ (i + 1) _ _ (fun _ _ => .inl (by simp; omega)), World.cell?_drew, World.cell?_setCells_out _ [x] i _ _ (fun _ _ => .inl (by simpa using c)), hcw, ← hR, Array.append_assoc,
              Array.getElem?_append_left (by simp; omega)]
            simp
            rw [List.getElem?_take, if_pos c]
            exact hu
          · subst c
            rw [World.cell?_setCells_out _ _ (j + 1) _ _ (fun _ _ => .inl (by simp)), World.cell?_drew]
            have := World.cell?_setCells_in w.heap.size [u] j (w.alloc (.cells R 3)).drew (fun k hk => by
              rw [hcw, Array.getElem?_eq_getElem (by simp at hk; omega)]
              rfl) 0 (by simp)
            simpa using this
          · have hjl := (List.getElem?_eq_some_iff.1 hu).1
            have := World.cell?_setCells_in w.heap.size (cs.drop i) (i + 1) ((w.alloc (.cells R 3)).drew.setCells w.heap.size i [x]).drew (fun k hk => by
              rw [World.cell?_drew, World.cell?_setCells_out _ [x] i _ _ (fun _ _ => .inr (by simp)), hcw, Array.getElem?_eq_getElem (by omega)]
              rfl) (j - (i + 1)) (by omega)
            rw [show i + 1 + (j - (i + 1)) = j from by omega] at this
            rw [this, List.getElem_drop]
            rw [List.getElem?_eq_some_iff] at hu
            obtain ⟨h1, h2⟩ := hu
            rw [← h2]
            congr 2
            omega
        · rw [setCells_size, show ∀ W : World, W.drew.heap = W.heap from fun _ => rfl, setCells_size, show ∀ W : World, W.drew.heap = W.heap from fun _ => rfl]
          rw [show ∀ o, (w.alloc o).heap = w.heap.push o from fun _ => rfl, Array.size_push]
          omega
        · have hkg : k ≠ w.heap.size := by omega
          rw [setCells_other hkg, show ∀ W : World, W.drew.heap = W.heap from fun _ => rfl, setCells_other hkg, show ∀ W : World, W.drew.heap = W.heap from fun _ => rfl]
          exact heap_alloc_old w _ hk
end Go.Ab
namespace Go.Ab
open Go Go.RowKit Go.Proofs
def isInts (l : List D) : Bool := l.all fun d => match d with
  | .int .i64 _ => true
  | _ => false
theorem isInts_map (l : List Int) : isInts (l.map (.int .i64)) = true := by simp [isInts]
theorem isInts_flat : ∀ {l : List D}, isInts l = true → flat l = l
  | [], _ => rfl
  | d :: r, h => by
    simp only [isInts, List.all_cons, Bool.and_eq_true] at h
    rw [flat_cons, isInts_flat (l := r) h.2]
    split at h
    · rfl
    · cases h.1
theorem isInts_mem {l : List D} (h : isInts l = true) {d : D} (hd : d ∈ l) : d.cells = [d] ∧ d.one = true := by
  have := List.all_eq_true.1 h d hd
  split at this
  · exact ⟨rfl, rfl⟩
  · cases this
/-- slices.Insert of one element, into a row of the caller's own. -/
def g53 : List AV → List Obj → Option (AV × List Obj)
  | [.row 0 n, .data (.int .i64 k), .row 1 1], [.row 3 1 l, .row 3 1 [.int .i64 x]] =>
    if l.length = n ∧ 0 ≤ k ∧ k ≤ n ∧ (n + 1) * 8 ≤ 140737488355328 ∧ isInts l = true then some (.row 0 (n + 1), [.row 3 1 (l.take k.toNat ++ .int .i64 x :: l.drop k.toNat), .row 3 1 [.int .i64 x]]) else none
  | _, _ => none
theorem f53_ok : LocOK Try.prog 53 g53 := by
  intro xs os r os' hg hle c θ w vs hbase hsim hz hvs
  unfold g53 at hg
  split at hg
  · rename_i n k l x
    split at hg
    · rename_i hc
      obtain ⟨hl, hk0, hkn, hbig, hint⟩ := hc
      simp only [Option.some.injEq, Prod.mk.injEq] at hg
      obtain ⟨rfl, rfl⟩ := hg
      simp only [List.length_cons, List.length_nil] at hz hbase hle
      obtain ⟨v0, v1, v2, rfl⟩ : ∃ v0 v1 v2, vs = #[v0, v1, v2] := by
        obtain ⟨l⟩ := vs
        match l, hz with
        | [a, b, c], _ => exact ⟨a, b, c, rfl⟩
      have h0 := hvs 0 (by simp) v0 rfl
      have h1 := hvs 1 (by simp) v1 rfl
      have h2 := hvs 2 (by simp) v2 rfl
      simp only [List.getElem_cons_zero, List.getElem_cons_succ, List.length_cons, List.length_nil] at h0 h1 h2
      have g0 : (⟨enumO 0 [Obj.row 3 1 l, Obj.row 3 1 [.int .i64 x]], 2⟩ : Heap).get 0 = some (.row 3 1 l) := rfl
      have g1 : (⟨enumO 0 [Obj.row 3 1 l, Obj.row 3 1 [.int .i64 x]], 2⟩ : Heap).get 1 = some (.row 3 1 [.int .i64 x]) := rfl
      obtain ⟨rfl, _⟩ := row_val hsim h0 g0 hl
      obtain ⟨rfl, _⟩ := row_val hsim h2 g1 rfl
      have e1 : v1 = .int .i64 k := by
        cases h1 with
        | data _ _ h => cases h; rfl
      subst e1
      obtain ⟨_, hcl, hone, us, hown, hbl, hd⟩ := row_cells hsim g0
      obtain ⟨_, _, _, us1, hown1, _, hd1⟩ := row_cells hsim g1
      obtain ⟨x', rfl⟩ : ∃ x', us1 = [x'] := by
        have := hown1.1
        match us1, this with
        | [a], _ => exact ⟨a, rfl⟩
      have ex : x' = .int .i64 x := by
        have := hd1 0 (by simp [flat, D.cells]) x' rfl
        simp [flat, D.cells] at this
        cases this
        rfl
      subst ex
      have hfl := isInts_flat hint
      have hul : us.length = n := by rw [← hl]; simpa using hown.1
      rw [hl] at hown
      obtain ⟨vb, vc, hvb⟩ : ∃ vb vc, θ 1 = .slice (some ⟨vb, 0, none⟩) 1 vc := by
        rcases hown1.2 with ⟨_, h⟩ | ⟨g, cp, cur, h, _⟩
        · cases h
        · exact ⟨g, cp, h⟩
      have hne : (θ 0).ownBlock ≠ some vb := fun h => hsim.inj 0 1 _ _ g0 g1 rfl rfl (by decide) vb (by rw [blk_ownBlock hown]; exact h) (by rw [hvb]; rfl)
      obtain ⟨i, rfl⟩ : ∃ i : Nat, k = i := ⟨k.toNat, by omega⟩
      have hin : i ≤ n := by omega
      simp only [Int.toNat_natCast]
      rw [hvb] at hown1 ⊢
      have hone' : ∀ v ∈ us, v.oneCell' = true := fun v hv => by
        obtain ⟨j, hj⟩ := List.mem_iff_getElem?.1 hv
        have hjl := (List.getElem?_eq_some_iff.1 hj).1
        have hjf : j < (flat l).length := by rw [hfl]; omega
        exact (hd j hjf v hj).oneCell (hone _ (List.getElem_mem hjf))
      have hb0 : blk (θ 0) = (θ 0).ownBlock := blk_ownBlock hown
      refine ⟨⟨Try.f53, Try.func53, by kernel_rfl, by kernel_rfl⟩, (insert_own hown hown1 hin hbig hne hone' rfl).mono ?_⟩
      rintro e w' ⟨v', rfl, hown', hg, hblk⟩
      have hb' : blk v' = v'.ownBlock := blk_ownBlock hown'
      have hll : ((l.take i ++ D.int .i64 x :: l.drop i)).length = n + 1 := by
        simp
        omega
      have hint' : isInts (l.take i ++ D.int .i64 x :: l.drop i) = true := by
        simp only [isInts, List.all_append, List.all_cons, Bool.and_eq_true]
        refine ⟨List.all_eq_true.2 fun d hd => List.all_eq_true.1 hint d (List.mem_of_mem_take hd), trivial, List.all_eq_true.2 fun d hd => List.all_eq_true.1 hint d (List.mem_of_mem_drop hd)⟩
      have hT := hsim.turn (w' := w') (k := 0) (x0 := .row 3 1 l) (x := .row 3 1 (l.take i ++ D.int .i64 x :: l.drop i)) (val := v') g0 rfl rfl
        (fun b hb hne => hg.block b hb (fun he => hne (by rw [hb0]; exact he.symm))) hg.size
        (fun b hb => by
          rw [hb'] at hb
          rcases hblk with h5 | h5
          · exact .inl (by rw [hb0, ← h5]; exact hb)
          · rw [h5] at hb
            simp only [Option.some.injEq] at hb
            exact .inr (by omega))
        ⟨rfl, rfl, by omega⟩
        (fun hh => by
          simp only [Obj.rlen, Option.some.injEq] at hh
          omega)
        (fun hvr => by
          refine ⟨by decide, fun d hd => by rw [(isInts_mem hint' hd).1]; rfl, fun d hd => ?_, us.take i ++ Value.int .i64 x :: us.drop i, by rw [hll]; exact hown', fun b hb => ?_, fun j hj u hu => ?_⟩
          · rw [isInts_flat hint'] at hd
            exact (isInts_mem hint' hd).2
          · rw [hb'] at hb
            rcases hblk with h5 | h5
            · exact hbl b (by rw [hb0, ← h5]; exact hb)
            · rw [h5] at hb
              simp only [Option.some.injEq] at hb
              exact .inl (by have := hsim.size; omega)
          · have hdm : ∀ (m : Nat) (y : D) (u : Value), us[m]? = some u → l[m]? = some y → DR w' (vis c _ (updθ θ 0 v') w') y u := fun m y u h1 h2 => by
              obtain ⟨h3, h4⟩ := List.getElem?_eq_some_iff.1 h2
              have h5 := hd m (by rw [hfl]; exact h3) u h1
              simp only [hfl, h4] at h5
              exact (hvr (.data y) u (.data _ _ h5)).data_inv
            have hjd : (l.take i ++ D.int .i64 x :: l.drop i)[j]? = some ((flat (l.take i ++ D.int .i64 x :: l.drop i))[j]) := by
              rw [List.getElem?_eq_getElem (by rw [isInts_flat hint'] at hj; exact hj)]
              simp only [isInts_flat hint']
            generalize (flat (l.take i ++ D.int .i64 x :: l.drop i))[j] = y at hjd
            rcases ins_get (by omega) hu with ⟨c1, h1⟩ | ⟨c1, rfl⟩ | ⟨c1, h1⟩ <;> rcases ins_get (by omega) hjd with ⟨c2, h2⟩ | ⟨c2, rfl⟩ | ⟨c2, h2⟩ <;> first | omega | skip
            · exact hdm j y u h1 h2
            · exact .int _ _
            · exact hdm (j - 1) y u h1 h2)
      refine ⟨v', rfl, updθ θ 0 v', hT.1, ?_, ⟨hg.os, hg.tape, hg.output, hg.size, fun b hb hbi => hg.block b (Nat.lt_of_lt_of_le hb hsim.size) (fun he => ?_)⟩, hT.2.2.evo (by simp)⟩
      · refine .row 0 _ v' (ownsRow_one hown') (.inl (by simp)) (fun x2 m2 hx2 hm2 => ?_)
        cases hx2
        cases hm2
        exact ⟨by omega, fun _ => by simp [updθ]⟩
      · rcases hbl b (by rw [hb0]; exact he.symm) with h5 | h5
        · omega
        · exact hbi h5
    · cases hg
  · cases hg
end Go.Ab
