/-
  One text of the proof (own work): contracts of functions of the program, by the abstract machine.
-/
import Derived.Test.YtapnigckcnknoaaDoorX5
set_option linter.unusedVariables false
set_option linter.unusedSimpArgs false
namespace Go.Ab
open Go Go.RowKit
section
variable {P : Program} {c : Ctx} {H H' : Heap} {θ θ' : Nat → Value} {w w' : World} {sl : List AV} {a : Act} {o : Oper} {r : AV}
theorem y_indexV (hs : St c H θ w sl a) {t : TypeId} {x i : Operand} {y : AV} (ho : o.op = .index t x i) (h : asIndex P t (aev sl x) (aev sl i) = some y) : Yields P c o a w sl H θ y H := by
  have hx := aev_sound hs x
  have hi := aev_sound hs i
  unfold asIndex at h
  split at h
  · rename_i s k n hu hxs hin
    rw [hxs] at hx
    rw [hin] at hi
    have h1 := hx.data_inv.str_eq
    have h2 := hi.data_inv.int_eq
    split at h
    · rename_i h0
      split at h
      · rename_i b hb
        simp only [Option.some.injEq] at h
        subst h
        refine .read hs (v := .int .u8 b.toNat) ?_ (.data _ _ (.int _ _))
        have hlt : n.toNat < s.length := (List.getElem?_eq_some_iff.1 hb).1
        have hbv : s[n.toNat] = b := (List.getElem?_eq_some_iff.1 hb).2
        have e : (⟨s.toArray⟩ : ByteArray)[n.toNat]? = some b := by
          rw [getElem?_pos (⟨s.toArray⟩ : ByteArray) n.toNat (by simpa [ByteArray.size] using hlt)]
          congr 1
        simp only [execOp, ho, h1, h2, Instr.index, asIntOf, Sem.run_bind, Sem.run_pure, Result.andThen_ok, run_underlying hu, if_pos h0, e]
      · cases h
    · cases h
  · cases h
theorem y_convert (hs : St c H θ w sl a) {s d : TypeId} {x : Operand} {y : AV} (ho : o.op = .convert s d x) (h : aconvert P s d (aev sl x) = some y) : Yields P c o a w sl H θ y H := by
  have hx := aev_sound hs x
  unfold aconvert at h
  split at h
  · rename_i k0 k k1 n hu1 hu2 hxn
    simp only [Option.some.injEq] at h
    subst h
    rw [hxn] at hx
    have h1 := hx.data_inv.int_eq
    refine .read hs (v := .int k (k.wrap n)) ?_ (.data _ _ (.int _ _))
    simp only [execOp, ho, h1, convert, Sem.run_bind, run_underlying hu1, run_underlying hu2, Result.andThen_ok, Conv.intToInt, Sem.run_pure]
  · cases h
theorem bytesD_cells (s : List UInt8) : ∀ d ∈ bytesD s, d.cells.length = 1 := fun d hd => by
  obtain ⟨b, _, rfl⟩ := List.mem_map.1 hd
  rfl
theorem bytesD_flat (s : List UInt8) : flat (bytesD s) = bytesD s := by
  induction s with
  | nil => rfl
  | cons b s ih => simp only [bytesD, List.map_cons, flat_cons] at ih ⊢; rw [ih]; rfl
theorem bytesD_one (s : List UInt8) : ∀ d ∈ flat (bytesD s), d.one = true := fun d hd => by
  rw [bytesD_flat] at hd
  obtain ⟨b, _, rfl⟩ := List.mem_map.1 hd
  rfl
theorem bytesOf_at : ∀ {l : List D} {s : List UInt8}, bytesOf l = some s → s.length = l.length ∧ ∃ ns : List Int, l = ns.map (D.int .u8) ∧ s = ns.map fun n => UInt8.ofNat n.toNat
  | [], s, h => by simp only [bytesOf, Option.some.injEq] at h; subst h; exact ⟨rfl, [], rfl, rfl⟩
  | x :: l, s, h => by
    unfold bytesOf at h
    split at h
    · rename_i h1; cases h1
    · rename_i n r h1
      simp only [List.cons.injEq] at h1
      obtain ⟨rfl, rfl⟩ := h1
      split at h
      · rename_i s' hs
        simp only [Option.some.injEq] at h
        subst h
        obtain ⟨h1, ns, h2, h3⟩ := bytesOf_at hs
        exact ⟨by simp [h1], n :: ns, by rw [h2]; rfl, by rw [h3]; rfl⟩
      · cases h
    · cases h
theorem u8_flat : ∀ ns : List Int, flat (ns.map (D.int .u8)) = ns.map (D.int .u8)
  | [] => rfl
  | n :: ns => by rw [List.map_cons, flat_cons, u8_flat ns]; rfl
theorem foldl_push (ns : List Int) : ∀ r : ByteArray, ns.foldl (fun r n => r.push (UInt8.ofNat n.toNat)) r = ⟨r.data ++ (ns.map fun n => UInt8.ofNat n.toNat).toArray⟩ := by
  induction ns with
  | nil => intro r; simp
  | cons n ns ih =>
    intro r
    rw [List.foldl_cons, ih]
    simp [ByteArray.push]
theorem aconvertS_num {k : Nat} {s d : TypeId} {x y : AV} (h : aconvert P s d x = some y) : aconvertS P k H s d x = some (y, H) := by
  have h0 := h
  unfold aconvert at h
  split at h
  · rename_i h1 h2
    unfold aconvertS
    rw [h1, h2]
    simp only [h0]
  · cases h
theorem y_convertS (hs : St c H θ w sl a) {k : Nat} (hk : ¬ H.ref k) {s d : TypeId} {x : Operand} (ho : o.op = .convert s d x) (h : aconvertS P k H s d (aev sl x) = some (r, H')) : Yields P c o a w sl H θ r H' := by
  have hx := aev_sound hs x
  unfold aconvertS at h
  split at h
  · rename_i e hu1 hu2
    split at h
    · rename_i bs hue hte hxs
      rw [hxs] at hx
      have h1 := hx.data_inv.str_eq
      split at h
      · rename_i hlen
        simp only [Option.some.injEq, Prod.mk.injEq] at h
        obtain ⟨rfl, rfl⟩ := h
        have hr := run_bytes_of_string (P := P) w s d e ⟨bs.toArray⟩ hu1 hu2 hue
        have hsz : (⟨bs.toArray⟩ : ByteArray).size = bs.length := by simp [ByteArray.size]
        rw [hsz] at hr
        have hge := grownCap_ge w bs.length 0 e
        have hcm := grownCap_le_maxLen w bs.length 0 e hlen
        generalize hcap : grownCap w bs.length 0 e = cap at hr hge hcm
        have hbs : (bytesRow ⟨bs.toArray⟩ cap).size = cap := by simp [bytesRow, ByteArray.size]; omega
        have hown : ownsM (w.drew.alloc (.cells (bytesRow ⟨bs.toArray⟩ cap) e ((bytesRow ⟨bs.toArray⟩ cap).size, (bytesRow ⟨bs.toArray⟩ cap).size + 1))) w.heap.size e 1 (.slice (some ⟨w.heap.size, 0, none⟩) bs.length cap) (bytesD bs).length (bs.map fun b => Value.int .u8 b.toNat) := by
          refine ⟨by simp [bytesD], .inr ⟨w.heap.size, cap, _, by simp [bytesD], Nat.le_refl _, ⟨_, heap_alloc_new w.drew _, fun j hj hh => by simp only at hh; omega⟩, by simpa [bytesD] using hge, hcm, by rw [hbs]; omega, ?_⟩⟩
          have : (bytesD bs).length * 1 = (bs.map fun b => Value.int .u8 (b.toNat : Int)).length := by simp [bytesD]
          rw [this]
          simp only [bytesRow, Array.toList_append, Array.toList_map]
          exact List.take_left
        obtain ⟨θ', g1, g2, g3⟩ := add_row (w' := w.drew.alloc (.cells (bytesRow ⟨bs.toArray⟩ cap) e ((bytesRow ⟨bs.toArray⟩ cap).size, (bytesRow ⟨bs.toArray⟩ cap).size + 1))) hs hk (by omega) (bytesD_cells bs) (bytesD_one bs) hown
          (fun i hi u hu => by
            simp only [bytesD_flat] at hi ⊢
            rw [List.getElem?_map, Option.map_eq_some_iff] at hu
            obtain ⟨b, hb, rfl⟩ := hu
            obtain ⟨h5, h6⟩ := List.getElem?_eq_some_iff.1 hb
            simp only [bytesD, List.getElem_map, h6]
            exact .int _ _)
          (fun b hb => Below.heap_alloc w.drew _ b hb) (by simp)
        have hln : (bytesD bs).length = bs.length := by simp [bytesD]
        rw [hln] at g1
        refine .value (v := .slice (some ⟨w.heap.size, 0, none⟩) bs.length cap) ?_ g1 g2 ⟨rfl, rfl, rfl, by simp, fun b hb _ => Below.heap_alloc w.drew _ b (Nat.lt_of_lt_of_le hb hs.sim.size)⟩ g3
        simp only [execOp, ho, h1, Sem.run_bind, hr, Result.andThen_ok, Sem.run_pure]
      · cases h
    · cases h
  · rename_i e hu1 hu2
    split at h
    · rename_i l hue hl
      split at h
      · rename_i bs hb
        simp only [Option.some.injEq, Prod.mk.injEq] at h
        obtain ⟨rfl, rfl⟩ := h
        obtain ⟨hbl, ns, rfl, rfl⟩ := bytesOf_at hb
        obtain ⟨ao, cap, hv, hcells⟩ := src_elems hs.sim hx hl
        have hfl := u8_flat ns
        refine .read hs (v := .string ⟨(ns.map fun n => UInt8.ofNat n.toNat).toArray⟩) ?_ (.data _ _ (.str _))
        have hconv := run_convert_bytes_string (P := P) w s d e ao ns.length cap hu1 hue hu2
        rw [List.length_map] at hv
        have hback : (Conv.bytesToString (.slice ao ns.length cap)).run P w = .ok (.string ⟨(ns.map fun n => UInt8.ofNat n.toNat).toArray⟩) w := by
          rcases hcells with h0 | ⟨p, sz, u, rfl, _, h4, h5⟩
          · have : ns = [] := by simpa using h0
            subst this
            cases ao with
            | none =>
              have he0 : ByteArray.empty = ⟨#[]⟩ := rfl
              simp only [Conv.bytesToString, Sem.run_pure, he0, List.map_nil]
            | some p =>
              have := run_bytesToString (P := P) w p 0 cap [] (by simp [loadCells, loadCellsFrom])
              have he0 : ByteArray.empty = ⟨#[]⟩ := rfl
              refine this.trans ?_
              rw [he0]
              rfl
          · have hl2 := run_loadCells_list (P := P) w p (ns.map (Value.int .u8)) (fun j v hj => by
              have hj' : j < ns.length := by
                have := (List.getElem?_eq_some_iff.1 hj).1
                simpa using this
              have hjf : j < (flat (ns.map (D.int .u8))).length := by rw [hfl]; simpa using hj'
              have h6 := h4 j hjf
              have h7 := h5 j hjf
              simp only [hfl, List.getElem_map] at h7
              rw [h6, h7.int_eq]
              simpa [hj'] using hj)
            rw [List.length_map] at hl2
            rw [run_bytesToString w p ns.length cap ns hl2, foldl_push]
            have he0 : ByteArray.empty.data = #[] := rfl
            rw [he0, Array.empty_append]
        simp only [execOp, ho, hv, Sem.run_bind, hconv, hback, Result.andThen_ok, Sem.run_pure]
      · cases h
    · cases h
  · split at h
    · rename_i y hy
      simp only [Option.some.injEq, Prod.mk.injEq] at h
      obtain ⟨rfl, rfl⟩ := h
      exact y_convert hs ho hy
    · cases h
theorem y_makeMap (hs : St c H θ w sl a) {k : Nat} (hk : ¬ H.ref k) {t : TypeId} (ho : o.op = .makeMap t none) : Yields P c o a w sl H θ (.mref k) (H.set k (.map [] [])) := by
  have h := hs.add (w' := w.alloc (.map #[] 0)) (k := k) (x := .map [] []) (val := .map (some w.heap.size)) hk
    (fun b hb => Below.heap_alloc w _ b hb) (by simp) (fun b hb => by simp [blk] at hb; omega)
    (fun hvr => ⟨w.heap.size, 0, #[], rfl, heap_alloc_new w _, .inl hs.sim.size, rfl, rfl, ⟨by simp, by simp⟩, fun i hi => by simp at hi, fun i hi => by simp at hi⟩)
  refine .value (v := .map (some w.heap.size)) (w' := w.alloc (.map #[] 0)) ?_ (.mref k _ rfl (.inr (by rw [Heap.get_set, if_pos rfl]; rfl)) fun ks vs _ => by simp [updθ]) h.1
    ⟨rfl, rfl, rfl, by simp, fun b hb _ => Below.heap_alloc w _ b (Nat.lt_of_lt_of_le hb hs.sim.size)⟩ h.2.2
  simp [execOp, ho, Instr.makeMap, run_newObj]
theorem mfind_some {kt : TypeId} : ∀ {ks : List D} {k : D} {n i : Nat}, mfind P kt k ks n = some (some i) → n ≤ i ∧ i - n < ks.length
  | [], k, n, i, h => by simp [mfind] at h
  | x :: r, k, n, i, h => by
    simp only [mfind] at h
    split at h
    · simp only [Option.some.injEq] at h; subst h; simp
    · obtain ⟨h1, h2⟩ := mfind_some h
      simp only [List.length_cons]
      omega
    · cases h
theorem keyEq_now {x y : D} {u v : Value} {b : Bool} {B : Nat → Prop} {t : TypeId} {td : TypeDesc} (ht : P.underlying t = some td) (hx : DR w B x u) (hy : DR w B y v) (hkx : keyKind P t x = true) (hky : keyKind P t y = true) (h : keyEq x y = some b) : Instr.sameNow td u v = some b := by
  unfold keyKind at hkx hky
  rw [ht] at hkx hky
  split at hkx
  · rename_i h1
    cases h1
    cases y <;> simp [keyEq] at h
    subst h
    rename_i a c
    rw [hx.str_eq, hy.str_eq]
    have e : ((⟨a.toArray⟩ : ByteArray) == ⟨c.toArray⟩) = (a == c) := by rw [beq_toListBytes]; simp [ByteArray.toList_eq]
    simp [Instr.sameNow, e]
  · rename_i h1
    cases h1
    cases y <;> simp [keyEq] at h
    subst h
    rw [hx.bool_eq, hy.bool_eq]
    simp [Instr.sameNow]
  · rename_i h1
    cases h1
    cases y <;> simp [keyEq] at h
    obtain ⟨hk, h⟩ := h
    subst h
    subst hk
    rw [hx.int_eq, hy.int_eq]
    simp [Instr.sameNow]
  · cases hkx
theorem aggEq_eq : ∀ {a b : List D}, aggEq a b = true → a = b := by
  intro a
  induction a with
  | nil =>
    intro b h
    cases b with
    | nil => rfl
    | cons y r => simp [aggEq] at h
  | cons x r ih =>
    intro b h
    cases b with
    | nil => cases x <;> simp [aggEq] at h
    | cons y r' =>
      cases x <;> cases y <;> simp only [aggEq, Bool.and_eq_true, beq_iff_eq, decide_eq_true_eq, Bool.false_eq_true] at h
      · rw [h.1, ih h.2]
      · rw [h.1, h.2.1, ih h.2.2]
      · rw [h.1, ih h.2]
theorem aggEq_prim : ∀ {a b : List D}, aggEq a b = true → ∀ d ∈ a, (∃ s, d = .str s) ∨ (∃ k n, d = .int k n) ∨ ∃ b, d = .bool b := by
  intro a
  induction a with
  | nil => intro b _ d hd; simp at hd
  | cons x r ih =>
    intro b h d hd
    have hx : (∃ s, x = .str s) ∨ (∃ k n, x = .int k n) ∨ ∃ b, x = .bool b := by
      cases x with
      | str s => exact .inl ⟨s, rfl⟩
      | int k n => exact .inr (.inl ⟨k, n, rfl⟩)
      | bool b => exact .inr (.inr ⟨b, rfl⟩)
      | _ => cases b <;> simp [aggEq] at h
    have hr : ∃ b', aggEq r b' = true := by
      cases b with
      | nil => cases x <;> simp [aggEq] at h
      | cons y r' =>
        refine ⟨r', ?_⟩
        cases x <;> cases y <;> simp [aggEq] at h
        · exact h.2
        · exact h.2.2
        · exact h.2
    obtain ⟨b', hr⟩ := hr
    rcases List.mem_cons.1 hd with rfl | hd
    · exact hx
    · exact ih hr d hd
theorem agg_same {B : Nat → Prop} {a b : List D} {u v : Value} (hu : DR w B (.agg a) u) (hv : DR w B (.agg b) v) (h : aggEq a b = true) : u = v ∧ Instr.sameBits 10000 u v = true := by
  have he := aggEq_eq h
  subst he
  have hp := aggEq_prim h
  obtain ⟨xs, p, rfl, hz, _, hv1, hd1⟩ := hu.agg_inv
  obtain ⟨ys, q, rfl, hz2, _, hv2, hd2⟩ := hv.agg_inv
  have hcell : ∀ i, i < a.length → ∃ x, xs[i]? = some x ∧ ys[i]? = some x ∧ Instr.sameBits 9999 x x = true := fun i hi => by
    have h1 := hd1 i hi
    have h2 := hd2 i hi
    refine ⟨p i, hv1 i hi, ?_, ?_⟩
    · rw [hv2 i hi]
      rcases hp _ (List.getElem_mem hi) with ⟨s, hs⟩ | ⟨k, n, hs⟩ | ⟨b, hs⟩ <;> rw [hs] at h1 h2
      · rw [h1.str_eq, h2.str_eq]
      · rw [h1.int_eq, h2.int_eq]
      · rw [h1.bool_eq, h2.bool_eq]
    · rcases hp _ (List.getElem_mem hi) with ⟨s, hs⟩ | ⟨k, n, hs⟩ | ⟨b, hs⟩ <;> rw [hs] at h1
      · rw [h1.str_eq]; simp only [Instr.sameBits, beq_toListBytes]; simp
      · rw [h1.int_eq]; simp [Instr.sameBits]
      · rw [h1.bool_eq]; simp [Instr.sameBits]
  have hxy : xs = ys := by
    refine Array.ext_getElem? fun i => ?_
    by_cases hi : i < a.length
    · obtain ⟨x, h1, h2, _⟩ := hcell i hi
      rw [h1, h2]
    · rw [Array.getElem?_eq_none (by omega), Array.getElem?_eq_none (by omega)]
  subst hxy
  refine ⟨rfl, ?_⟩
  simp only [Instr.sameBits, beq_self_eq_true, Bool.true_and, List.all_eq_true]
  rintro ⟨x, y⟩ hm
  obtain ⟨i, hi, he⟩ := List.getElem_of_mem hm
  simp only [List.getElem_zip, Prod.mk.injEq] at he
  obtain ⟨e1, e2⟩ := he
  have hil : i < a.length := by simp at hi; omega
  obtain ⟨z, h1, _, h3⟩ := hcell i hil
  have hxi : i < xs.size := by omega
  have hz1 : xs.toList[i]'(by simpa using hxi) = z := by
    have : xs[i]? = some xs[i] := by simp [hxi]
    rw [this] at h1
    simpa using h1
  dsimp only
  rw [← e1, ← e2, hz1]
  exact h3
theorem keySame_equal {B : Nat → Prop} {kt : TypeId} {a b : List D} {u v : Value} {r : Bool} (hx : DR w B (.agg a) u) (hy : DR w B (.agg b) v) (h : keySame P kt (.agg a) (.agg b) = some r) :
    (Op.equal kt u v).run P w = .ok r w ∧ (r = true → u = v ∧ Instr.sameBits 10000 u v = true) := by
  simp only [keySame] at h
  split at h
  · rename_i r' hr
    split at h
    · rename_i he
      simp only [Option.some.injEq] at h
      subst h
      exact ⟨(eqAgg_run (op := .eql) (ox := .tmp 0) (oy := .tmp 0) hx hy hr).2.1, fun ht => agg_same hx hy (by rw [← he]; exact ht)⟩
    · cases h
  · cases h
theorem findNow_of {kt : TypeId} {td : TypeDesc} (ht : P.underlying kt = some td) {B : Nat → Prop} {key : D} {kv : Value} (hk : DR w B key kv) (hkk : keyKind P kt key = true) :
    ∀ (ks vs : List D) (es : List MapEntry) (n : Nat) (q : Option Nat), es.length = ks.length → es.length = vs.length → (∀ i (hi : i < ks.length) e, es[i]? = some e → DR w B (ks[i]) e.key) → ks.all (keyKind P kt) = true →
      mfind P kt key ks n = some q → Instr.findNow td kv es n = some (q.bind fun i => (es[i - n]?).map fun e => (i, e.val))
  | [], vs, es, n, q, hl, hl2, he, ha, h => by
    simp only [List.length_nil] at hl
    have : es = [] := List.eq_nil_of_length_eq_zero hl
    subst this
    simp only [mfind, Option.some.injEq] at h
    subst h
    simp [Instr.findNow]
  | x :: ks, vs, [], n, q, hl, hl2, he, ha, h => by simp at hl
  | x :: ks, vs, e :: es, n, q, hl, hl2, he, ha, h => by
    simp only [List.all_cons, Bool.and_eq_true] at ha
    have hks : keySame P kt key x = keyEq key x := by
      unfold keySame
      split
      · simp [keyKind] at hkk
      · rfl
    simp only [mfind, hks] at h
    have h0 := he 0 (by simp) e (by simp)
    simp only [List.getElem_cons_zero] at h0
    split at h
    · rename_i hb
      simp only [Option.some.injEq] at h
      subst h
      simp only [Instr.findNow, keyEq_now ht hk h0 hkk ha.1 hb]
      simp
    · rename_i hb
      cases vs with
      | nil => simp at hl2
      | cons v vs =>
        have ih := findNow_of ht hk hkk ks vs es (n + 1) q (by simpa using hl) (by simpa using hl2) (fun i hi e' he' => by
          have := he (i + 1) (by simpa using hi) e' (by simpa using he')
          simpa using this) ha.2 h
        simp only [Instr.findNow, keyEq_now ht hk h0 hkk ha.1 hb, ih]
        cases q with
        | none => rfl
        | some i =>
          obtain ⟨h1, h2⟩ := mfind_some h
          simp only [Option.bind_some]
          rw [show i - n = (i - (n + 1)) + 1 from by omega, List.getElem?_cons_succ]
    · cases h
theorem findAsk_of {kt : TypeId} {B : Nat → Prop} {ds : List D} {kv : Value} (hk : DR w B (.agg ds) kv) :
    ∀ (ks : List D) (es : List MapEntry) (n : Nat) (q : Option Nat), es.length = ks.length → (∀ i (hi : i < ks.length) e, es[i]? = some e → DR w B (ks[i]) e.key) →
      mfind P kt (.agg ds) ks n = some q → (Instr.findAsking kt kv es n).run P w = .ok (q.bind fun i => (es[i - n]?).map fun e => (i, e.val)) w
  | [], es, n, q, hl, he, h => by
    simp only [List.length_nil] at hl
    have : es = [] := List.eq_nil_of_length_eq_zero hl
    subst this
    simp only [mfind, Option.some.injEq] at h
    subst h
    simp [Instr.findAsking]
  | x :: ks, [], n, q, hl, he, h => by simp at hl
  | x :: ks, e :: es, n, q, hl, he, h => by
    have h0 := he 0 (by simp) e (by simp)
    simp only [List.getElem_cons_zero] at h0
    simp only [mfind] at h
    have hagg : ∀ r, keySame P kt (.agg ds) x = some r → ∃ b, x = .agg b := fun r hr => by
      cases x <;> simp [keySame, keyEq] at hr
      exact ⟨_, rfl⟩
    split at h
    · rename_i hb
      obtain ⟨b, rfl⟩ := hagg _ hb
      simp only [Option.some.injEq] at h
      subst h
      simp only [Instr.findAsking, Sem.run_bind, (keySame_equal hk h0 hb).1, Result.andThen_ok, if_true, Sem.run_pure]
      simp
    · rename_i hb
      obtain ⟨b, rfl⟩ := hagg _ hb
      have ih := findAsk_of hk ks es (n + 1) q (by simpa using hl) (fun i hi e' he' => by
        have := he (i + 1) (by simpa using hi) e' (by simpa using he')
        simpa using this) h
      simp only [Instr.findAsking, Sem.run_bind, (keySame_equal hk h0 hb).1, Result.andThen_ok, Bool.false_eq_true, if_false, ih]
      cases q with
      | none => rfl
      | some i =>
        obtain ⟨h1, h2⟩ := mfind_some h
        simp only [Option.bind_some]
        rw [show i - n = (i - (n + 1)) + 1 from by omega, List.getElem?_cons_succ]
    · cases h
theorem run_findKey {kt : TypeId} {td : TypeDesc} (ht : P.underlying kt = some td) {kv : Value} {es : List MapEntry} {q : Option (Nat × Value)} (h : Instr.findNow td kv es 0 = some q) : (Instr.findKey kt kv es).run P w = .ok q w := by
  simp only [Instr.findKey, Sem.run_bind, run_underlying ht, Result.andThen_ok, h, Sem.run_pure]
theorem keyOK_und {kt : TypeId} {d : D} (h : keyOK P kt d = true) : ∃ td, P.underlying kt = some td := by
  unfold keyOK at h
  split at h
  · split at h
    · exact ⟨_, by assumption⟩
    · cases h
  · unfold keyKind at h
    split at h <;> first | exact ⟨_, by assumption⟩ | cases h
theorem run_findKey_of {kt : TypeId} {B : Nat → Prop} {key : D} {kv : Value} (hk : DR w B key kv) (hkk : keyOK P kt key = true)
    (ks vs : List D) (es : List MapEntry) (q : Option Nat) (hl : es.length = ks.length) (hl2 : es.length = vs.length) (he : ∀ i (hi : i < ks.length) e, es[i]? = some e → DR w B (ks[i]) e.key) (ha : ks.all (keyOK P kt) = true)
    (h : mfind P kt key ks 0 = some q) : (Instr.findKey kt kv es).run P w = .ok (q.bind fun i => (es[i]?).map fun e => (i, e.val)) w := by
  obtain ⟨td, ht⟩ := keyOK_und hkk
  cases key with
  | agg ds =>
    have hst : ∃ fs, td = .struct fs := by
      simp only [keyOK, ht] at hkk
      split at hkk
      · rename_i h1; simp only [Option.some.injEq] at h1; exact ⟨_, h1⟩
      · cases hkk
    obtain ⟨fs, rfl⟩ := hst
    have h2 := findAsk_of hk ks es 0 q hl he h
    simp only [Nat.sub_zero] at h2
    cases es with
    | nil =>
      have h3 : Instr.findNow (.struct fs) kv ([] : List MapEntry) 0 = some none := rfl
      rw [run_findKey ht h3]
      cases q <;> simp
    | cons e es =>
      have h3 : Instr.findNow (.struct fs) kv (e :: es) 0 = none := by
        obtain ⟨xs, _, rfl, _⟩ := hk.agg_inv
        simp [Instr.findNow, Instr.sameNow]
      simp only [Instr.findKey, Sem.run_bind, run_underlying ht, Result.andThen_ok, h3]
      exact h2
  | _ =>
    have hkk' : keyKind P kt _ = true := hkk
    have ha' : ks.all (keyKind P kt) = true := by
      rw [List.all_eq_true] at ha ⊢
      intro x hx
      have h1 := ha x hx
      unfold keyOK at h1
      split at h1
      · exfalso
        split at h1
        · rename_i hu
          unfold keyKind at hkk'
          rw [hu] at hkk'
          simp at hkk'
        · cases h1
      · exact h1
    have h2 := findNow_of ht hk hkk' ks vs es 0 q hl hl2 he ha' h
    simp only [Nat.sub_zero] at h2
    exact run_findKey ht h2
theorem run_checkFlds {b : Bool} {ds : List D} {xs : Array Value} {B : Nat → Prop} (hx : ∀ i (hi : i < ds.length), ∃ u, xs[i]? = some u ∧ DR w B (ds[i]) u) (n : Nat) (F : Field → PUnit → Sem (ForInStep PUnit))
    (hF : ∀ f r u, (part f.type xs f.offset).run P w = .ok u w → (Instr.checkKey b (n + 1) f.type u).run P w = .ok () w → (F f r).run P w = .ok (.yield ⟨⟩) w) :
    ∀ (fs : List Field), keyFlds P ds fs = true → (forIn fs PUnit.unit F).run P w = .ok PUnit.unit w
  | [], _ => by simp [Sem.run_pure]
  | f :: fs, h => by
    simp only [keyFlds, Bool.and_eq_true] at h
    obtain ⟨h1, h2⟩ := h
    split at h1
    · rename_i d hd
      simp only [Bool.and_eq_true, beq_iff_eq] at h1
      obtain ⟨hkx, ht⟩ := h1
      obtain ⟨i1, rfl⟩ := List.getElem?_eq_some_iff.1 hd
      obtain ⟨u, hu, hdu⟩ := hx _ i1
      have p1 : (part f.type xs f.offset).run P w = .ok u w := by simp [part, run_isAgg ht, hu]
      have p2 : (Instr.checkKey b (n + 1) f.type u).run P w = .ok () w := by
        unfold keyKind at hkx
        split at hkx
        · rename_i hu' hd'; rw [hd'] at hdu; rw [hdu.str_eq]; simp [Instr.checkKey, run_underlying hu']
        · rename_i hu' hd'; rw [hd'] at hdu; rw [hdu.bool_eq]; simp [Instr.checkKey, run_underlying hu']
        · rename_i hu' hd'; rw [hd'] at hdu; rw [hdu.int_eq]; simp [Instr.checkKey, run_underlying hu']
        · cases hkx
      simp only [List.forIn_cons, Sem.run_bind, hF f ⟨⟩ u p1 p2, Result.andThen_ok]
      exact run_checkFlds hx n F hF fs h2
    · cases h1
theorem run_checkKey {kt : TypeId} {B : Nat → Prop} {key : D} {kv : Value} (hk : DR w B key kv) (hkk : keyOK P kt key = true) (b : Bool) : (Instr.checkKey b 10000 kt kv).run P w = .ok () w := by
  have prim : keyKind P kt key = true → ∀ n, (Instr.checkKey b (n + 1) kt kv).run P w = .ok () w := fun hkk2 n => by
    clear hkk
    unfold keyKind at hkk2
    split at hkk2
    · rename_i hu; rw [hk.str_eq]; simp [Instr.checkKey, run_underlying hu]
    · rename_i hu; rw [hk.bool_eq]; simp [Instr.checkKey, run_underlying hu]
    · rename_i hu; rw [hk.int_eq]; simp [Instr.checkKey, run_underlying hu]
    · cases hkk2
  have agg : ∀ ds, key = .agg ds → ∀ n, (Instr.checkKey b (n + 1 + 1) kt kv).run P w = .ok () w := fun ds hds n => by
    subst hds
    simp only [keyOK] at hkk
    split at hkk
    · rename_i fs hu
      obtain ⟨xs, p, rfl, hz, _, hv1, hd1⟩ := hk.agg_inv
      rw [Instr.checkKey]
      simp only [Sem.run_bind, run_underlying hu, Result.andThen_ok]
      rw [← Array.forIn_toList, run_checkFlds (b := b) (n := n) (ds := ds) (xs := xs) (fun i hi => ⟨p i, hv1 i hi, hd1 i hi⟩) _ (fun f r u h1 h2 => ?_) fs.toList hkk]
      · rfl
      · by_cases hn : f.name = "_"
        · simp [hn]
        · simp [hn, Sem.run_bind, h1, h2]
    · cases hkk
  cases key with
  | agg ds => exact agg ds rfl 9998
  | _ => exact prim hkk 9999
theorem Born.modify {es : Array MapEntry} {clock : Nat} (h : Born es clock) (j : Nat) (k v : Value) : Born (es.modify j fun e => { e with key := k, val := v }) clock := by
  have e : (es.modify j fun e => { e with key := k, val := v }).toList.map (·.born) = es.toList.map (·.born) := by
    apply List.ext_getElem?
    intro i
    simp only [List.getElem?_map, Array.getElem?_toList, Array.getElem?_modify]
    split
    · subst_vars
      cases es[i]? <;> rfl
    · rfl
  refine ⟨fun x hx => ?_, by rw [e]; exact h.2⟩
  have : x.born ∈ (es.modify j fun e => { e with key := k, val := v }).toList.map (·.born) := List.mem_map.2 ⟨x, hx, rfl⟩
  rw [e] at this
  obtain ⟨y, hy, hb⟩ := List.mem_map.1 this
  rw [← hb]
  exact h.1 y hy
theorem Born.push {es : Array MapEntry} {clock : Nat} (h : Born es clock) (k v : Value) : Born (es.push { key := k, val := v, born := clock }) (clock + 1) := by
  refine ⟨fun x hx => ?_, ?_⟩
  · rw [Array.toList_push, List.mem_append, List.mem_singleton] at hx
    rcases hx with hx | rfl
    · exact Nat.lt_succ_of_lt (h.1 x hx)
    · exact Nat.lt_succ_self _
  · rw [Array.toList_push, List.map_append, List.nodup_append]
    refine ⟨h.2, by simp, fun a ha b hb e => ?_⟩
    obtain ⟨y, hy, rfl⟩ := List.mem_map.1 ha
    simp only [List.map_cons, List.map_nil, List.mem_singleton] at hb
    have := h.1 y hy
    omega
theorem mapOf_sound (hs : St c H θ w sl a) {x : AV} {v : Value} {ks vs : List D} (hx : VR H θ w (vis c H θ w) x v) (h : mapOf H x = some (ks, vs)) :
    (v = .map none ∧ ks = [] ∧ vs = []) ∨ ∃ b clock es, v = .map (some b) ∧ w.heap[b]? = some (.map es clock) ∧ es.size = ks.length ∧ es.size = vs.length ∧ Born es clock ∧
      (∀ i (hi : i < ks.length) e, es[i]? = some e → DR w (vis c H θ w) (ks[i]) e.key) ∧ ∀ i (hi : i < vs.length) e, es[i]? = some e → DR w (vis c H θ w) (vs[i]) e.val := by
  unfold mapOf at h
  split at h
  · simp only [Option.some.injEq, Prod.mk.injEq] at h
    obtain ⟨rfl, rfl⟩ := h
    have hd := hx.data_inv
    cases hd with
    | nilmap => exact .inl ⟨rfl, rfl, rfl⟩
    | map _ _ b clock es hb hw hk hv hst h1 h2 => exact .inr ⟨b, clock, es, rfl, hw, hk, hv, hst, h1, h2⟩
  · split at h
    · rename_i hg
      simp only [Option.some.injEq, Prod.mk.injEq] at h
      obtain ⟨rfl, rfl⟩ := h
      obtain ⟨b, clock, es, hv, _, hw, _, h1, h2, h3, h4⟩ := map_val hs.sim hx hg
      exact .inr ⟨b, clock, es, hv, hw, h1, h2, h3, h4⟩
    · cases h
  · cases h
theorem y_lookup_at (hs : St c H θ w sl a) {t kt et : TypeId} {x i : Operand} {ok : Bool} {ks vs : List D} {key : D} {y : AV} (ho : o.op = .lookup t x i ok) (hu : P.underlying t = some (.map kt et)) (hik : aev sl i = .data key)
    (hmo : (a.eval x = .map none ∧ ks = [] ∧ vs = []) ∨ ∃ b clock es, a.eval x = .map (some b) ∧ w.heap[b]? = some (.map es clock) ∧ es.size = ks.length ∧ es.size = vs.length ∧ Born es clock ∧
      (∀ i (hi : i < ks.length) e, es[i]? = some e → DR w (vis c H θ w) (ks[i]) e.key) ∧ ∀ i (hi : i < vs.length) e, es[i]? = some e → DR w (vis c H θ w) (vs[i]) e.val)
    (h : (if ks.all (keyOK P kt) && keyOK P kt key then match mget P kt ks vs key, tzero P et with
      | some (some v), _ => some (if ok then .tup [.data v, .data (.bool true)] else .data v)
      | some none, some z => some (if ok then .tup [cav z, .data (.bool false)] else cav z)
      | _, _ => none
    else none) = some y) : Yields P c o a w sl H θ y H := by
  have hi := aev_sound hs i
  rw [hik] at hi
  have hkey := hi.data_inv
  split at h
  · rename_i hkk
    simp only [Bool.and_eq_true] at hkk
    obtain ⟨hall, hkk⟩ := hkk
    obtain ⟨td, hkt⟩ := keyOK_und hkk
    have pair : ∀ (u : Value) (b : Bool) (z : AV), VR H θ w (vis c H θ w) z u → VR H θ w (vis c H θ w) (if ok then .tup [z, .data (.bool b)] else z) (if ok then .tuple #[u, .bool b] else u) := by
      intro u b z hz
      cases ok with
      | false => exact hz
      | true =>
        simp only [if_true]
        refine .tup _ _ (fun i => if i = 0 then u else .bool b) rfl (fun i hi => ?_) (fun i hi => ?_)
        · match i, hi with
          | 0, _ => rfl
          | 1, _ => rfl
        · match i, hi with
          | 0, _ => exact hz
          | 1, _ => exact .data _ _ (.bool b)
    have mget_find : ∀ {q}, mget P kt ks vs key = some q → ∃ p, mfind P kt key ks 0 = some p ∧ q = p.bind (fun i => vs[i]?) ∧ (∀ i, p = some i → ∃ v, vs[i]? = some v) := by
      intro q hq
      unfold mget at hq
      split at hq
      · rename_i i hf
        split at hq
        · rename_i v hv
          simp only [Option.some.injEq] at hq
          exact ⟨_, hf, by simp [← hq, hv], fun j hj => by cases hj; exact ⟨v, hv⟩⟩
        · cases hq
      · rename_i hf
        simp only [Option.some.injEq] at hq
        exact ⟨_, hf, by simp [← hq], fun j hj => by cases hj⟩
      · cases hq
    have run : ∀ (q : Option D), mget P kt ks vs key = some q → (∀ v, q = some v → ∃ u, DR w (vis c H θ w) v u ∧ (execOp a.eval o).run P w = .ok (.value (if ok then .tuple #[u, .bool true] else u)) w) ∧
        (q = none → ∀ z, tzero P et = some z → (execOp a.eval o).run P w = .ok (.value (if ok then .tuple #[z, .bool false] else z)) w) := by
      intro q hq
      obtain ⟨p, hf, hqp, hpv⟩ := mget_find hq
      rcases hmo with ⟨hv, rfl, rfl⟩ | ⟨b, clock, es, hv, hw, hk, hvl, _, hks, hvs⟩
      · simp only [mfind, Option.some.injEq] at hf
        subst hf
        simp only [Option.bind_none] at hqp
        subst hqp
        refine ⟨fun v h => by (cases h), fun _ z hz => ?_⟩
        have h1 := run_checkKey (P := P) hkey hkk true
        have h2 : Instr.findNow td (a.eval i) ([] : List MapEntry) 0 = some none := rfl
        have h3 := run_findKey (P := P) (w := w) hkt h2
        simp only [tzero, Option.bind_eq_some_iff] at hz
        obtain ⟨ti, hti, hzz⟩ := hz
        simp only [execOp, ho, hv, Instr.lookup, Sem.run_bind, run_underlying hu, Result.andThen_ok, Sem.run_pure, Array.isEmpty_empty, h1, h3, zeroValue, typeInfo, run_program, hti, hzz]
      · have h3 := run_findKey_of (P := P) hkey hkk ks vs es.toList p (by simpa using hk) (by simpa using hvl) (fun i hi e he => hks i hi e (by simpa using he)) hall hf
        have h1 := fun b => run_checkKey (P := P) hkey hkk b
        have hg := run_getObj_map w b es clock hw (P := P)
        cases p with
        | none =>
          simp only [Option.bind_none] at hqp
          subst hqp
          refine ⟨fun v h => by (cases h), fun _ z hz => ?_⟩
          simp only [tzero, Option.bind_eq_some_iff] at hz
          obtain ⟨ti, hti, hzz⟩ := hz
          simp only [Option.bind_none] at h3
          simp only [execOp, ho, hv, Instr.lookup, Sem.run_bind, run_underlying hu, Result.andThen_ok, Sem.run_pure, hg, h1, h3, zeroValue, typeInfo, run_program, hti, hzz]
        | some j =>
          obtain ⟨v, hvj⟩ := hpv j rfl
          simp only [Option.bind_some, hvj] at hqp
          subst hqp
          refine ⟨fun v' h => ?_, fun h => by (cases h)⟩
          cases h
          obtain ⟨hj, hvv⟩ := List.getElem?_eq_some_iff.1 hvj
          have hje : j < es.size := by omega
          have hes : es[j]? = some es[j] := by simp [hje]
          have hd := hvs j hj _ hes
          rw [hvv] at hd
          refine ⟨es[j].val, hd, ?_⟩
          have hl : es.toList[j]? = some es[j] := by simp [hje]
          simp only [Option.bind_some, hl, Option.map_some] at h3
          simp only [execOp, ho, hv, Instr.lookup, Sem.run_bind, run_underlying hu, Result.andThen_ok, Sem.run_pure, hg, h1, h3]
    split at h
    · rename_i v hq
      simp only [Option.some.injEq] at h
      subst h
      obtain ⟨u, hd, hr⟩ := (run _ hq).1 v rfl
      exact .read hs hr (pair u true _ (.data _ _ hd))
    · rename_i z hq hz
      simp only [Option.some.injEq] at h
      subst h
      exact .read hs ((run _ hq).2 rfl z hz) (pair z false _ (cav_sound z))
    · cases h
  · cases h
theorem mfind_strs {kt : TypeId} {s : List UInt8} : ∀ (l : List (List UInt8)) (n : Nat), (s ∉ l → mfind P kt (.str s) (l.map .str) n = some none) ∧ (s ∈ l → ∃ j, j < l.length ∧ mfind P kt (.str s) (l.map .str) n = some (some (n + j)))
  | [], n => ⟨fun _ => rfl, fun h => by simp at h⟩
  | x :: r, n => by
    obtain ⟨h1, h2⟩ := mfind_strs (kt := kt) (s := s) r (n + 1)
    by_cases hx : s = x
    · subst hx
      refine ⟨fun h => by simp at h, fun _ => ⟨0, by simp, ?_⟩⟩
      simp [mfind, keySame, keyEq]
    · have hb : (s == x) = false := by simpa using hx
      have e : mfind P kt (.str s) ((x :: r).map .str) n = mfind P kt (.str s) (r.map .str) (n + 1) := by
        simp only [List.map_cons, mfind, keySame, keyEq, hb]
      rw [e]
      refine ⟨fun h => h1 fun h' => h (List.mem_cons_of_mem _ h'), fun h => ?_⟩
      rcases List.mem_cons.1 h with h' | h'
      · exact absurd h' hx
      · obtain ⟨j, hj, hf⟩ := h2 h'
        exact ⟨j + 1, by simpa using hj, by rw [hf]; congr 2; omega⟩
theorem y_lookup_set (hs : St c H θ w sl a) {t kt et : TypeId} {x i : Operand} {ok : Bool} {ss : List (List UInt8)} {s : List UInt8} (ho : o.op = .lookup t x i ok) (hu : P.underlying t = some (.map kt et)) (hik : aev sl i = .data (.str s))
    (hkt : P.underlying kt = some .string) (hz : tzero P et = some (.bool false)) (hd : DR w (vis c H θ w) (.set ss) (a.eval x)) :
    Yields P c o a w sl H θ (if ok then .tup [.data (.bool (ss.contains s)), .data (.bool (ss.contains s))] else .data (.bool (ss.contains s))) H := by
  generalize hv : a.eval x = v at hd
  cases hd with
  | set _ b clock es hb hw hst hso =>
    obtain ⟨_, _, h3, h4⟩ := hso
    obtain ⟨ks, hks⟩ : ∃ ks : List (List UInt8), ks.length = es.size ∧ ∀ i (hi : i < ks.length) e, es[i]? = some e → e.key = .string ⟨(ks[i]).toArray⟩ ∧ e.val = .bool true := by
      refine ⟨es.toList.map fun e => match e.key with | .string s => s.data.toList | _ => [], by simp, fun i hi e he => ?_⟩
      obtain ⟨s, hs1, hs2, hs3⟩ := h3 e (Array.mem_toList_iff.2 (Array.mem_of_getElem? he))
      refine ⟨?_, hs3⟩
      have hlt := (Array.getElem?_eq_some_iff.1 he)
      obtain ⟨hlt, hee⟩ := hlt
      simp [hee, hs2]
    obtain ⟨hkl, hke⟩ := hks
    have hmem : s ∈ ks ↔ s ∈ ss := by
      constructor
      · intro h
        obtain ⟨i, hi, hsi⟩ := List.getElem_of_mem h
        have he : es[i]? = some (es[i]'(by omega)) := Array.getElem?_eq_getElem _
        obtain ⟨h5, _⟩ := hke i hi _ he
        obtain ⟨s', h6, h7, _⟩ := h3 _ (Array.mem_toList_iff.2 (Array.mem_of_getElem? he))
        rw [h7, hsi] at h5
        have : s'.toArray = s.toArray := by simpa using h5
        have h8 : s' = s := by simpa using this
        rw [← h8]
        exact h6
      · intro h
        obtain ⟨e, he, hk⟩ := h4 s h
        obtain ⟨i, hi⟩ := List.getElem?_of_mem he
        rw [Array.getElem?_toList] at hi
        have hlt := (Array.getElem?_eq_some_iff.1 hi).1
        obtain ⟨h5, _⟩ := hke i (by omega) e hi
        rw [hk] at h5
        have h6 : s.toArray = (ks[i]'(by omega)).toArray := by simpa using h5
        have h7 : s = ks[i]'(by omega) := by simpa using h6
        rw [h7]
        exact List.getElem_mem _
    refine y_lookup_at hs (ks := ks.map .str) (vs := List.replicate es.size (.bool true)) ho hu hik (.inr ⟨b, clock, es, hv, hw, by simp [hkl], by simp, hst, fun i hi e he => ?_, fun i hi e he => ?_⟩) ?_
    · have hi' : i < ks.length := by simpa using hi
      rw [(hke i hi' e he).1, List.getElem_map]
      exact .str _
    · have hi' : i < ks.length := by simp at hi; omega
      rw [(hke i hi' e he).2, List.getElem_replicate]
      exact .bool _
    · have hall : ((ks.map D.str).all (keyOK P kt) && keyOK P kt (.str s)) = true := by
        simp [keyOK, keyKind, hkt]
      rw [if_pos hall]
      obtain ⟨m1, m2⟩ := mfind_strs (P := P) (kt := kt) (s := s) ks 0
      by_cases hm : s ∈ ss
      · obtain ⟨j, hj, hf⟩ := m2 (hmem.2 hm)
        have hc : ss.contains s = true := by simpa using hm
        have hg : mget P kt (ks.map .str) (List.replicate es.size (.bool true)) (.str s) = some (some (.bool true)) := by
          unfold mget
          rw [hf]
          simp only [Nat.zero_add]
          rw [List.getElem?_replicate, if_pos (by omega)]
        rw [hg, hc]
      · have hc : ss.contains s = false := by simpa using hm
        have hg : mget P kt (ks.map .str) (List.replicate es.size (.bool true)) (.str s) = some none := by
          unfold mget
          rw [m1 fun h => hm (hmem.1 h)]
        rw [hg, hc, hz]
        rfl
theorem y_lookup (hs : St c H θ w sl a) {t : TypeId} {x i : Operand} {ok : Bool} {y : AV} (ho : o.op = .lookup t x i ok) (h : alookup P H t (aev sl x) (aev sl i) ok = some y) : Yields P c o a w sl H θ y H := by
  have hx := aev_sound hs x
  unfold alookup at h
  split at h
  · rename_i kt et ks vs key hu hm hik
    exact y_lookup_at hs ho hu hik (mapOf_sound hs hx hm) h
  · rename_i kt et s hu hm hik
    split at h
    · rename_i ss hxs hkt hz
      simp only [Option.some.injEq] at h
      subst h
      rw [hxs] at hx
      exact y_lookup_set hs ho hu hik hkt hz hx.data_inv
    · cases h
  · cases h
theorem y_mapUpdate (hs : St c H θ w sl a) {t : TypeId} {m i x : Operand} (ho : o.op = .mapUpdate t m i x) (h : amapUpdate P H t (aev sl m) (aev sl i) (aev sl x) = some H') : Yields P c o a w sl H θ .junk H' := by
  have hm := aev_sound hs m
  have hi := aev_sound hs i
  have hx := aev_sound hs x
  unfold amapUpdate at h
  split at h
  · rename_i kt et ob key d hu hmo hik hxp
    rw [hmo] at hm
    rw [hik] at hi
    have hkey := hi.data_inv
    have hval := plain_sound hx hxp
    split at h
    · rename_i ks vs hg
      split at h
      · rename_i hkk
        simp only [Bool.and_eq_true] at hkk
        obtain ⟨hall, hkk⟩ := hkk
        obtain ⟨td, hkt⟩ := keyOK_und hkk
        split at h
        · rename_i ks' vs' hput
          simp only [Option.some.injEq] at h
          subst h
          obtain ⟨b, clock, es, hv, hθ, hw, hown, hk, hvl, hst, hks, hvs⟩ := map_val hs.sim hm hg
          obtain ⟨es', clock', hr, hz1, hz2, hst', hk', hv'⟩ : ∃ es' clock', (execOp a.eval o).run P w = .ok .skip { w with heap := w.heap.setIfInBounds b (.map es' clock') } ∧ es'.size = ks'.length ∧ es'.size = vs'.length ∧ Born es' clock' ∧
              (∀ i (hi : i < ks'.length) e, es'[i]? = some e → DR w (vis c H θ w) (ks'[i]) e.key) ∧ ∀ i (hi : i < vs'.length) e, es'[i]? = some e → DR w (vis c H θ w) (vs'[i]) e.val := by
            have h1 := run_checkKey (P := P) hkey hkk false
            have hgo := run_getObj_map w b es clock hw (P := P)
            have hset := fun o => Go.MapKept.run_setObj_map (P := P) (w := w) o hw
            unfold mput at hput
            split at hput
            · rename_i j hf
              simp only [Option.some.injEq, Prod.mk.injEq] at hput
              obtain ⟨rfl, rfl⟩ := hput
              have h3 := run_findKey_of (P := P) hkey hkk ks vs es.toList _ (by simpa using hk) (by simpa using hvl) (fun i hi e he => hks i hi e (by simpa using he)) hall hf
              obtain ⟨_, hj⟩ := mfind_some hf
              simp only [Nat.sub_zero] at hj
              have hje : j < es.size := by omega
              have hl : es.toList[j]? = some es[j] := by simp [hje]
              have hes : es[j]? = some es[j] := by simp [hje]
              simp only [Option.bind_some, hl, Option.map_some] at h3
              have hsame : Instr.sameBits 10000 es[j].key (a.eval i) = true ∧ es[j].key = a.eval i := by
                have hdk := hks j hj _ hes
                have hke : keySame P kt key ks[j] = some true := by
                  have : ∀ (ks : List D) (n j : Nat), mfind P kt key ks n = some (some j) → ∃ h : j - n < ks.length, keySame P kt key ks[j - n] = some true := by
                    intro ks
                    induction ks with
                    | nil => intro n j h; simp [mfind] at h
                    | cons y r ih =>
                      intro n j h
                      simp only [mfind] at h
                      split at h
                      · rename_i hb
                        simp only [Option.some.injEq] at h
                        subst h
                        exact ⟨by simp, by simpa using hb⟩
                      · obtain ⟨h1, _⟩ := mfind_some h
                        obtain ⟨h2, h3⟩ := ih _ _ h
                        refine ⟨by simp only [List.length_cons]; omega, ?_⟩
                        rw [← h3]
                        congr 1
                        have e : j - n = (j - (n + 1)) + 1 := by omega
                        simp only [e, List.getElem_cons_succ]
                      · cases h
                  obtain ⟨_, h⟩ := this ks 0 j hf
                  simpa using h
                have hkj : keyOK P kt ks[j] = true := List.all_eq_true.1 hall _ (List.getElem_mem hj)
                generalize hkd : ks[j] = kd at hdk hke hkj
                generalize hev : a.eval i = ev at hkey
                generalize hek : es[j].key = ek at hdk
                cases key with
                | agg ds =>
                  obtain ⟨b, rfl⟩ : ∃ b, kd = .agg b := by
                    cases kd <;> simp [keySame, keyEq] at hke
                    exact ⟨_, rfl⟩
                  obtain ⟨e1, e2⟩ := (keySame_equal (P := P) hkey hdk hke).2 rfl
                  subst e1
                  exact ⟨e2, rfl⟩
                | _ =>
                  cases hkey <;> simp [keyOK, keyKind] at hkk <;> cases hdk <;> simp [keySame, keyEq] at hke
                  all_goals first
                    | (subst hke; refine ⟨?_, rfl⟩; simp [Instr.sameBits]; done)
                    | (subst hke; refine ⟨?_, rfl⟩; simp only [Instr.sameBits, beq_toListBytes]; simp; done)
                    | (obtain ⟨rfl, rfl⟩ := hke; refine ⟨?_, rfl⟩; simp [Instr.sameBits]; done)
              refine ⟨es.modify j fun e => { e with key := a.eval i, val := a.eval x }, clock, ?_, by simpa using hk, by simpa using hvl, hst.modify _ _ _, fun i2 hi2 e he => ?_, fun i2 hi2 e he => ?_⟩
              · simp only [execOp, ho, hv, Instr.mapUpdate, Sem.run_bind, run_underlying hu, Result.andThen_ok, hgo, h1, h3, hes, Option.map_some, Option.getD_some, Instr.keyThatStays, hsame.1, if_true, Sem.run_pure, hset]
              · rw [Array.getElem?_modify] at he
                simp only [List.length_set] at hi2
                by_cases h2 : j = i2
                · subst h2
                  rw [if_pos rfl, hes] at he
                  simp only [Option.map_some, Option.some.injEq] at he
                  subst he
                  simp only [List.getElem_set_self]
                  exact hkey
                · rw [if_neg h2] at he
                  rw [List.getElem_set_ne h2]
                  exact hks i2 hi2 e he
              · rw [Array.getElem?_modify] at he
                simp only [List.length_set] at hi2
                by_cases h2 : j = i2
                · subst h2
                  rw [if_pos rfl, hes] at he
                  simp only [Option.map_some, Option.some.injEq] at he
                  subst he
                  simp only [List.getElem_set_self]
                  exact hval
                · rw [if_neg h2] at he
                  rw [List.getElem_set_ne h2]
                  exact hvs i2 hi2 e he
            · rename_i hf
              simp only [Option.some.injEq, Prod.mk.injEq] at hput
              obtain ⟨rfl, rfl⟩ := hput
              have h3 := run_findKey_of (P := P) hkey hkk ks vs es.toList _ (by simpa using hk) (by simpa using hvl) (fun i hi e he => hks i hi e (by simpa using he)) hall hf
              simp only [Option.bind_none] at h3
              refine ⟨es.push { key := a.eval i, val := a.eval x, born := clock }, clock + 1, ?_, by simpa using hk, by simpa using hvl, hst.push _ _, fun i2 hi2 e he => ?_, fun i2 hi2 e he => ?_⟩
              · simp only [execOp, ho, hv, Instr.mapUpdate, Sem.run_bind, run_underlying hu, Result.andThen_ok, hgo, h1, h3, hset, Sem.run_pure]
              · rw [Array.getElem?_push] at he
                by_cases h2 : i2 = es.size
                · rw [if_pos h2] at he
                  simp only [Option.some.injEq] at he
                  subst he
                  rw [List.getElem_append_right (by omega)]
                  simp only [List.getElem_singleton]
                  exact hkey
                · rw [if_neg h2] at he
                  have hlt : i2 < ks.length := by rw [List.length_append, List.length_singleton] at hi2; omega
                  rw [List.getElem_append_left hlt]
                  exact hks i2 hlt e he
              · rw [Array.getElem?_push] at he
                by_cases h2 : i2 = es.size
                · rw [if_pos h2] at he
                  simp only [Option.some.injEq] at he
                  subst he
                  rw [List.getElem_append_right (by omega)]
                  simp only [List.getElem_singleton]
                  exact hval
                · rw [if_neg h2] at he
                  have hlt : i2 < vs.length := by rw [List.length_append, List.length_singleton] at hi2; omega
                  rw [List.getElem_append_left hlt]
                  exact hvs i2 hlt e he
            · cases hput
          have hb : b < w.heap.size := heap_lt hw
          have hT := hs.sim.turn (w' := { w with heap := w.heap.setIfInBounds b (.map es' clock') }) (k := ob) (x0 := .map ks vs) (x := .map ks' vs') (val := θ ob) hg rfl rfl
            (fun k hk hne => by
              have : b ≠ k := fun e => hne (by rw [hθ, e]; rfl)
              simp [Array.getElem?_setIfInBounds, this]) (by simp) (fun k hk => .inl hk) trivial (fun _ => rfl)
            (fun hvr => ⟨b, clock', es', hθ, by simp [hb], hown, hz1, hz2, hst', fun i hi e he => (hvr (.data _) _ (.data _ _ (hk' i hi e he))).data_inv, fun i hi e he => (hvr (.data _) _ (.data _ _ (hv' i hi e he))).data_inv⟩)
          refine .skip hr ⟨hT.1, hs.defers, hs.size, fun i y u h1 h2 => hT.2.1 y u (hs.vals i y u h1 h2)⟩ ⟨rfl, rfl, rfl, by simp, fun k hk hi => ?_⟩ hT.2.2
          have : b ≠ k := fun e => by
            subst e
            rcases hown with h | h
            · omega
            · exact hi h
          simp [Array.getElem?_setIfInBounds, this]
        · cases h
      · cases h
    · cases h
  · cases h
end
end Go.Ab
