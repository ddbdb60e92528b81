/-
  Maps, bytes of strings, conversions of numbers (own work).
-/
import Derived.Test.YtpecnbkfahekdaaAbSlice
set_option linter.unusedVariables false
set_option linter.unusedSimpArgs false
namespace Go.Ab
open Go Go.RowKit
section
variable {P : Program} {c : Ctx} {H H' : Heap} {θ θ' : Nat → Value} {w w' : World} {sl : List AV} {a : Act} {o : Oper} {r : AV}

theorem y_indexV (hs : St c H θ w sl a) {t : TypeId} {x i : Operand} {y : AV} (ho : o.op = .index t x i) (h : asIndex P t (aev sl x) (aev sl i) = some y) : Yields P c o a w sl H θ y H := by
  have hx := aev_sound hs x
  have hi := aev_sound hs i
  unfold asIndex at h
  split at h
  · rename_i s k n hu hxs hin
    rw [hxs] at hx
    rw [hin] at hi
    have h1 := hx.data_inv.str_eq
    have h2 := hi.data_inv.int_eq
    split at h
    · rename_i h0
      split at h
      · rename_i b hb
        simp only [Option.some.injEq] at h
        subst h
        refine .read hs (v := .int .u8 b.toNat) ?_ (.data _ _ (.int _ _))
        have hlt : n.toNat < s.length := (List.getElem?_eq_some_iff.1 hb).1
        have hbv : s[n.toNat] = b := (List.getElem?_eq_some_iff.1 hb).2
        have e : (⟨s.toArray⟩ : ByteArray)[n.toNat]? = some b := by
          rw [getElem?_pos (⟨s.toArray⟩ : ByteArray) n.toNat (by simpa [ByteArray.size] using hlt)]
          congr 1
        simp only [execOp, ho, h1, h2, Instr.index, asIntOf, Sem.run_bind, Sem.run_pure, Result.andThen_ok, run_underlying hu, if_pos h0, e]
      · cases h
    · cases h
  · cases h
theorem y_convert (hs : St c H θ w sl a) {s d : TypeId} {x : Operand} {y : AV} (ho : o.op = .convert s d x) (h : aconvert P s d (aev sl x) = some y) : Yields P c o a w sl H θ y H := by
  have hx := aev_sound hs x
  unfold aconvert at h
  split at h
  · rename_i k0 k k1 n hu1 hu2 hxn
    simp only [Option.some.injEq] at h
    subst h
    rw [hxn] at hx
    have h1 := hx.data_inv.int_eq
    refine .read hs (v := .int k (k.wrap n)) ?_ (.data _ _ (.int _ _))
    simp only [execOp, ho, h1, convert, Sem.run_bind, run_underlying hu1, run_underlying hu2, Result.andThen_ok, Conv.intToInt, Sem.run_pure]
  · cases h

/-! ### Maps -/
theorem y_makeMap (hs : St c H θ w sl a) {k : Nat} (hk : ¬ H.ref k) {t : TypeId} (ho : o.op = .makeMap t none) : Yields P c o a w sl H θ (.mref k) (H.set k (.map [] [])) := by
  have h := hs.add (w' := w.alloc (.map #[] 0)) (k := k) (x := .map [] []) (val := .map (some w.heap.size)) hk
    (fun b hb => Below.heap_alloc w _ b hb) (by simp) (fun b hb => by simp [blk] at hb; omega)
    (fun hvr => ⟨w.heap.size, 0, #[], rfl, heap_alloc_new w _, .inl hs.sim.size, rfl, rfl, fun i hi => by simp at hi, fun i hi => by simp at hi⟩)
  refine .value (v := .map (some w.heap.size)) (w' := w.alloc (.map #[] 0)) ?_ (.mref k _ rfl (.inr (by rw [Heap.get_set, if_pos rfl]; rfl)) fun ks vs _ => by simp [updθ]) h.1
    ⟨rfl, rfl, rfl, by simp, fun b hb _ => Below.heap_alloc w _ b (Nat.lt_of_lt_of_le hb hs.sim.size)⟩ h.2.2
  simp [execOp, ho, Instr.makeMap, run_newObj]

theorem mfind_some : ∀ {ks : List D} {k : D} {n i : Nat}, mfind k ks n = some (some i) → n ≤ i ∧ i - n < ks.length
  | [], k, n, i, h => by simp [mfind] at h
  | x :: r, k, n, i, h => by
    simp only [mfind] at h
    split at h
    · simp only [Option.some.injEq] at h; subst h; simp
    · obtain ⟨h1, h2⟩ := mfind_some h
      simp only [List.length_cons]
      omega
    · cases h
/-- The model's search for a key. -/
theorem keyEq_now {x y : D} {u v : Value} {b : Bool} {B : Nat → Prop} {t : TypeId} {td : TypeDesc} (ht : P.underlying t = some td) (hx : DR w B x u) (hy : DR w B y v) (hkx : keyKind P t x = true) (hky : keyKind P t y = true) (h : keyEq x y = some b) : Instr.sameNow td u v = some b := by
  unfold keyKind at hkx hky
  rw [ht] at hkx hky
  split at hkx
  · rename_i h1
    cases h1
    cases y <;> simp [keyEq] at h
    subst h
    rename_i a c
    rw [hx.str_eq, hy.str_eq]
    have e : ((⟨a.toArray⟩ : ByteArray) == ⟨c.toArray⟩) = (a == c) := by rw [beq_toListBytes]; simp [ByteArray.toList_eq]
    simp [Instr.sameNow, e]
  · rename_i h1
    cases h1
    cases y <;> simp [keyEq] at h
    subst h
    rw [hx.bool_eq, hy.bool_eq]
    simp [Instr.sameNow]
  · rename_i h1
    cases h1
    cases y <;> simp [keyEq] at h
    obtain ⟨hk, h⟩ := h
    subst h
    subst hk
    rw [hx.int_eq, hy.int_eq]
    simp [Instr.sameNow]
  · cases hkx
theorem findNow_of {kt : TypeId} {td : TypeDesc} (ht : P.underlying kt = some td) {B : Nat → Prop} {key : D} {kv : Value} (hk : DR w B key kv) (hkk : keyKind P kt key = true) :
    ∀ (ks vs : List D) (es : List MapEntry) (n : Nat) (q : Option Nat), es.length = ks.length → es.length = vs.length → (∀ i (hi : i < ks.length) e, es[i]? = some e → DR w B (ks[i]) e.key) → ks.all (keyKind P kt) = true →
      mfind key ks n = some q → Instr.findNow td kv es n = some (q.bind fun i => (es[i - n]?).map fun e => (i, e.val))
  | [], vs, es, n, q, hl, hl2, he, ha, h => by
    simp only [List.length_nil] at hl
    have : es = [] := List.eq_nil_of_length_eq_zero hl
    subst this
    simp only [mfind, Option.some.injEq] at h
    subst h
    simp [Instr.findNow]
  | x :: ks, vs, [], n, q, hl, hl2, he, ha, h => by simp at hl
  | x :: ks, vs, e :: es, n, q, hl, hl2, he, ha, h => by
    simp only [List.all_cons, Bool.and_eq_true] at ha
    simp only [mfind] at h
    have h0 := he 0 (by simp) e (by simp)
    simp only [List.getElem_cons_zero] at h0
    split at h
    · rename_i hb
      simp only [Option.some.injEq] at h
      subst h
      simp only [Instr.findNow, keyEq_now ht hk h0 hkk ha.1 hb]
      simp
    · rename_i hb
      cases vs with
      | nil => simp at hl2
      | cons v vs =>
        have ih := findNow_of ht hk hkk ks vs es (n + 1) q (by simpa using hl) (by simpa using hl2) (fun i hi e' he' => by
          have := he (i + 1) (by simpa using hi) e' (by simpa using he')
          simpa using this) ha.2 h
        simp only [Instr.findNow, keyEq_now ht hk h0 hkk ha.1 hb, ih]
        cases q with
        | none => rfl
        | some i =>
          obtain ⟨h1, h2⟩ := mfind_some h
          simp only [Option.bind_some]
          rw [show i - n = (i - (n + 1)) + 1 from by omega, List.getElem?_cons_succ]
    · cases h
theorem run_findKey {kt : TypeId} {td : TypeDesc} (ht : P.underlying kt = some td) {kv : Value} {es : List MapEntry} {q : Option (Nat × Value)} (h : Instr.findNow td kv es 0 = some q) : (Instr.findKey kt kv es).run P w = .ok q w := by
  simp only [Instr.findKey, Sem.run_bind, run_underlying ht, Result.andThen_ok, h, Sem.run_pure]
theorem run_checkKey {kt : TypeId} {B : Nat → Prop} {key : D} {kv : Value} (hk : DR w B key kv) (hkk : keyKind P kt key = true) (b : Bool) : (Instr.checkKey b 10000 kt kv).run P w = .ok () w := by
  have : ∀ n, (Instr.checkKey b (n + 1) kt kv).run P w = .ok () w := fun n => by
    unfold keyKind at hkk
    split at hkk
    · rename_i hu; rw [hk.str_eq]; simp [Instr.checkKey, run_underlying hu]
    · rename_i hu; rw [hk.bool_eq]; simp [Instr.checkKey, run_underlying hu]
    · rename_i hu; rw [hk.int_eq]; simp [Instr.checkKey, run_underlying hu]
    · cases hkk
  exact this 9999
theorem mapOf_sound (hs : St c H θ w sl a) {x : AV} {v : Value} {ks vs : List D} (hx : VR H θ w (vis c H θ w) x v) (h : mapOf H x = some (ks, vs)) :
    (v = .map none ∧ ks = [] ∧ vs = []) ∨ ∃ b clock es, v = .map (some b) ∧ w.heap[b]? = some (.map es clock) ∧ es.size = ks.length ∧ es.size = vs.length ∧
      (∀ i (hi : i < ks.length) e, es[i]? = some e → DR w (vis c H θ w) (ks[i]) e.key) ∧ ∀ i (hi : i < vs.length) e, es[i]? = some e → DR w (vis c H θ w) (vs[i]) e.val := by
  unfold mapOf at h
  split at h
  · simp only [Option.some.injEq, Prod.mk.injEq] at h
    obtain ⟨rfl, rfl⟩ := h
    have hd := hx.data_inv
    cases hd with
    | nilmap => exact .inl ⟨rfl, rfl, rfl⟩
    | map _ _ b clock es hb hw hk hv h1 h2 => exact .inr ⟨b, clock, es, rfl, hw, hk, hv, h1, h2⟩
  · split at h
    · rename_i hg
      simp only [Option.some.injEq, Prod.mk.injEq] at h
      obtain ⟨rfl, rfl⟩ := h
      obtain ⟨b, clock, es, hv, _, hw, _, h1, h2, h3, h4⟩ := map_val hs.sim hx hg
      exact .inr ⟨b, clock, es, hv, hw, h1, h2, h3, h4⟩
    · cases h
  · cases h
theorem y_lookup (hs : St c H θ w sl a) {t : TypeId} {x i : Operand} {ok : Bool} {y : AV} (ho : o.op = .lookup t x i ok) (h : alookup P H t (aev sl x) (aev sl i) ok = some y) : Yields P c o a w sl H θ y H := by
  have hx := aev_sound hs x
  have hi := aev_sound hs i
  unfold alookup at h
  split at h
  · rename_i kt et ks vs key hu hm hik
    rw [hik] at hi
    have hkey := hi.data_inv
    split at h
    · rename_i hkk
      simp only [Bool.and_eq_true] at hkk
      obtain ⟨hall, hkk⟩ := hkk
      obtain ⟨td, hkt⟩ : ∃ td, P.underlying kt = some td := by
        unfold keyKind at hkk
        split at hkk <;> first | exact ⟨_, by assumption⟩ | cases hkk
      have pair : ∀ (u : Value) (b : Bool) (z : AV), VR H θ w (vis c H θ w) z u → VR H θ w (vis c H θ w) (if ok then .tup [z, .data (.bool b)] else z) (if ok then .tuple #[u, .bool b] else u) := by
        intro u b z hz
        cases ok with
        | false => exact hz
        | true =>
          simp only [if_true]
          refine .tup _ _ (fun i => if i = 0 then u else .bool b) rfl (fun i hi => ?_) (fun i hi => ?_)
          · match i, hi with
            | 0, _ => rfl
            | 1, _ => rfl
          · match i, hi with
            | 0, _ => exact hz
            | 1, _ => exact .data _ _ (.bool b)
      have mget_find : ∀ {q}, mget ks vs key = some q → ∃ p, mfind key ks 0 = some p ∧ q = p.bind (fun i => vs[i]?) ∧ (∀ i, p = some i → ∃ v, vs[i]? = some v) := by
        intro q hq
        unfold mget at hq
        split at hq
        · rename_i i hf
          split at hq
          · rename_i v hv
            simp only [Option.some.injEq] at hq
            exact ⟨_, hf, by simp [← hq, hv], fun j hj => by cases hj; exact ⟨v, hv⟩⟩
          · cases hq
        · rename_i hf
          simp only [Option.some.injEq] at hq
          exact ⟨_, hf, by simp [← hq], fun j hj => by cases hj⟩
        · cases hq
      -- the model's own answer
      have run : ∀ (q : Option D), mget ks vs key = some q → (∀ v, q = some v → ∃ u, DR w (vis c H θ w) v u ∧ (execOp a.eval o).run P w = .ok (.value (if ok then .tuple #[u, .bool true] else u)) w) ∧
          (q = none → ∀ z, tzero P et = some z → (execOp a.eval o).run P w = .ok (.value (if ok then .tuple #[z, .bool false] else z)) w) := by
        intro q hq
        obtain ⟨p, hf, hqp, hpv⟩ := mget_find hq
        rcases mapOf_sound hs hx hm with ⟨hv, rfl, rfl⟩ | ⟨b, clock, es, hv, hw, hk, hvl, hks, hvs⟩
        · simp only [mfind, Option.some.injEq] at hf
          subst hf
          simp only [Option.bind_none] at hqp
          subst hqp
          refine ⟨fun v h => by (cases h), fun _ z hz => ?_⟩
          have h1 := run_checkKey (P := P) hkey hkk true
          have h2 : Instr.findNow td (a.eval i) ([] : List MapEntry) 0 = some none := rfl
          have h3 := run_findKey (P := P) (w := w) hkt h2
          simp only [tzero, Option.bind_eq_some_iff] at hz
          obtain ⟨ti, hti, hzz⟩ := hz
          simp only [execOp, ho, hv, Instr.lookup, Sem.run_bind, run_underlying hu, Result.andThen_ok, Sem.run_pure, Array.isEmpty_empty, h1, h3, zeroValue, typeInfo, run_program, hti, hzz]
        · have hfn := findNow_of (P := P) hkt hkey hkk ks vs es.toList 0 p (by simpa using hk) (by simpa using hvl) (fun i hi e he => hks i hi e (by simpa using he)) hall hf
          have h1 := fun b => run_checkKey (P := P) hkey hkk b
          have h3 := run_findKey (P := P) (w := w) hkt hfn
          have hg := run_getObj_map w b es clock hw (P := P)
          cases p with
          | none =>
            simp only [Option.bind_none] at hqp
            subst hqp
            refine ⟨fun v h => by (cases h), fun _ z hz => ?_⟩
            simp only [tzero, Option.bind_eq_some_iff] at hz
            obtain ⟨ti, hti, hzz⟩ := hz
            simp only [Option.bind_none] at h3
            simp only [execOp, ho, hv, Instr.lookup, Sem.run_bind, run_underlying hu, Result.andThen_ok, Sem.run_pure, hg, h1, h3, zeroValue, typeInfo, run_program, hti, hzz]
          | some j =>
            obtain ⟨v, hvj⟩ := hpv j rfl
            simp only [Option.bind_some, hvj] at hqp
            subst hqp
            refine ⟨fun v' h => ?_, fun h => by (cases h)⟩
            cases h
            obtain ⟨hj, hvv⟩ := List.getElem?_eq_some_iff.1 hvj
            have hje : j < es.size := by omega
            have hes : es[j]? = some es[j] := by simp [hje]
            have hd := hvs j hj _ hes
            rw [hvv] at hd
            refine ⟨es[j].val, hd, ?_⟩
            have hl : es.toList[j]? = some es[j] := by simp [hje]
            simp only [Option.bind_some, Nat.sub_zero, hl, Option.map_some] at h3
            simp only [execOp, ho, hv, Instr.lookup, Sem.run_bind, run_underlying hu, Result.andThen_ok, Sem.run_pure, hg, h1, h3]
      split at h
      · rename_i v hq
        simp only [Option.some.injEq] at h
        subst h
        obtain ⟨u, hd, hr⟩ := (run _ hq).1 v rfl
        exact .read hs hr (pair u true _ (.data _ _ hd))
      · rename_i z hq hz
        simp only [Option.some.injEq] at h
        subst h
        exact .read hs ((run _ hq).2 rfl z hz) (pair z false _ (cav_sound z))
      · cases h
    · cases h
  · cases h
theorem y_mapUpdate (hs : St c H θ w sl a) {t : TypeId} {m i x : Operand} (ho : o.op = .mapUpdate t m i x) (h : amapUpdate P H t (aev sl m) (aev sl i) (aev sl x) = some H') : Yields P c o a w sl H θ .junk H' := by
  have hm := aev_sound hs m
  have hi := aev_sound hs i
  have hx := aev_sound hs x
  unfold amapUpdate at h
  split at h
  · rename_i kt et ob key d hu hmo hik hxp
    rw [hmo] at hm
    rw [hik] at hi
    have hkey := hi.data_inv
    have hval := plain_sound hx hxp
    split at h
    · rename_i ks vs hg
      split at h
      · rename_i hkk
        simp only [Bool.and_eq_true] at hkk
        obtain ⟨hall, hkk⟩ := hkk
        obtain ⟨td, hkt⟩ : ∃ td, P.underlying kt = some td := by
          unfold keyKind at hkk
          split at hkk <;> first | exact ⟨_, by assumption⟩ | cases hkk
        split at h
        · rename_i ks' vs' hput
          simp only [Option.some.injEq] at h
          subst h
          obtain ⟨b, clock, es, hv, hθ, hw, hown, hk, hvl, hks, hvs⟩ := map_val hs.sim hm hg
          -- the new entries
          obtain ⟨es', clock', hr, hz1, hz2, hk', hv'⟩ : ∃ es' clock', (execOp a.eval o).run P w = .ok .skip { w with heap := w.heap.setIfInBounds b (.map es' clock') } ∧ es'.size = ks'.length ∧ es'.size = vs'.length ∧
              (∀ i (hi : i < ks'.length) e, es'[i]? = some e → DR w (vis c H θ w) (ks'[i]) e.key) ∧ ∀ i (hi : i < vs'.length) e, es'[i]? = some e → DR w (vis c H θ w) (vs'[i]) e.val := by
            have h1 := run_checkKey (P := P) hkey hkk false
            have hgo := run_getObj_map w b es clock hw (P := P)
            have hset := fun o => Go.MapKept.run_setObj_map (P := P) (w := w) o hw
            unfold mput at hput
            split at hput
            · rename_i j hf
              simp only [Option.some.injEq, Prod.mk.injEq] at hput
              obtain ⟨rfl, rfl⟩ := hput
              have hfn := findNow_of (P := P) hkt hkey hkk ks vs es.toList 0 _ (by simpa using hk) (by simpa using hvl) (fun i hi e he => hks i hi e (by simpa using he)) hall hf
              have h3 := run_findKey (P := P) (w := w) hkt hfn
              obtain ⟨_, hj⟩ := mfind_some hf
              simp only [Nat.sub_zero] at hj
              have hje : j < es.size := by omega
              have hl : es.toList[j]? = some es[j] := by simp [hje]
              have hes : es[j]? = some es[j] := by simp [hje]
              simp only [Option.bind_some, Nat.sub_zero, hl, Option.map_some] at h3
              -- the key that stays is the same
              have hsame : Instr.sameBits 10000 es[j].key (a.eval i) = true ∧ es[j].key = a.eval i := by
                have hdk := hks j hj _ hes
                have hke : keyEq key ks[j] = some true := by
                  have : ∀ (ks : List D) (n j : Nat), mfind key ks n = some (some j) → ∃ h : j - n < ks.length, keyEq key ks[j - n] = some true := by
                    intro ks
                    induction ks with
                    | nil => intro n j h; simp [mfind] at h
                    | cons y r ih =>
                      intro n j h
                      simp only [mfind] at h
                      split at h
                      · rename_i hb
                        simp only [Option.some.injEq] at h
                        subst h
                        exact ⟨by simp, by simpa using hb⟩
                      · obtain ⟨h1, _⟩ := mfind_some h
                        obtain ⟨h2, h3⟩ := ih _ _ h
                        refine ⟨by simp only [List.length_cons]; omega, ?_⟩
                        rw [← h3]
                        congr 1
                        have e : j - n = (j - (n + 1)) + 1 := by omega
                        simp only [e, List.getElem_cons_succ]
                      · cases h
                  obtain ⟨_, h⟩ := this ks 0 j hf
                  simpa using h
                have hkj : keyKind P kt ks[j] = true := List.all_eq_true.1 hall _ (List.getElem_mem hj)
                generalize hkd : ks[j] = kd at hdk hke hkj
                generalize hev : a.eval i = ev at hkey
                generalize hek : es[j].key = ek at hdk
                cases hkey <;> simp [keyKind] at hkk <;> cases hdk <;> simp [keyEq] at hke
                all_goals first
                  | (subst hke; refine ⟨?_, rfl⟩; simp [Instr.sameBits]; done)
                  | (subst hke; refine ⟨?_, rfl⟩; simp only [Instr.sameBits, beq_toListBytes]; simp; done)
                  | (obtain ⟨rfl, rfl⟩ := hke; refine ⟨?_, rfl⟩; simp [Instr.sameBits]; done)
              refine ⟨es.modify j fun e => { e with key := a.eval i, val := a.eval x }, clock, ?_, by simpa using hk, by simpa using hvl, fun i2 hi2 e he => ?_, fun i2 hi2 e he => ?_⟩
              · simp only [execOp, ho, hv, Instr.mapUpdate, Sem.run_bind, run_underlying hu, Result.andThen_ok, hgo, h1, h3, hes, Option.map_some, Option.getD_some, Instr.keyThatStays, hsame.1, if_true, Sem.run_pure, hset]
              · rw [Array.getElem?_modify] at he
                simp only [List.length_set] at hi2
                by_cases h2 : j = i2
                · subst h2
                  rw [if_pos rfl, hes] at he
                  simp only [Option.map_some, Option.some.injEq] at he
                  subst he
                  simp only [List.getElem_set_self]
                  exact hkey
                · rw [if_neg h2] at he
                  rw [List.getElem_set_ne h2]
                  exact hks i2 hi2 e he
              · rw [Array.getElem?_modify] at he
                simp only [List.length_set] at hi2
                by_cases h2 : j = i2
                · subst h2
                  rw [if_pos rfl, hes] at he
                  simp only [Option.map_some, Option.some.injEq] at he
                  subst he
                  simp only [List.getElem_set_self]
                  exact hval
                · rw [if_neg h2] at he
                  rw [List.getElem_set_ne h2]
                  exact hvs i2 hi2 e he
            · rename_i hf
              simp only [Option.some.injEq, Prod.mk.injEq] at hput
              obtain ⟨rfl, rfl⟩ := hput
              have hfn := findNow_of (P := P) hkt hkey hkk ks vs es.toList 0 _ (by simpa using hk) (by simpa using hvl) (fun i hi e he => hks i hi e (by simpa using he)) hall hf
              have h3 := run_findKey (P := P) (w := w) hkt hfn
              simp only [Option.bind_none] at h3
              refine ⟨es.push { key := a.eval i, val := a.eval x, born := clock }, clock + 1, ?_, by simpa using hk, by simpa using hvl, fun i2 hi2 e he => ?_, fun i2 hi2 e he => ?_⟩
              · simp only [execOp, ho, hv, Instr.mapUpdate, Sem.run_bind, run_underlying hu, Result.andThen_ok, hgo, h1, h3, hset, Sem.run_pure]
              · rw [Array.getElem?_push] at he
                by_cases h2 : i2 = es.size
                · rw [if_pos h2] at he
                  simp only [Option.some.injEq] at he
                  subst he
                  rw [List.getElem_append_right (by omega)]
                  simp only [List.getElem_singleton]
                  exact hkey
                · rw [if_neg h2] at he
                  have hlt : i2 < ks.length := by rw [List.length_append, List.length_singleton] at hi2; omega
                  rw [List.getElem_append_left hlt]
                  exact hks i2 hlt e he
              · rw [Array.getElem?_push] at he
                by_cases h2 : i2 = es.size
                · rw [if_pos h2] at he
                  simp only [Option.some.injEq] at he
                  subst he
                  rw [List.getElem_append_right (by omega)]
                  simp only [List.getElem_singleton]
                  exact hval
                · rw [if_neg h2] at he
                  have hlt : i2 < vs.length := by rw [List.length_append, List.length_singleton] at hi2; omega
                  rw [List.getElem_append_left hlt]
                  exact hvs i2 hlt e he
            · cases hput
          have hb : b < w.heap.size := heap_lt hw
          have hT := hs.sim.turn (w' := { w with heap := w.heap.setIfInBounds b (.map es' clock') }) (k := ob) (x0 := .map ks vs) (x := .map ks' vs') (val := θ ob) hg rfl rfl
            (fun k hk hne => by
              have : b ≠ k := fun e => hne (by rw [hθ, e]; rfl)
              simp [Array.getElem?_setIfInBounds, this]) (by simp) (fun k hk => .inl hk) trivial (fun _ => rfl)
            (fun hvr => ⟨b, clock', es', hθ, by simp [hb], hown, hz1, hz2, fun i hi e he => (hvr (.data _) _ (.data _ _ (hk' i hi e he))).data_inv, fun i hi e he => (hvr (.data _) _ (.data _ _ (hv' i hi e he))).data_inv⟩)
          refine .skip hr ⟨hT.1, hs.defers, hs.size, fun i y u h1 h2 => hT.2.1 y u (hs.vals i y u h1 h2)⟩ ⟨rfl, rfl, rfl, by simp, fun k hk hi => ?_⟩ hT.2.2
          have : b ≠ k := fun e => by
            subst e
            rcases hown with h | h
            · omega
            · exact hi h
          simp [Array.getElem?_setIfInBounds, this]
        · cases h
      · cases h
    · cases h
  · cases h
end
end Go.Ab
