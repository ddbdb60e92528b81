/-
  One text of the proof (own work): contracts of functions of the program, by the abstract machine.
-/
import Derived.Test.YtabenhkajabaeaaDoorX0
set_option linter.unusedVariables false
set_option linter.unusedSimpArgs false
namespace Go.Ab
open Go Go.RowKit
inductive AV where
  | data (d : D)
  | junk
  | nils
  | ptr (o off : Nat)
  | row (o n : Nat)
  | rref (o n i off : Nat)
  | agg (l : List AV)
  | tup (l : List AV)
  | fn (f : FuncId) (l : List AV)
  | bnd (f : FuncId) (l : List AV)
  | mref (o : Nat)
  deriving Inhabited
inductive Obj where
  | box (cs : List AV)
  | row (e : TypeId) (sz : Nat) (l : List D)
  | arr (e : TypeId) (sz n : Nat) (cs : List AV)
  | frz (l : List D)
  | map (ks vs : List D)
  | dead
def Obj.live : Obj → Bool
  | .frz _ => false
  | .dead => false
  | _ => true
def Obj.rlen : Obj → Option Nat
  | .row _ _ l => some l.length
  | .arr _ _ n _ => some n
  | .frz l => some l.length
  | _ => none
def Obj.rsz : Obj → Option Nat
  | .row _ sz _ => some sz
  | .arr _ sz _ _ => some sz
  | _ => none
def Obj.evo : Obj → Obj → Prop
  | .box _, .box _ => True
  | .row e sz l, .row e' sz' l' => e = e' ∧ sz = sz' ∧ l.length ≤ l'.length
  | .row _ _ l, .frz l' => l.length ≤ l'.length
  | .arr e sz n _, .arr e' sz' n' _ => e = e' ∧ sz = sz' ∧ n ≤ n'
  | .arr _ _ n _, .frz l' => n ≤ l'.length
  | .frz l, .frz l' => l.length ≤ l'.length
  | .map _ _, .map _ _ => True
  | _, .dead => True
  | _, _ => False
theorem Obj.evo_refl (x : Obj) : x.evo x := by cases x <;> simp [Obj.evo]
theorem Obj.evo_rlen {x x' : Obj} (h : x.evo x') {m' : Nat} (hm : x'.rlen = some m') : ∃ m, x.rlen = some m ∧ m ≤ m' := by
  cases x <;> cases x' <;> simp_all [Obj.evo, Obj.rlen]
theorem Obj.evo_rsz {x x' : Obj} (h : x.evo x') {z : Nat} (hz : x'.rsz = some z) : x.rsz = some z := by
  cases x <;> cases x' <;> simp_all [Obj.evo, Obj.rsz]
theorem Obj.evo_trans {x y z : Obj} (h : x.evo y) (k : y.evo z) : x.evo z := by
  cases x <;> cases y <;> simp only [Obj.evo] at h <;> cases z <;> simp only [Obj.evo] at k ⊢
  · exact ⟨h.1.trans k.1, h.2.1.trans k.2.1, Nat.le_trans h.2.2 k.2.2⟩
  · exact Nat.le_trans h.2.2 k
  · exact Nat.le_trans h k
  · exact ⟨h.1.trans k.1, h.2.1.trans k.2.1, Nat.le_trans h.2.2 k.2.2⟩
  · exact Nat.le_trans h.2.2 k
  · exact Nat.le_trans h k
  · exact Nat.le_trans h k
theorem Obj.evo_same {x y z : Obj} (h : x.evo y) (k : y.evo z) (he : x.rlen = z.rlen) : x.rlen = y.rlen ∧ y.rlen = z.rlen := by
  cases hz : z.rlen with
  | none =>
    rw [hz] at he
    cases hy : y.rlen with
    | none => exact ⟨he, rfl⟩
    | some m => obtain ⟨m', h1, _⟩ := Obj.evo_rlen h hy; rw [he] at h1; cases h1
  | some m =>
    obtain ⟨m1, h1, h2⟩ := Obj.evo_rlen k hz
    obtain ⟨m2, h3, h4⟩ := Obj.evo_rlen h h1
    rw [he, hz] at h3
    cases h3
    have : m1 = m := Nat.le_antisymm h2 h4
    subst this
    exact ⟨by rw [he, hz, h1], h1⟩
theorem Obj.evo_box {x : Obj} {cs : List AV} (h : x.evo (.box cs)) : ∃ cs0, x = .box cs0 := by cases x <;> simp_all [Obj.evo]
theorem Obj.evo_map {x : Obj} {ks vs : List D} (h : x.evo (.map ks vs)) : ∃ a b, x = .map a b := by cases x <;> simp_all [Obj.evo]
structure Heap where
  tab : List (Nat × Obj)
  next : Nat
def look : List (Nat × Obj) → Nat → Option Obj
  | [], _ => none
  | (k, x) :: r, o => if o = k then some x else look r o
def upd : List (Nat × Obj) → Nat → Obj → List (Nat × Obj)
  | [], o, x => [(o, x)]
  | (k, y) :: r, o, x => if o = k then (k, x) :: r else (k, y) :: upd r o x
theorem look_upd (t : List (Nat × Obj)) (o : Nat) (x : Obj) (p : Nat) : look (upd t o x) p = if p = o then some x else look t p := by
  induction t with
  | nil => simp only [upd, look]
  | cons y r ih =>
    obtain ⟨k, y⟩ := y
    simp only [upd]
    by_cases h : o = k
    · subst h
      simp only [if_true, look]
      by_cases hp : p = o <;> simp [hp]
    · simp only [if_neg h, look, ih]
      by_cases hp : p = k
      · subst hp
        simp [Ne.symm h]
      · simp [hp]
def Heap.get (H : Heap) (o : Nat) : Option Obj := look H.tab o
def Heap.set (H : Heap) (o : Nat) (x : Obj) : Heap := { H with tab := upd H.tab o x }
def Heap.ref (H : Heap) (o : Nat) : Prop := o < H.next ∨ (H.get o).isSome
theorem Heap.get_set (H : Heap) (o : Nat) (x : Obj) (p : Nat) : (H.set o x).get p = if p = o then some x else H.get p := look_upd _ _ _ _
theorem Heap.ref_set {H : Heap} {o p : Nat} {x : Obj} (h : H.ref p) : (H.set o x).ref p := by
  rcases h with h | h
  · exact .inl h
  · refine .inr ?_
    rw [Heap.get_set]
    by_cases hp : p = o <;> simp [hp, h]
def blk : Value → Option Nat
  | .pointer (some a) => some a.block
  | .slice (some a) _ _ => some a.block
  | .map (some b) => some b
  | _ => none
inductive VR (H : Heap) (θ : Nat → Value) (w : World) (B : Nat → Prop) : AV → Value → Prop where
  | data (d : D) (v : Value) (h : DR w B d v) : VR H θ w B (.data d) v
  | junk (v : Value) : VR H θ w B .junk v
  | nils : VR H θ w B .nils (.slice none 0 0)
  | ptr (o off : Nat) (v : Value) (hv : v.oneCell' = true) (hr : H.ref o) (h : ∀ cs, H.get o = some (.box cs) → ∃ b, θ o = .pointer (some ⟨b, 0, none⟩) ∧ v = .pointer (some ⟨b, off, none⟩)) : VR H θ w B (.ptr o off) v
  | row (o n : Nat) (v : Value) (hv : v.oneCell' = true) (hr : H.ref o) (h : ∀ x m, H.get o = some x → x.rlen = some m → n ≤ m ∧ (m = n → v = θ o)) : VR H θ w B (.row o n) v
  | rref (o n i off : Nat) (v : Value) (hv : v.oneCell' = true) (hr : H.ref o)
      (h : ∀ x m sz, H.get o = some x → x.rlen = some m → x.rsz = some sz → n ≤ m ∧ (m = n → ∃ g cap, θ o = .slice (some ⟨g, 0, none⟩) n cap ∧ v = .pointer (some ⟨g, i * sz + off, none⟩))) : VR H θ w B (.rref o n i off) v
  | mref (o : Nat) (v : Value) (hv : v.oneCell' = true) (hr : H.ref o) (h : ∀ ks vs, H.get o = some (.map ks vs) → v = θ o) : VR H θ w B (.mref o) v
  | agg (l : List AV) (vs : Array Value) (u : Nat → Value) (hz : vs.size = l.length) (hv : ∀ i, i < l.length → vs[i]? = some (u i) ∧ (u i).oneCell' = true)
      (h : ∀ i (hi : i < l.length), VR H θ w B (l[i]) (u i)) : VR H θ w B (.agg l) (.agg vs)
  | tup (l : List AV) (vs : Array Value) (u : Nat → Value) (hz : vs.size = l.length) (hv : ∀ i, i < l.length → vs[i]? = some (u i))
      (h : ∀ i (hi : i < l.length), VR H θ w B (l[i]) (u i)) : VR H θ w B (.tup l) (.tuple vs)
  | fn (f : FuncId) (l : List AV) (vs : Array Value) (u : Nat → Value) (hz : vs.size = l.length) (hv : ∀ i, i < l.length → vs[i]? = some (u i))
      (h : ∀ i (hi : i < l.length), VR H θ w B (l[i]) (u i)) : VR H θ w B (.fn f l) (.func (.func f) #[] vs)
  | bnd (f : FuncId) (l : List AV) (vs : Array Value) (u : Nat → Value) (hz : vs.size = l.length) (hv : ∀ i, i < l.length → vs[i]? = some (u i))
      (h : ∀ i (hi : i < l.length), VR H θ w B (l[i]) (u i)) : VR H θ w B (.bnd f l) (.func (.func f) vs #[])
structure HLe (H : Heap) (θ : Nat → Value) (H' : Heap) (θ' : Nat → Value) : Prop where
  ref : ∀ o, H.ref o → H'.ref o
  obj : ∀ o x', H.ref o → H'.get o = some x' → ∃ x, H.get o = some x ∧ x.evo x' ∧ (x.rlen = x'.rlen → θ' o = θ o)
theorem HLe.refl (H : Heap) (θ : Nat → Value) : HLe H θ H θ := ⟨fun _ h => h, fun _ x _ h => ⟨x, h, x.evo_refl, fun _ => rfl⟩⟩
theorem HLe.trans {H1 H2 H3 : Heap} {θ1 θ2 θ3 : Nat → Value} (h : HLe H1 θ1 H2 θ2) (k : HLe H2 θ2 H3 θ3) : HLe H1 θ1 H3 θ3 :=
  ⟨fun o ho => k.ref o (h.ref o ho), fun o z ho hz => by
    obtain ⟨y, hy, e2, t2⟩ := k.obj o z (h.ref o ho) hz
    obtain ⟨x, hx, e1, t1⟩ := h.obj o y ho hy
    exact ⟨x, hx, Obj.evo_trans e1 e2, fun he => by
      obtain ⟨r1, r2⟩ := Obj.evo_same e1 e2 he
      rw [t2 r2, t1 r1]⟩⟩
theorem VR.mono {H H' : Heap} {θ θ' : Nat → Value} {w w' : World} {B B' : Nat → Prop} {x : AV} {v : Value} (h : VR H θ w B x v)
    (hk : ∀ b, B b → B' b ∧ w'.heap[b]? = w.heap[b]?) (hl : HLe H θ H' θ') : VR H' θ' w' B' x v := by
  induction h with
  | data d v h => exact .data d v (h.mono hk)
  | junk v => exact .junk v
  | nils => exact .nils
  | ptr o off v hv hr h =>
    refine .ptr o off v hv (hl.ref o hr) fun cs' hcs => ?_
    obtain ⟨x, hx, he, ht⟩ := hl.obj o _ hr hcs
    obtain ⟨cs, rfl⟩ := Obj.evo_box he
    rw [ht rfl]
    exact h cs hx
  | row o n v hv hr h =>
    refine .row o n v hv (hl.ref o hr) (fun x' m' hx' hm' => ?_)
    obtain ⟨x, hx, he, ht⟩ := hl.obj o _ hr hx'
    obtain ⟨m, hm, hle⟩ := Obj.evo_rlen he hm'
    obtain ⟨h3, h4⟩ := h x m hx hm
    refine ⟨by omega, fun hn => ?_⟩
    have : m = m' := by omega
    rw [ht (by rw [hm, hm', this])]
    exact h4 (by omega)
  | rref o n i off v hv hr h =>
    refine .rref o n i off v hv (hl.ref o hr) (fun x' m' sz hx' hm' hz' => ?_)
    obtain ⟨x, hx, he, ht⟩ := hl.obj o _ hr hx'
    obtain ⟨m, hm, hle⟩ := Obj.evo_rlen he hm'
    obtain ⟨h3, h4⟩ := h x m sz hx hm (Obj.evo_rsz he hz')
    refine ⟨by omega, fun hn => ?_⟩
    have : m = m' := by omega
    rw [ht (by rw [hm, hm', this])]
    exact h4 (by omega)
  | mref o v hv hr h =>
    refine .mref o v hv (hl.ref o hr) (fun ks vs hx' => ?_)
    obtain ⟨x, hx, he, ht⟩ := hl.obj o _ hr hx'
    obtain ⟨a, b, rfl⟩ := Obj.evo_map he
    rw [ht rfl]
    exact h a b hx
  | agg l vs u hz hv _ ih => exact .agg l vs u hz hv ih
  | tup l vs u hz hv _ ih => exact .tup l vs u hz hv ih
  | fn f l vs u hz hv _ ih => exact .fn f l vs u hz hv ih
  | bnd f l vs u hz hv _ ih => exact .bnd f l vs u hz hv ih
structure Ctx where
  n0 : Nat
  Bl : Nat → Prop
  Init : Nat → Prop
  apart : ∀ b, Bl b → ¬ Init b
  base : Nat
def own (H : Heap) (θ : Nat → Value) (b : Nat) : Prop := ∃ o x, H.get o = some x ∧ x.live = true ∧ blk (θ o) = some b
def vis (c : Ctx) (H : Heap) (θ : Nat → Value) (w : World) (b : Nat) : Prop := b < w.heap.size ∧ ¬ own H θ b ∧ (b < c.n0 → c.Bl b ∨ c.Init b)
def ObjR (c : Ctx) (H : Heap) (θ : Nat → Value) (w : World) : Obj → Value → Prop
  | .box cs, v => ∃ b e vs, v = .pointer (some ⟨b, 0, none⟩) ∧ w.heap[b]? = some (.cells vs e (0, 0)) ∧ vs.size = cs.length ∧ (c.n0 ≤ b ∨ c.Init b) ∧
      ∀ i (hi : i < cs.length) u, vs[i]? = some u → VR H θ w (vis c H θ w) (cs[i]) u ∧ u.oneCell' = true
  | .row e sz l, v => 0 < sz ∧ (∀ d ∈ l, d.cells.length = sz) ∧ (∀ d ∈ flat l, d.one = true) ∧ ∃ vs, ownsM w 0 e sz v l.length vs ∧ (∀ b, blk v = some b → c.n0 ≤ b ∨ c.Init b) ∧
      ∀ i (hi : i < (flat l).length) u, vs[i]? = some u → DR w (vis c H θ w) ((flat l)[i]) u
  | .arr e sz n cs, v => 0 < sz ∧ cs.length = n * sz ∧ ∃ vs, ownsM w 0 e sz v n vs ∧ (∀ b, blk v = some b → c.n0 ≤ b ∨ c.Init b) ∧
      ∀ i (hi : i < cs.length) u, vs[i]? = some u → VR H θ w (vis c H θ w) (cs[i]) u ∧ u.oneCell' = true
  | .frz l, v => DR w (vis c H θ w) (.list l) v
  | .map ks vs, v => ∃ b clock es, v = .map (some b) ∧ w.heap[b]? = some (.map es clock) ∧ (c.n0 ≤ b ∨ c.Init b) ∧ es.size = ks.length ∧ es.size = vs.length ∧
      (∀ i (hi : i < ks.length) e, es[i]? = some e → DR w (vis c H θ w) (ks[i]) e.key) ∧ ∀ i (hi : i < vs.length) e, es[i]? = some e → DR w (vis c H θ w) (vs[i]) e.val
  | .dead, _ => True
structure HSim (c : Ctx) (H : Heap) (θ : Nat → Value) (w : World) : Prop where
  size : c.n0 ≤ w.heap.size
  objs : ∀ o x, H.get o = some x → ObjR c H θ w x (θ o)
  inj : ∀ o o' x x', H.get o = some x → H.get o' = some x' → x.live = true → x'.live = true → o ≠ o' → ∀ b, blk (θ o) = some b → blk (θ o') ≠ some b
structure St (c : Ctx) (H : Heap) (θ : Nat → Value) (w : World) (sl : List AV) (a : Act) : Prop where
  sim : HSim c H θ w
  defers : a.defers = []
  size : a.tmps.size = sl.length
  vals : ∀ (i : Nat) (x : AV) (v : Value), sl[i]? = some x → a.tmps[i]? = some v → VR H θ w (vis c H θ w) x v
structure Kept (c : Ctx) (w w' : World) : Prop where
  os : w'.os = w.os
  tape : w'.tape = w.tape
  output : w'.output = w.output
  size : w.heap.size ≤ w'.heap.size
  block : ∀ b, b < c.n0 → ¬ c.Init b → w'.heap[b]? = w.heap[b]?
theorem Kept.refl (c : Ctx) (w : World) : Kept c w w := ⟨rfl, rfl, rfl, Nat.le_refl _, fun _ _ _ => rfl⟩
theorem Kept.trans {c : Ctx} {w w1 w2 : World} (h : Kept c w w1) (k : Kept c w1 w2) : Kept c w w2 :=
  ⟨k.os.trans h.os, k.tape.trans h.tape, k.output.trans h.output, Nat.le_trans h.size k.size, fun b h1 h2 => (k.block b h1 h2).trans (h.block b h1 h2)⟩
def Heap.bnd (H : Heap) (m : Nat) : Prop := ∀ o, (H.get o).isSome → o < m
structure StW (c : Ctx) (H : Heap) (θ : Nat → Value) (w : World) (sl : List AV) (a : Act) : Prop where
  st : St c H θ w sl a
  wf : H.bnd H.next
  base : c.base ≤ H.next
def Evo (b : Nat) (H : Heap) (θ : Nat → Value) (H' : Heap) (θ' : Nat → Value) : Prop :=
  ∀ o x', o < b → H'.get o = some x' → ∃ x, H.get o = some x ∧ x.evo x' ∧ (x.rlen = x'.rlen → θ' o = θ o)
theorem Evo.refl (b : Nat) (H : Heap) (θ : Nat → Value) : Evo b H θ H θ := fun _ x _ h => ⟨x, h, x.evo_refl, fun _ => rfl⟩
theorem Evo.trans {b : Nat} {H1 H2 H3 : Heap} {θ1 θ2 θ3 : Nat → Value} (h : Evo b H1 θ1 H2 θ2) (k : Evo b H2 θ2 H3 θ3) : Evo b H1 θ1 H3 θ3 := fun o z ho hz => by
  obtain ⟨y, hy, e2, t2⟩ := k o z ho hz
  obtain ⟨x, hx, e1, t1⟩ := h o y ho hy
  exact ⟨x, hx, Obj.evo_trans e1 e2, fun he => by
    obtain ⟨r1, r2⟩ := Obj.evo_same e1 e2 he
    rw [t2 r2, t1 r1]⟩
theorem HLe.evo {b : Nat} {H H' : Heap} {θ θ' : Nat → Value} (h : HLe H θ H' θ') (hb : b ≤ H.next) : Evo b H θ H' θ' := fun o x' ho hx => h.obj o x' (.inl (by omega)) hx
def awp (P : Program) (c : Ctx) (code : Code) (Q : Exit → List AV → Heap → Prop) (sl : List AV) (H : Heap) : Prop :=
  ∀ θ w a, StW c H θ w sl a → code.wp P (fun e a' w' => ∃ sl' H' θ', Q e sl' H' ∧ StW c H' θ' w' sl' a' ∧ Kept c w w' ∧ Evo c.base H θ H' θ') a w
section
variable {P : Program} {c : Ctx} {Q : Exit → List AV → Heap → Prop} {sl : List AV} {H : Heap}
theorem awp_mono {code : Code} {Q' : Exit → List AV → Heap → Prop} (h : awp P c code Q sl H) (hq : ∀ e sl H, Q e sl H → Q' e sl H) : awp P c code Q' sl H :=
  fun θ w a hs => Go.wp_mono (h θ w a hs) fun _ _ _ ⟨sl', H', θ', q, s, k⟩ => ⟨sl', H', θ', hq _ _ _ q, s, k⟩
theorem awp_skip (h : Q .normal sl H) : awp P c .skip Q sl H := fun θ w a hs => wp_skip ⟨sl, H, θ, h, hs, Kept.refl c w, Evo.refl _ _ _⟩
theorem awp_label {l : Nat} (h : Q .normal sl H) : awp P c (.label l) Q sl H := fun θ w a hs => wp_label ⟨sl, H, θ, h, hs, Kept.refl c w, Evo.refl _ _ _⟩
theorem awp_exit {id : Nat} (h : Q (.exit id) sl H) : awp P c (.exit id) Q sl H := fun θ w a hs => wp_exit ⟨sl, H, θ, h, hs, Kept.refl c w, Evo.refl _ _ _⟩
theorem awp_ret (h : Q .ret sl H) : awp P c .ret Q sl H := fun θ w a hs => wp_ret ⟨sl, H, θ, h, hs, Kept.refl c w, Evo.refl _ _ _⟩
def thenA (K : List AV → Heap → Prop) (Q : Exit → List AV → Heap → Prop) : Exit → List AV → Heap → Prop
  | .normal, sl, H => K sl H
  | e, sl, H => Q e sl H
theorem awp_seq {x y : Code} (h : awp P c x (thenA (awp P c y Q) Q) sl H) : awp P c (.seq x y) Q sl H := by
  intro θ w a hs
  refine wp_seq (Go.wp_mono (h θ w a hs) ?_)
  rintro e a' w' ⟨sl', H', θ', q, s, k, v⟩
  cases e with
  | normal => exact Go.wp_mono (q θ' w' a' s) fun _ _ _ ⟨sl2, H2, θ2, q2, s2, k2, v2⟩ => ⟨sl2, H2, θ2, q2, s2, k.trans k2, v.trans v2⟩
  | exit id => exact ⟨sl', H', θ', q, s, k, v⟩
  | goto l => exact ⟨sl', H', θ', q, s, k, v⟩
  | ret => exact ⟨sl', H', θ', q, s, k, v⟩
  | panic ch => exact ⟨sl', H', θ', q, s, k, v⟩
  | outgrown => exact ⟨sl', H', θ', q, s, k, v⟩
def inBlockA (id : Nat) (Q : Exit → List AV → Heap → Prop) : Exit → List AV → Heap → Prop
  | .exit id', sl, H => if id' = id then Q .normal sl H else Q (.exit id') sl H
  | e, sl, H => Q e sl H
theorem awp_block {id : Nat} {x : Code} (h : awp P c x (inBlockA id Q) sl H) : awp P c (.block id x) Q sl H := by
  intro θ w a hs
  refine wp_block (Go.wp_mono (h θ w a hs) ?_)
  rintro e a' w' ⟨sl', H', θ', q, s, k⟩
  cases e with
  | exit id' =>
    simp only [Exit.inBlock, inBlockA] at q ⊢
    split
    · rename_i h1; rw [if_pos h1] at q; exact ⟨sl', H', θ', q, s, k⟩
    · rename_i h1; rw [if_neg h1] at q; exact ⟨sl', H', θ', q, s, k⟩
  | normal => exact ⟨sl', H', θ', q, s, k⟩
  | goto l => exact ⟨sl', H', θ', q, s, k⟩
  | ret => exact ⟨sl', H', θ', q, s, k⟩
  | panic ch => exact ⟨sl', H', θ', q, s, k⟩
  | outgrown => exact ⟨sl', H', θ', q, s, k⟩
end
end Go.Ab
