/-
  One text of the proof (own work): contracts of functions of the program, by the abstract machine.
-/
import Derived.Test.YtlfmbcjjojedgaaGreatDoorX33
import Derived.Test.YtlfmbcjjojedgaaGreatDoorX28
import Derived.Test.YtlfmbcjjojedgaaGreatDoorX19
import Derived.Test.YtlfmbcjjojedgaaGreatDoorX32
set_option linter.unusedVariables false
set_option linter.unusedSimpArgs false
namespace Go.Ab
open Go Go.RowKit Go.Proofs Go.Shelf
set_option maxRecDepth 100000
set_option maxHeartbeats 4000000
attribute [local go_sem] Oper.semAt_some run_store_func2
theorem Bx.new (W : World) (x : LX) (ao : Option Addr) (cap : Nat) : Bx (W.alloc (.cells #[.int .i64 x.kind, .string ⟨x.name.toArray⟩, .string ⟨x.exc.toArray⟩, .slice ao x.kids.length cap] 33)) W.heap.size x ao cap := by
  have h := World.alloc_heap_new W (.cells #[.int .i64 x.kind, .string ⟨x.name.toArray⟩, .string ⟨x.exc.toArray⟩, .slice ao x.kids.length cap] 33)
  constructor <;> (unfold World.cell?; rw [h]; rfl)
theorem Bx.alloc {W : World} {b : Nat} {x : LX} {ao : Option Addr} {cap : Nat} (h : Bx W b x ao cap) (o : Go.Obj) : Bx (W.alloc o) b x ao cap := by
  have k : ∀ {a : Addr} {v : Value}, W.cell? a = some v → (W.alloc o).cell? a = some v := fun hc => by
    rw [World.cell?_of_block (w := W) (w' := W.alloc o) (Below.heap_alloc W o _ (cell_lt hc))]; exact hc
  exact ⟨k h.c0, k h.c1, k h.c2, k h.c3⟩
theorem below_own {β : Type} {n B : Nat} {w0 : World} (hn : n ≤ w0.heap.size) (hB : n ≤ B) : OwnFrom B (fun (_ : β) W => Below n w0 W) := fun _ _ _ _ hs hg hr => hs.grown hg (Nat.le_trans hn hs.size) (fun k e => Nat.le_trans hB (hr k e).1)
theorem size_calls {W : World} {B : Nat → Prop} {x : LX} {v : Value} (hB : ∀ b, B b → b < W.heap.size) (h : DR W B (eX x) v) (hbd : x.Bd 1099511627776) : Calls Tryz.prog 30 #[v] W fun e W' => e = .returned (.int .i64 x.size) ∧ Below W.heap.size W W' := by
  have hbig := hbd.z
  obtain ⟨ao, cap, rfl, _⟩ := node_inv h
  have hw1 := (Bx.new W x ao cap).alloc (.cells #[.int .i64 0] 3)
  obtain ⟨c0, c1, c2, c3⟩ := hw1
  have hf := cell_fresh (W.alloc (.cells #[.int .i64 x.kind, .string ⟨x.name.toArray⟩, .string ⟨x.exc.toArray⟩, .slice ao x.kids.length cap] 33)) (.int .i64 0) 3
  rw [World.size_alloc] at hf
  have hbx := (Bx.new ((W.alloc (.cells #[.int .i64 x.kind, .string ⟨x.name.toArray⟩, .string ⟨x.exc.toArray⟩, .slice ao x.kids.length cap] 33)).alloc (.cells #[.int .i64 0] 3)) x ao cap).alloc (.cells #[.func (.func 101) #[] #[.pointer (some ⟨W.heap.size + 1 + 1 + 1, 0, none⟩)]] 125)
  have hsf := (cell_fresh (((W.alloc (.cells #[.int .i64 x.kind, .string ⟨x.name.toArray⟩, .string ⟨x.exc.toArray⟩, .slice ao x.kids.length cap] 33)).alloc (.cells #[.int .i64 0] 3)).alloc (.cells #[.int .i64 x.kind, .string ⟨x.name.toArray⟩, .string ⟨x.exc.toArray⟩, .slice ao x.kids.length cap] 33)) (.func (.func 101) #[] #[.pointer (some ⟨W.heap.size + 1 + 1 + 1, 0, none⟩)]) 125).1
  rw [World.size_alloc, World.size_alloc] at hbx
  rw [World.size_alloc, World.size_alloc, World.size_alloc] at hsf
  have hbl : Below W.heap.size W ((((W.alloc (.cells #[.int .i64 x.kind, .string ⟨x.name.toArray⟩, .string ⟨x.exc.toArray⟩, .slice ao x.kids.length cap] 33)).alloc (.cells #[.int .i64 0] 3)).alloc (.cells #[.int .i64 x.kind, .string ⟨x.name.toArray⟩, .string ⟨x.exc.toArray⟩, .slice ao x.kids.length cap] 33)).alloc (.cells #[.func (.func 101) #[] #[.pointer (some ⟨W.heap.size + 1 + 1 + 1, 0, none⟩)]] 125)) :=
    ((((Below.refl _ W).alloc (Nat.le_refl _) _).alloc (by simp) _).alloc (by simp; omega) _).alloc (by simp; omega) _
  have hd := h.mono (B' := B) (fun b hb => ⟨hb, hbl.block b (hB b hb)⟩)
  have hbox : Boxed ((((W.alloc (.cells #[.int .i64 x.kind, .string ⟨x.name.toArray⟩, .string ⟨x.exc.toArray⟩, .slice ao x.kids.length cap] 33)).alloc (.cells #[.int .i64 0] 3)).alloc (.cells #[.int .i64 x.kind, .string ⟨x.name.toArray⟩, .string ⟨x.exc.toArray⟩, .slice ao x.kids.length cap] 33)).alloc (.cells #[.func (.func 101) #[] #[.pointer (some ⟨W.heap.size + 1 + 1 + 1, 0, none⟩)]] 125)) (W.heap.size + 1) 3 (.int .i64 0) := by
    have := ((Boxed.new (W.alloc (.cells #[.int .i64 x.kind, .string ⟨x.name.toArray⟩, .string ⟨x.exc.toArray⟩, .slice ao x.kids.length cap] 33)) 3 (.int .i64 0)).alloc (.cells #[.int .i64 x.kind, .string ⟨x.name.toArray⟩, .string ⟨x.exc.toArray⟩, .slice ao x.kids.length cap] 33)).alloc (.cells #[.func (.func 101) #[] #[.pointer (some ⟨W.heap.size + 1 + 1 + 1, 0, none⟩)]] 125)
    rwa [World.size_alloc] at this
  have hcall := @nodes_calls ((W.alloc (.cells #[.int .i64 x.kind, .string ⟨x.name.toArray⟩, .string ⟨x.exc.toArray⟩, .slice ao x.kids.length cap] 33)).alloc (.cells #[.int .i64 0] 3)) x ao cap
  simp only [World.size_alloc] at hcall
  refine (callsIn_wide (n := 6)).1 ?_
  refine callsIn_of_wp_marks Tryz.func30 rfl trivial ?_ rfl
  simp only [Tryz.ntmps30, List.size_toArray, List.length_cons, List.length_nil, Nat.reduceAdd, Nat.reduceSub, Array.replicate_succ, Array.replicate_zero, List.push_toArray, List.append_toArray, List.nil_append, List.cons_append]
  gi_wp2
  refine ⟨trivial, ?_⟩
  refine (callsIn_wide.2 hcall).mono ?_
  rintro e w' ⟨rfl, rfl⟩
  gi_wp2
  have hsz : W.heap.size + 4 ≤ ((((W.alloc (.cells #[.int .i64 x.kind, .string ⟨x.name.toArray⟩, .string ⟨x.exc.toArray⟩, .slice ao x.kids.length cap] 33)).alloc (.cells #[.int .i64 0] 3)).alloc (.cells #[.int .i64 x.kind, .string ⟨x.name.toArray⟩, .string ⟨x.exc.toArray⟩, .slice ao x.kids.length cap] 33)).alloc (.cells #[.func (.func 101) #[] #[.pointer (some ⟨W.heap.size + 1 + 1 + 1, 0, none⟩)]] 125)).heap.size := by simp
  generalize hW4 : ((((W.alloc (.cells #[.int .i64 x.kind, .string ⟨x.name.toArray⟩, .string ⟨x.exc.toArray⟩, .slice ao x.kids.length cap] 33)).alloc (.cells #[.int .i64 0] 3)).alloc (.cells #[.int .i64 x.kind, .string ⟨x.name.toArray⟩, .string ⟨x.exc.toArray⟩, .slice ao x.kids.length cap] 33)).alloc (.cells #[.func (.func 101) #[] #[.pointer (some ⟨W.heap.size + 1 + 1 + 1, 0, none⟩)]] 125)) = W4 at *
  refine wpIn_rangeFunc_ownG_of_H rfl (by omega) (gf := 102) (lb := #[.pointer (some ⟨W.heap.size + 1 + 1 + 1, 0, none⟩), .pointer (some ⟨W.heap.size + 1 + 1, 0, none⟩)]) rfl trivial (enters_of Tryz.func102 (by kernel_rfl) rfl)
    (nodes_stops (n := 6 - 1) (B := B) (cb := W.heap.size + 1) (N1 := W.heap.size) (x := x) (fun b hb => by have := hB b hb; omega) (by omega) (by omega) (by omega) (by omega) hsf hbx hd hbd) Kp.trans (fun W' l o o' hl h hc _ => (Kp.refl _ _ W').putObj (by omega) h hc o') (Below.refl _ _) (fun _ => rfl)
    (fun pre W' => Boxed W' (W.heap.size + 1) 3 (.int .i64 pre.length) ∧ Below W.heap.size W W')
    (fun _ _ _ => False)
    (((boxed_own (W.heap.size + 1) 3 (fun pre : List (Nd W4 B) => Value.int .i64 pre.length)).from _).and (below_own (Nat.le_refl _) (by omega)))
    (fun _ _ _ _ _ hs _ _ => hs)
    ⟨hbox, hbl⟩
    (fun p => { tmps := #[nodeV x ao cap, .pointer (some ⟨W.heap.size, 0, none⟩), .int .i64 0, .pointer (some ⟨W.heap.size + 1, 0, none⟩), nodeV x ao cap, .func (.func 102) #[] #[.pointer (some ⟨W.heap.size + 1 + 1 + 1, 0, none⟩), .pointer (some ⟨W.heap.size + 1 + 1, 0, none⟩)], p.v, undef, undef, undef], defers := [] }) ?assign ?body ?done ?stop (Kp.refl _ _)
  case assign =>
    intro l p W' K hK
    gi_wp2
    simpa using hK
  case body =>
    rintro l pre p W' ⟨hx, hb⟩ hlen
    have hc := hx.cell
    have hz := hx.frozen
    gi_wp2
    exact ⟨(KeepsOthers.setCell _ _ _).from _, (Kp.refl _ _ _).setCell (by omega) 0 _, by rw [List.length_append]; exact hx.set _, hb.setCell (Nat.le_succ _) _⟩
  case done =>
    rintro D ys W' hD hys ⟨hx, hb⟩ hK
    have hc := hx.cell
    gi_wp2
    refine ⟨by simp, .inl ⟨_, _, rfl, run_takeDeferred hK, ?_⟩⟩
    refine ⟨_, results_tmp rfl _ _ _, ?_, hb.trans ((Kp.refl (W.heap.size + 1) W.heap.size W').putObj (by omega) hK rfl _).b⟩
    have hl := congrArg List.length hys
    rw [List.length_map, preX_len] at hl
    rw [← hl]
    rfl
  case stop =>
    rintro D c pre W' _ _ h _
    exact h.elim
noncomputable def g_sizeP : List D → Option D := encSpec (fun x : LX => [eX x]) (fun x => x.Bd 1099511627776) (fun x => i64 x.size)
theorem g_sizeP_eq {x : LX} (hd : x.Bd 1099511627776) : g_sizeP [.agg [.int .i64 x.kind, .str x.name, .str x.exc, .list (x.kids.map eX)]] = some (i64 x.size) := by
  have e := encSpec_eq (enc := fun x : LX => [eX x]) (dom := fun x => x.Bd 1099511627776) (out := fun x : LX => i64 x.size) hd (by
    intro y hy
    simp only [List.cons.injEq, and_true] at hy
    rw [eX_inj _ _ hy])
  exact (congrArg g_sizeP (by rw [← eX_eq x])).trans e
theorem pure_one {f : FuncId} {fn : Func} {X : Type} {en : X → D} {dom : X → Prop} {out : X → Int} (hf : Tryz.prog.funcs[f]? = some fn) (hname : (fn.name == "runtime.NumGoroutine") = false) (hb : fn.body.isNone = false)
    (h : ∀ x, dom x → ∀ (W : World) (B : Nat → Prop) (v : Value), (∀ b, B b → b < W.heap.size) → DR W B (en x) v → Calls Tryz.prog f #[v] W fun e W' => e = .returned (.int .i64 (out x)) ∧ Below W.heap.size W W') : PureOK Tryz.prog f true (encSpec (fun x => [en x]) dom (fun x => i64 (out x))) := by
  intro ds d hd
  obtain ⟨x, rfl, hx, rfl⟩ := encSpec_some hd
  refine ⟨fun _ => .int _ _, fun w B vs hB hz hvs => ⟨⟨fn, hf, hname, hb⟩, ?_⟩⟩
  have hz1 : vs.size = 1 := hz
  have h0 : 0 < vs.size := by omega
  have hv := hvs 0 (by simp) (vs[0]'h0) (Array.getElem?_eq_getElem h0)
  have e : vs = #[vs[0]'h0] := Array.ext hz1 fun i h1 h2 => by
    have : i = 0 := by simp at h2; omega
    subst this
    rfl
  rw [e]
  refine (h x hx w B _ hB hv).mono ?_
  rintro e w' ⟨rfl, hb⟩
  exact ⟨_, rfl, .int _ _, hb⟩
theorem PureOK.one {f : FuncId} {fl : Bool} {g : List D → Option D} (h : PureOK Tryz.prog f fl g) {d : D} {n : Int} (hg : g [d] = some (i64 n)) {W : World} {B : Nat → Prop} {v : Value} (hB : ∀ b, B b → b < W.heap.size) (hd : DR W B d v) : Calls Tryz.prog f #[v] W fun e W' => e = .returned (.int .i64 n) ∧ Below W.heap.size W W' := by
  refine ((h _ _ hg).2 W B #[v] hB rfl (fun i hi u hu => ?_)).2.mono ?_
  · have : i = 0 := by simp at hi; omega
    subst this
    cases (show some v = some u from hu)
    exact hd
  · rintro e w' ⟨u, rfl, hu, hb⟩
    exact ⟨by rw [hu.int_eq], hb⟩
theorem f_sizeP_ok : PureOK Tryz.prog 30 true g_sizeP := pure_one Tryz.func30 (by kernel_rfl) rfl fun x hx W B v hB hv => size_calls hB hv hx
end Go.Ab
namespace Go.Ab
open Go Go.RowKit Go.Proofs Go.Shelf
set_option maxRecDepth 100000
set_option maxHeartbeats 4000000
attribute [local go_sem] Oper.semAt_some run_store_func2
def firstE : List LX → Int
  | [] => 0
  | x :: l => if nodeE x == 0 then firstE l else nodeE x
theorem firstE_append (a b : List LX) : firstE (a ++ b) = if firstE a == 0 then firstE b else firstE a := by
  induction a with
  | nil => rfl
  | cons x l ih =>
    simp only [List.cons_append, firstE, ih]
    by_cases h : nodeE x = 0
    · simp [h]
    · simp [h]
theorem firstE_preX (x : LX) : formE x = firstE (preX x) := by
  refine LX.ind (p := fun x => formE x = firstE (preX x)) (fun k n e l ih => ?_) x
  rw [formE, preX, firstE]
  congr 1
  induction l with
  | nil => rfl
  | cons y l il => rw [formsE, preXs, firstE_append, ih y (by simp), il (fun z hz => ih z (by simp [hz]))]
theorem firstE_zero {l : List LX} (h : ∀ x ∈ l, nodeE x = 0) : firstE l = 0 := by
  induction l with
  | nil => rfl
  | cons x l ih => rw [firstE, h x (by simp), ih (fun y hy => h y (by simp [hy]))]; rfl
theorem firstE_prefix {l r : List LX} (h : l <+: r) (hl : firstE l ≠ 0) : firstE r = firstE l := by
  obtain ⟨t, rfl⟩ := h
  rw [firstE_append, if_neg (by simpa using hl)]
theorem firstE_snoc {l : List LX} {x : LX} (h : firstE l = 0) : firstE (l ++ [x]) = nodeE x := by
  rw [firstE_append, h]
  simp only [firstE]
  by_cases hx : nodeE x = 0 <;> simp [hx]
theorem Bx.below {n : Nat} {A B : World} {b : Nat} {x : LX} {ao : Option Addr} {cap : Nat} (h : Bx A b x ao cap) (k : Below n A B) (hb : b < n) : Bx B b x ao cap := ⟨(k.cell (p := ⟨b, 0, none⟩) hb).trans h.c0, (k.cell (p := ⟨b, 1, none⟩) hb).trans h.c1, (k.cell (p := ⟨b, 2, none⟩) hb).trans h.c2, (k.cell (p := ⟨b, 3, none⟩) hb).trans h.c3⟩
theorem Boxed.below {n : Nat} {A B : World} {b : Nat} {t : TypeId} {v : Value} (h : Boxed A b t v) (k : Below n A B) (hb : b < n) : Boxed B b t v := (k.block b hb).trans h
theorem results16 {W' : World} {tmps : Array Value} {b : Nat} {k : Int} (hp : tmps.getD 2 undef = .pointer (some ⟨b, 0, none⟩)) (hb : Boxed W' b 34 (.int .i64 k)) : (results Tryz.f35 tmps).run Tryz.prog W' = .ok (.int .i64 k) W' := by
  have h : Tryz.f35.results = #[.cell 2 34] := rfl
  have hc := hb.cell
  have hp2 : tmps[2]?.getD undef = .pointer (some ⟨b, 0, none⟩) := by simpa using hp
  simp only [results, h]
  simp [Sem.run_bind, hp2, go_sem, hc]
theorem check_calls {W : World} {B : Nat → Prop} {x : LX} {v : Value} (hB : ∀ b, B b → b < W.heap.size) (h : DR W B (eX x) v) (hbd : x.Bd 1099511627776) : Calls Tryz.prog 35 #[v] W fun e W' => e = .returned (.int .i64 (checkE x)) ∧ Below W.heap.size W W' := by
  have hbig := hbd.z
  have hhg := x.hgt_le
  obtain ⟨ao, cap, rfl, _⟩ := node_inv h
  have hb0 : Below W.heap.size W ((W.alloc (.cells #[.int .i64 x.kind, .string ⟨x.name.toArray⟩, .string ⟨x.exc.toArray⟩, .slice ao x.kids.length cap] 33)).alloc (.cells #[.int .i64 0] 34)) := ((Below.refl _ W).alloc (Nat.le_refl _) _).alloc (by simp) _
  have hbx0 := (Bx.new W x ao cap).alloc (.cells #[.int .i64 0] 34)
  have hbo0 := Boxed.new (W.alloc (.cells #[.int .i64 x.kind, .string ⟨x.name.toArray⟩, .string ⟨x.exc.toArray⟩, .slice ao x.kids.length cap] 33)) 34 (.int .i64 0)
  rw [World.size_alloc] at hbo0
  have hz0 : W.heap.size + 2 = ((W.alloc (.cells #[.int .i64 x.kind, .string ⟨x.name.toArray⟩, .string ⟨x.exc.toArray⟩, .slice ao x.kids.length cap] 33)).alloc (.cells #[.int .i64 0] 34)).heap.size := by simp
  have hd0 := h.mono (B' := B) (fun b hb => ⟨hb, hb0.block b (hB b hb)⟩)
  have hs := (f_sizeP_ok).one ((congrArg g_sizeP (by rw [eX_eq])).trans (g_sizeP_eq hbd)) (fun b hb => by have := hB b hb; rw [← hz0]; omega) hd0
  obtain ⟨c0, c1, c2, c3⟩ := hbx0
  refine (callsIn_wide (n := 6)).1 ?_
  refine callsIn_of_wp_marks Tryz.func35 rfl trivial ?_ rfl
  simp only [Tryz.ntmps35, List.size_toArray, List.length_cons, List.length_nil, Nat.reduceAdd, Nat.reduceSub, Array.replicate_succ, Array.replicate_zero, List.push_toArray, List.append_toArray, List.nil_append, List.cons_append]
  gi_wp2
  refine ⟨trivial, ?_⟩
  refine (callsIn_wide.2 hs).mono ?_
  rintro e W1 ⟨rfl, hb1⟩
  replace hbx0 := (Bx.mk c0 c1 c2 c3).below hb1 (by omega)
  replace hbo0 : Boxed W1 (W.heap.size + 1) 34 (.int .i64 0) := Boxed.below hbo0 hb1 (by omega)
  replace hb0 := hb0.trans (hb1.mono (by omega))
  clear hs hd0 c0 c1 c2 c3
  replace hz0 : W.heap.size + 2 ≤ W1.heap.size := Nat.le_trans (Nat.le_of_eq hz0) hb1.size
  clear hb1
  obtain ⟨c0, c1, c2, c3⟩ := hbx0
  have ho := hbo0.cell
  have hof := hbo0.frozen
  by_cases hs1 : (x.size : Int) > 64
  · have hdd : decide ((x.size : Int) > 64) = true := decide_eq_true hs1
    gi_wp2
    exact ⟨_, results16 rfl (hbo0.set _), by rw [checkE, if_pos hdd], hb0.setCell (Nat.le_succ _) _⟩
  have hdd : decide ((x.size : Int) > 64) = false := decide_eq_false hs1
  have hd1 := h.mono (B' := B) (fun b hb => ⟨hb, hb0.block b (hB b hb)⟩)
  have hs := (f_depthP_ok 1099511627776).one ((congrArg (g_depthP _) (by rw [eX_eq])).trans (g_depthP_eq ⟨by omega, hbd⟩)) (fun b hb => by have := hB b hb; omega) hd1
  gi_wp2
  refine ⟨trivial, ?_⟩
  refine (callsIn_wide.2 hs).mono ?_
  rintro e W2 ⟨rfl, hb1⟩
  replace hbx0 := (Bx.mk c0 c1 c2 c3).below hb1 (by omega)
  replace hbo0 : Boxed W2 (W.heap.size + 1) 34 (.int .i64 0) := Boxed.below hbo0 hb1 (by omega)
  replace hb0 := hb0.trans (hb1.mono (by omega))
  clear hs hd1 c0 c1 c2 c3 ho hof
  replace hz0 : W.heap.size + 2 ≤ W2.heap.size := Nat.le_trans hz0 hb1.size
  clear hb1
  obtain ⟨c0, c1, c2, c3⟩ := hbx0
  have ho := hbo0.cell
  have hof := hbo0.frozen
  by_cases hs2 : (x.hgt : Int) > 24
  · have hdd2 : decide ((x.hgt : Int) > 24) = true := decide_eq_true hs2
    gi_wp2
    exact ⟨_, results16 rfl (hbo0.set _), by rw [checkE, if_neg (by rw [hdd]; decide), if_pos hdd2], hb0.setCell (Nat.le_succ _) _⟩
  have hdd2 : decide ((x.hgt : Int) > 24) = false := decide_eq_false hs2
  have hce : checkE x = formE x := by rw [checkE, if_neg (by rw [hdd]; decide), if_neg (by rw [hdd2]; decide)]
  have hcall := @nodes_calls W2 x ao cap
  gi_wp2
  refine ⟨trivial, ?_⟩
  refine (callsIn_wide.2 hcall).mono ?_
  rintro e w' ⟨rfl, rfl⟩
  clear hcall
  have hbx := (Bx.new W2 x ao cap).alloc (.cells #[.func (.func 101) #[] #[.pointer (some ⟨W2.heap.size + 1, 0, none⟩)]] 125)
  have hsf := (cell_fresh (W2.alloc (.cells #[.int .i64 x.kind, .string ⟨x.name.toArray⟩, .string ⟨x.exc.toArray⟩, .slice ao x.kids.length cap] 33)) (.func (.func 101) #[] #[.pointer (some ⟨W2.heap.size + 1, 0, none⟩)]) 125).1
  rw [World.size_alloc] at hsf
  have hb2 : Below W.heap.size W ((W2.alloc (.cells #[.int .i64 x.kind, .string ⟨x.name.toArray⟩, .string ⟨x.exc.toArray⟩, .slice ao x.kids.length cap] 33)).alloc (.cells #[.func (.func 101) #[] #[.pointer (some ⟨W2.heap.size + 1, 0, none⟩)]] 125)) := (hb0.alloc (by omega) _).alloc (by simp; omega) _
  have hd := h.mono (B' := B) (fun b hb => ⟨hb, hb2.block b (hB b hb)⟩)
  have hbox : Boxed ((W2.alloc (.cells #[.int .i64 x.kind, .string ⟨x.name.toArray⟩, .string ⟨x.exc.toArray⟩, .slice ao x.kids.length cap] 33)).alloc (.cells #[.func (.func 101) #[] #[.pointer (some ⟨W2.heap.size + 1, 0, none⟩)]] 125)) (W.heap.size + 1) 34 (.int .i64 0) := Boxed.alloc (Boxed.alloc hbo0 _) _
  have hsz : W2.heap.size + 2 ≤ ((W2.alloc (.cells #[.int .i64 x.kind, .string ⟨x.name.toArray⟩, .string ⟨x.exc.toArray⟩, .slice ao x.kids.length cap] 33)).alloc (.cells #[.func (.func 101) #[] #[.pointer (some ⟨W2.heap.size + 1, 0, none⟩)]] 125)).heap.size := by simp
  gi_wp2
  generalize hW4 : ((W2.alloc (.cells #[.int .i64 x.kind, .string ⟨x.name.toArray⟩, .string ⟨x.exc.toArray⟩, .slice ao x.kids.length cap] 33)).alloc (.cells #[.func (.func 101) #[] #[.pointer (some ⟨W2.heap.size + 1, 0, none⟩)]] 125)) = W4 at *
  clear hW4
  refine wpIn_rangeFunc_ownH rfl (by omega) (gf := 102) (lb := #[.pointer (some ⟨W2.heap.size + 1, 0, none⟩), .pointer (some ⟨W2.heap.size, 0, none⟩)]) rfl trivial (enters_of Tryz.func102 (by kernel_rfl) rfl)
    (nodes_stops (n := 6 - 1) (B := B) (cb := W.heap.size + 1) (N1 := W.heap.size) (x := x) (fun b hb => by have := hB b hb; omega) (by omega) (by omega) (by omega) (by omega) hsf hbx hd hbd) Kp.trans (fun W' l o o' hl h hc _ => (Kp.refl _ _ W').putObj (by omega) h hc o') (Below.refl _ _) (fun _ => rfl)
    (fun pre W' => Boxed W' (W.heap.size + 1) 34 (.int .i64 0) ∧ Below W.heap.size W W' ∧ Below W.heap.size W4 W' ∧ ∀ q ∈ pre, nodeE q.x = 0)
    (fun c pre W' => c = .ret ∧ ∃ e, Boxed W' (W.heap.size + 1) 34 (.int .i64 e) ∧ Below W.heap.size W W' ∧ e ≠ 0 ∧ firstE (pre.map Nd.x) = e)
    (((boxed_own (W.heap.size + 1) 34 (fun _ : List (Nd W4 B) => Value.int .i64 0)).from _).and ((below_own (Nat.le_refl _) (by omega)).and ((below_own (by omega) (by omega)).and (fun s _ _ _ hs _ _ => hs))))
    (fun c s X Y row hs hg hr => by
      obtain ⟨hc, e, h1, h2, h3, h4⟩ := hs
      exact ⟨hc, e, boxed_own (W.heap.size + 1) 34 (fun _ : Unit => Value.int .i64 e) () X Y row h1 hg (fun r e => (hr r e).2), below_own (β := Unit) (Nat.le_refl _) (show W.heap.size ≤ W4.heap.size by omega) () X Y row h2 hg hr, h3, h4⟩)
    ⟨hbox, hb2, Below.refl _ _, fun _ hq => by cases hq⟩
    (fun p a' W' => ∃ (b : Nat) (ao' : Option Addr) (cap' : Nat), p.v = nodeV p.x ao' cap' ∧ a' = { tmps := #[nodeV x ao cap, .pointer (some ⟨W.heap.size, 0, none⟩), .pointer (some ⟨W.heap.size + 1, 0, none⟩), .pointer (some ⟨b, 0, none⟩), undef, nodeV x ao cap, .int .i64 x.size, .bool false, nodeV x ao cap, .int .i64 x.hgt, .bool false, nodeV x ao cap, .func (.func 102) #[] #[.pointer (some ⟨W2.heap.size + 1, 0, none⟩), .pointer (some ⟨W2.heap.size, 0, none⟩)], nodeV p.x ao' cap', undef, undef, undef, undef, undef], defers := [] } ∧
      W'.heap[b]? = some (.cells #[.int .i64 p.x.kind, .string ⟨p.x.name.toArray⟩, .string ⟨p.x.exc.toArray⟩, .slice ao' p.x.kids.length cap'] 33))
    (fun p a' s X Y row hs hg hr => by
      obtain ⟨b, ao', cap', h1, h2, h3⟩ := hs
      exact ⟨b, ao', cap', h1, h2, (hg.block b (heap_lt h3) (fun e => by
        obtain ⟨_, o, ho, hc⟩ := hr b e.symm
        rw [h3] at ho
        cases ho
        cases hc)).trans h3⟩) ?assign ?body ?done ?stop
  case assign =>
    intro l pre p W' K hI hK
    obtain ⟨ao', cap', hv, _⟩ := node_inv p.h
    simp only [hv]
    gi_wp2
    refine hK _ _ ⟨by simp, fun k o hk ho hc => (Below.heap_alloc _ _ _ (heap_lt ho)).trans ho⟩ ((Kp.refl _ _ _).alloc (Nat.le_trans (by omega) hI.2.1.size) _) ⟨Boxed.alloc hI.1 _, hI.2.1.alloc hI.2.1.size _, hI.2.2.1.alloc hI.2.1.size _, hI.2.2.2⟩ ⟨W'.heap.size, ao', cap', hv, ?_, World.alloc_heap_new W' _⟩
    simp
  case body =>
    rintro l pre p a' W' hl hr ⟨hx, hb, hb4, hz⟩ ⟨b, ao', cap', hv, rfl, hbk⟩ hlen
    have c0 : W'.cell? ⟨b, 0, none⟩ = some (.int .i64 p.x.kind) := by unfold World.cell?; rw [hbk]; rfl
    have c1 : W'.cell? ⟨b, 1, none⟩ = some (.string ⟨p.x.name.toArray⟩) := by unfold World.cell?; rw [hbk]; rfl
    have c2 : W'.cell? ⟨b, 2, none⟩ = some (.string ⟨p.x.exc.toArray⟩) := by unfold World.cell?; rw [hbk]; rfl
    have c3 : W'.cell? ⟨b, 3, none⟩ = some (.slice ao' p.x.kids.length cap') := by unfold World.cell?; rw [hbk]; rfl
    have hdp := p.h
    rw [hv] at hdp
    have hdp2 := hdp.mono (w' := W') (B' := B) (fun k hk => ⟨hk, hb4.block k (hB k hk)⟩)
    have hcn := f_checkNode_ok.one ((congrArg g_checkNode (by rw [eX_eq])).trans (g_checkNode_eq p.bd)) (fun k hk => Nat.lt_of_lt_of_le (hB k hk) hb.size) hdp2
    clear hr
    gi_wp2
    refine ⟨trivial, ?_⟩
    refine (CallsIn.inRound l (callsIn_wide.2 hcn)).mono ?_
    rintro e W5 ⟨rfl, hb5⟩
    have hbo5 : Boxed W5 (W.heap.size + 1) 34 (.int .i64 0) := Boxed.below hx hb5 (Boxed.lt hx)
    have ho5 := hbo5.cell
    have hof5 := hbo5.frozen
    have hk5 : KeepsFrom W4.heap.size W' W5 := ⟨hb5.size, fun k o hk ho hc => (hb5.block k (heap_lt ho)).trans ho⟩
    by_cases hn : nodeE p.x = 0
    · have hn2 : (nodeE p.x != 0) = false := by simp [hn]
      gi_wp2
      exact ⟨hk5, .below hb5 (Nat.le_refl _) hb.size, hbo5, hb.trans (hb5.mono hb.size), hb4.trans (hb5.mono hb.size), fun q hq => by
        rcases List.mem_append.1 hq with hq | hq
        · exact hz q hq
        · rw [List.mem_singleton.1 hq]; exact hn⟩
    · have hn2 : (nodeE p.x != 0) = true := by simp [hn]
      gi_wp2
      exact ⟨hk5.trans ((KeepsOthers.setCell _ _ _).from _), rfl, nodeE p.x, hbo5.set _, (hb.trans (hb5.mono hb.size)).setCell (Nat.le_succ _) _, hn, by
        rw [List.map_append]
        exact firstE_snoc (firstE_zero (fun y hy => by obtain ⟨q, hq, rfl⟩ := List.mem_map.1 hy; exact hz q hq))⟩
  case done =>
    rintro D ys W' hD hys ⟨hx, hb, hb4, hz⟩ hK
    have hc := hx.cell
    have hf := hx.frozen
    gi_wp2
    have hK2 : (W'.setCell ⟨W.heap.size + 1, 0, none⟩ (.int .i64 0)).heap[D]? = some (.deferred (some [])) := (Below.heap_setCell _ _ _ _ (by simp only; omega)).trans hK
    refine ⟨by simp, .inl ⟨_, _, rfl, run_takeDeferred hK2, ?_⟩⟩
    refine ⟨_, results16 rfl ((hx.set _).kept (grownBy_putObj' _ D _) (fun e => by cases e; omega)), ?_, hb.trans (((Kp.refl (W.heap.size + 1) W.heap.size W').setCell (Nat.le_succ _) 0 _).putObj (by omega) hK2 rfl _).b⟩
    rw [hce, firstE_preX, ← hys, firstE_zero (fun y hy => by obtain ⟨q, hq, rfl⟩ := List.mem_map.1 hy; exact hz q hq)]
  case stop =>
    rintro D c pre W' hD hpre ⟨rfl, e, hx, hb, he, hf⟩ hK
    gi_wp2
    refine ⟨by simp, .inl ⟨_, _, rfl, run_takeDeferred hK, ?_⟩⟩
    refine ⟨_, results16 rfl (hx.kept (grownBy_putObj' _ D _) (fun e => by cases e; omega)), ?_, hb.trans ((Kp.refl (W.heap.size + 1) W.heap.size W').putObj (by omega) hK rfl _).b⟩
    rw [hce, firstE_preX, firstE_prefix hpre (by rw [hf]; exact he), hf]
noncomputable def g_checkP : List D → Option D := encSpec (fun x : LX => [eX x]) (fun x => x.Bd 1099511627776) (fun x => i64 (checkE x))
theorem g_checkP_eq {x : LX} (hd : x.Bd 1099511627776) : g_checkP [.agg [.int .i64 x.kind, .str x.name, .str x.exc, .list (x.kids.map eX)]] = some (i64 (checkE x)) := by
  have e := encSpec_eq (enc := fun x : LX => [eX x]) (dom := fun x => x.Bd 1099511627776) (out := fun x : LX => i64 (checkE x)) hd (by
    intro y hy
    simp only [List.cons.injEq, and_true] at hy
    rw [eX_inj _ _ hy])
  exact (congrArg g_checkP (by rw [← eX_eq x])).trans e
theorem f_checkP_ok : PureOK Tryz.prog 35 true g_checkP := pure_one Tryz.func35 (by kernel_rfl) rfl fun x hx W B v hB hv => check_calls hB hv hx
end Go.Ab
namespace Go.Ab
open Go Go.RowKit Go.Proofs
set_option maxRecDepth 10000
set_option maxHeartbeats 8000000
def fmtX (x : LX) : List UInt8 × Int := if checkE x != 0 then ([], checkE x) else (textX x, 0)
def eFmt (p : List UInt8 × Int) : D := .tup [.str p.1, i64 p.2]
theorem check_ok {x : LX} (h : checkE x = 0) : x.size ≤ 64 ∧ x.hgt ≤ 24 ∧ formE x = 0 := by
  unfold checkE at h
  split at h
  · cases h
  · rename_i h1
    split at h
    · cases h
    · rename_i h2
      simp only [decide_eq_true_eq] at h1 h2
      exact ⟨by omega, by omega, h⟩
noncomputable def g_fmtP : List D → Option D := encSpec (fun x : LX => [eX x]) (fun x : LX => x.Bd 1099511627776) (fun x : LX => eFmt (fmtX x))
theorem g_fmtP_eq {x : LX} (hd : x.Bd 1099511627776) : g_fmtP [.agg [.int .i64 x.kind, .str x.name, .str x.exc, .list (x.kids.map eX)]] = some (eFmt (fmtX x)) := by
  have e : g_fmtP [eX x] = some (eFmt (fmtX x)) := encSpec_eq (x := x) hd fun y hy => by
    simp only [List.cons.injEq, and_true, true_and, D.str.injEq, D.int.injEq, D.list.injEq, D.bool.injEq, D.agg.injEq, D.clo.injEq, Int.natCast_inj, inj_ie, lx_ie] at hy
    rw [hy]
  exact (congrArg (g_fmtP) (by rw [← eX_eq x])).trans e
theorem f_fmtP_ok : PureOK Tryz.prog 31 false g_fmtP := by
  have hΓ := Γp f_checkP_ok (Γp (f_textP_ok 24) (Γn))
  refine pure_enc (n := 12) (rs := [.tmp 2, .tmp 3]) Tryz.func31 (by kernel_rfl) rfl (by kernel_rfl) (by kernel_rfl) ?_
  rintro x hd
  (try dsimp only at hd ⊢)
  refine ⟨fun h => (by cases h), fun k hz0 => ?_⟩
  have e1 := g_checkP_eq hd
  unfold fmtX
  rw [start_frame (by simp)]; simp only [enumV, go_sem, emptyH]
  by_cases hc : checkE x = 0
  · obtain ⟨h1, h2, h3⟩ := check_ok hc
    have e2 := g_textP_eq (h := 24) (x := x) ⟨h2, hd, by omega, h3⟩
    have hcb : (checkE x != 0) = false := by rw [hc]; rfl
    rw [hcb]
    generalize checkE x = ce at *
    repeat (first
      | (apply axJ; (focus ((with_reducible constructor) <;> rfl)))
      | (apply awT mixedOK hΓ (by kernel_rfl); (simp (disch := omega) only [go_sem, ↓reduceIte, dk, hcb, e1, e2] <;> with_reducible rfl))
      | ((first | apply awR hΓ | apply awG | apply awH mixedOK hΓ rfl (by kernel_rfl) | apply ovE rfl); (simp (disch := omega) only [go_sem, ↓reduceIte, dk, hcb, e1, e2] <;> with_reducible rfl); exact trivial)
      | rfl)
    try rfl
  · have hcb : (checkE x != 0) = true := by simpa [bne] using hc
    rw [hcb]
    generalize checkE x = ce at *
    repeat (first
      | (apply axJ; (focus ((with_reducible constructor) <;> rfl)))
      | (apply awT mixedOK hΓ (by kernel_rfl); (simp (disch := omega) only [go_sem, ↓reduceIte, dk, hcb, e1] <;> with_reducible rfl))
      | ((first | apply awR hΓ | apply awG | apply awH mixedOK hΓ rfl (by kernel_rfl) | apply ovE rfl); (simp (disch := omega) only [go_sem, ↓reduceIte, dk, hcb, e1] <;> with_reducible rfl); exact trivial)
      | rfl)
    try rfl
end Go.Ab
namespace Go.Ab
open Go Go.RowKit Go.Proofs
set_option maxRecDepth 10000
set_option maxHeartbeats 4000000
def wordK (k : Int) : List UInt8 := if k == 3 then wOr else wAnd
mutual
def tks : LX → List Tk
  | .mk k n e l => if k == 0 then (if !(e == []) then [.w n, .w wWith, .w e] else [.w n]) else if k == 1 then [.w n, .p 43] else joinK (wordK k) (tkss k l)
def tkss (k : Int) : List LX → List (List Tk)
  | [] => []
  | x :: l => (if par k x then par1 (tks x) else tks x) :: tkss k l
end
end Go.Ab
namespace Go.Ab
open Go Go.RowKit Go.Proofs
set_option maxRecDepth 10000
set_option maxHeartbeats 4000000
def FormR (r : Res) : Prop := r.err = 0 → formE r.expr = 0
theorem formsE_all {l : List LX} (h : ∀ y ∈ l, formE y = 0) : formsE l = 0 := by
  induction l with
  | nil => rfl
  | cons y l ih => rw [formsE, if_pos (by rw [h y (by simp)]; rfl)]; exact ih fun z hz => h z (by simp [hz])
theorem form_list {k : Int} (hk : k = 2 ∨ k = 3) {l : List LX} (hl : 2 ≤ l.length) (h : ∀ y ∈ l, formE y = 0) : formE (.mk k [] [] l) = 0 := by
  have hn : nodeE (.mk k [] [] l) = 0 := by
    rw [nodeE_form]
    rcases hk with rfl | rfl
    · have e : decide (((LX.mk 2 [] [] l).kids.length : Int) < 2) = false := decide_eq_false (by show ¬ (l.length : Int) < 2; omega)
      rw [e]
      rfl
    · have e : decide (((LX.mk 3 [] [] l).kids.length : Int) < 2) = false := decide_eq_false (by show ¬ (l.length : Int) < 2; omega)
      rw [e]
      rfl
  rw [formE_eq, if_pos (by rw [hn]; rfl)]
  exact formsE_all h
theorem form_leaf {k : Int} {n e : List UInt8} (hk : k = 0 ∨ k = 1) (hn : isNameB n = true) (he : e = [] ∨ (k = 0 ∧ isNameB e = true)) : formE (.mk k n e []) = 0 := by
  have h : nodeE (.mk k n e []) = 0 := by
    rw [nodeE_form]
    show nodeF (decide (k < 0)) (decide (k > 3)) (decide (k ≥ 2)) (k == 1) (n == []) (e == []) (decide (((([] : List LX).length : Nat) : Int) > 0)) (decide (((([] : List LX).length : Nat) : Int) < 2)) (isNameB n) (isNameB e) = 0
    rw [hn]
    rcases hk with rfl | rfl
    · rcases he with rfl | ⟨_, he⟩
      · rfl
      · rw [he]
        generalize (n == []) = a
        generalize (e == []) = b
        cases a <;> cases b <;> rfl
    · rcases he with rfl | ⟨h, _⟩
      · rfl
      · cases h
  rw [formE_eq, if_pos (by rw [h]; rfl)]
  rfl
theorem form_name (s : List UInt8) (a : Nat) : (rName s a).err = 0 → ∃ w, isNameB w = true ∧ (rName s a).expr = .mk 0 w [] [] := by
  unfold rName
  split
  · intro h; exact absurd (show (4 : Int) = 0 from h) (by decide)
  · split
    · intro h; exact absurd (show (2 : Int) = 0 from h) (by decide)
    · rename_i h
      intro _
      exact ⟨_, by simpa using h, rfl⟩
theorem form_loop {part : Nat → Res} {s : List UInt8} {kind : Int} {bw : List UInt8} (hk : kind = 2 ∨ kind = 3) (hp : ∀ a, FormR (part a)) : ∀ (n a : Nat) (acc : List LX), (∀ y ∈ acc, formE y = 0) → FormR (rLoop part s kind bw n a acc) := by
  intro n
  induction n with
  | zero => intro a acc _ h; exact absurd (show (4 : Int) = 0 from h) (by decide)
  | succ n ih =>
    intro a acc hacc
    have hpa := hp a
    rw [rLoop]
    generalize part a = r at *
    split
    · exact hpa
    · rename_i he
      have he : r.err = 0 := by simpa using he
      have hall : ∀ y ∈ acc ++ [r.expr], formE y = 0 := fun y hy => by
        rcases List.mem_append.1 hy with hy | hy
        · exact hacc y hy
        · rw [List.mem_singleton.1 hy]; exact hpa he
      split
      · exact ih _ _ hall
      · split
        · intro _; exact hpa he
        · rename_i hne
          intro _
          refine form_list hk ?_ hall
          have : acc.length ≠ 0 := by simpa using hne
          simp only [List.length_append, List.length_cons, List.length_nil]
          omega
theorem form_atomF {s : List UInt8} {inner : Option (Nat → Res)} (hp : ∀ f, inner = some f → ∀ a, FormR (f a)) (a : Nat) : FormR (rAtomF s inner a) := by
  unfold rAtomF
  generalize skipN s a = b
  split
  · cases inner with
    | none => intro h; exact absurd (show (11 : Int) = 0 from h) (by decide)
    | some f =>
      have h := hp f rfl (b + 1)
      dsimp only
      generalize f (b + 1) = r at *
      split
      · exact h
      · split
        · rename_i he _
          intro _
          exact h (by simpa using he)
        · intro h; exact absurd (show (4 : Int) = 0 from h) (by decide)
  · have h := form_name s b
    generalize rName s b = r at *
    split
    · rename_i he
      intro h0
      rw [h0] at he
      exact absurd he (by decide)
    · rename_i he
      obtain ⟨w, h1, h2⟩ := h (by simpa using he)
      split
      · intro _
        rw [h2]
        exact form_leaf (.inr rfl) h1 (.inl rfl)
      · split
        · have h3 := form_name s (skipN s r.at' + 4)
          generalize rName s (skipN s r.at' + 4) = q at *
          split
          · rename_i hq
            intro h0
            rw [h0] at hq
            exact absurd hq (by decide)
          · rename_i hq
            obtain ⟨w2, h4, h5⟩ := h3 (by simpa using hq)
            intro _
            rw [h2, h5]
            exact form_leaf (.inl rfl) h1 (.inr ⟨rfl, h4⟩)
        · intro _
          rw [h2]
          exact form_leaf (.inl rfl) h1 (.inl rfl)
theorem form_ands {s : List UInt8} {atom : Nat → Res} (h : ∀ a, FormR (atom a)) (a : Nat) : FormR (rAnds s atom a) := form_loop (.inl rfl) h _ _ _ (fun y hy => by cases hy)
theorem form_ors {s : List UInt8} {atom : Nat → Res} (h : ∀ a, FormR (atom a)) (a : Nat) : FormR (rOrs s atom a) := form_loop (.inr rfl) (form_ands h) _ _ _ (fun y hy => by cases hy)
theorem form_atom {s : List UInt8} : ∀ d a : Nat, FormR (rAtom s d a)
  | 0, a => form_atomF (fun f h => by cases h) a
  | d + 1, a => form_atomF (fun f h => by cases h; exact form_ors (form_atom d)) a
theorem parse_form {s : List UInt8} {x : LX} {a e : Int} (h : pParse s = (x, a, e)) : (e ≠ 0 → x = x0) ∧ (e = 0 → checkE x = 0 ∧ x.Bd 1099511627776) := by
  obtain ⟨h1, h2⟩ := parse_rel s
  by_cases he : (rParse s).err = 0
  · obtain ⟨h3, h4⟩ := h2 he
    rw [h] at h3
    simp only [Prod.mk.injEq] at h3
    obtain ⟨rfl, rfl, rfl⟩ := h3
    refine ⟨fun h => absurd rfl h, fun _ => ⟨?_, h4⟩⟩
    clear h1 h2 h4 h
    unfold rParse at he ⊢
    split at he
    · exact absurd (show (10 : Int) = 0 from he) (by decide)
    · rename_i c1
      rw [if_neg c1]
      split at he
      · rename_i c2
        rw [he] at c2
        exact absurd c2 (by decide)
      · rename_i c2
        rw [if_neg c2]
        split at he
        · exact absurd (show (4 : Int) = 0 from he) (by decide)
        · rename_i c3
          rw [if_neg c3]
          split at he
          · exact absurd (show (10 : Int) = 0 from he) (by decide)
          · rename_i c4
            rw [if_neg c4]
            split at he
            · exact absurd (show (11 : Int) = 0 from he) (by decide)
            · rename_i c5
              rw [if_neg c5]
              unfold checkE
              rw [if_neg c4, if_neg c5]
              exact form_ors (form_atom 24) 0 (by simpa using c2)
  · rw [h1 he] at h
    simp only [Prod.mk.injEq] at h
    obtain ⟨rfl, _, rfl⟩ := h
    exact ⟨fun _ => rfl, fun h => absurd h he⟩
end Go.Ab
