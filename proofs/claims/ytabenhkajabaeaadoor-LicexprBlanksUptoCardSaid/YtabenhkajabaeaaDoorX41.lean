/-
  One text of the proof (own work): contracts of functions of the program, by the abstract machine.
-/
import Derived.Test.YtabenhkajabaeaaDoorX40
import Derived.Test.YtabenhkajabaeaaDoorX31
set_option linter.unusedVariables false
set_option linter.unusedSimpArgs false
namespace Go.Ab
open Go Go.RowKit Go.Proofs Go.Shelf
set_option maxRecDepth 100000
set_option maxHeartbeats 4000000
attribute [local go_sem] Oper.semAt_some run_store_func2
theorem Bx.new (W : World) (x : LX) (ao : Option Addr) (cap : Nat) : Bx (W.alloc (.cells #[.int .i64 x.kind, .string ⟨x.name.toArray⟩, .string ⟨x.exc.toArray⟩, .slice ao x.kids.length cap] 25)) W.heap.size x ao cap := by
  have h := World.alloc_heap_new W (.cells #[.int .i64 x.kind, .string ⟨x.name.toArray⟩, .string ⟨x.exc.toArray⟩, .slice ao x.kids.length cap] 25)
  constructor <;> (unfold World.cell?; rw [h]; rfl)
theorem Bx.alloc {W : World} {b : Nat} {x : LX} {ao : Option Addr} {cap : Nat} (h : Bx W b x ao cap) (o : Go.Obj) : Bx (W.alloc o) b x ao cap := by
  have k : ∀ {a : Addr} {v : Value}, W.cell? a = some v → (W.alloc o).cell? a = some v := fun hc => by
    rw [World.cell?_of_block (w := W) (w' := W.alloc o) (Below.heap_alloc W o _ (cell_lt hc))]; exact hc
  exact ⟨k h.c0, k h.c1, k h.c2, k h.c3⟩
theorem below_own {β : Type} {n B : Nat} {w0 : World} (hn : n ≤ w0.heap.size) (hB : n ≤ B) : OwnFrom B (fun (_ : β) W => Below n w0 W) := fun _ _ _ _ hs hg hr => hs.grown hg (Nat.le_trans hn hs.size) (fun k e => Nat.le_trans hB (hr k e).1)
theorem size_calls {W : World} {B : Nat → Prop} {x : LX} {v : Value} (hB : ∀ b, B b → b < W.heap.size) (h : DR W B (eX x) v) (hbd : x.Bd 1099511627776) : Calls Tryd.prog 18 #[v] W fun e W' => e = .returned (.int .i64 x.size) ∧ Below W.heap.size W W' := by
  have hbig := hbd.z
  obtain ⟨ao, cap, rfl, _⟩ := node_inv h
  have hw1 := (Bx.new W x ao cap).alloc (.cells #[.int .i64 0] 3)
  obtain ⟨c0, c1, c2, c3⟩ := hw1
  have hf := cell_fresh (W.alloc (.cells #[.int .i64 x.kind, .string ⟨x.name.toArray⟩, .string ⟨x.exc.toArray⟩, .slice ao x.kids.length cap] 25)) (.int .i64 0) 3
  rw [World.size_alloc] at hf
  have hbx := (Bx.new ((W.alloc (.cells #[.int .i64 x.kind, .string ⟨x.name.toArray⟩, .string ⟨x.exc.toArray⟩, .slice ao x.kids.length cap] 25)).alloc (.cells #[.int .i64 0] 3)) x ao cap).alloc (.cells #[.func (.func 60) #[] #[.pointer (some ⟨W.heap.size + 1 + 1 + 1, 0, none⟩)]] 85)
  have hsf := (cell_fresh (((W.alloc (.cells #[.int .i64 x.kind, .string ⟨x.name.toArray⟩, .string ⟨x.exc.toArray⟩, .slice ao x.kids.length cap] 25)).alloc (.cells #[.int .i64 0] 3)).alloc (.cells #[.int .i64 x.kind, .string ⟨x.name.toArray⟩, .string ⟨x.exc.toArray⟩, .slice ao x.kids.length cap] 25)) (.func (.func 60) #[] #[.pointer (some ⟨W.heap.size + 1 + 1 + 1, 0, none⟩)]) 85).1
  rw [World.size_alloc, World.size_alloc] at hbx
  rw [World.size_alloc, World.size_alloc, World.size_alloc] at hsf
  have hbl : Below W.heap.size W ((((W.alloc (.cells #[.int .i64 x.kind, .string ⟨x.name.toArray⟩, .string ⟨x.exc.toArray⟩, .slice ao x.kids.length cap] 25)).alloc (.cells #[.int .i64 0] 3)).alloc (.cells #[.int .i64 x.kind, .string ⟨x.name.toArray⟩, .string ⟨x.exc.toArray⟩, .slice ao x.kids.length cap] 25)).alloc (.cells #[.func (.func 60) #[] #[.pointer (some ⟨W.heap.size + 1 + 1 + 1, 0, none⟩)]] 85)) :=
    ((((Below.refl _ W).alloc (Nat.le_refl _) _).alloc (by simp) _).alloc (by simp; omega) _).alloc (by simp; omega) _
  have hd := h.mono (B' := B) (fun b hb => ⟨hb, hbl.block b (hB b hb)⟩)
  have hbox : Boxed ((((W.alloc (.cells #[.int .i64 x.kind, .string ⟨x.name.toArray⟩, .string ⟨x.exc.toArray⟩, .slice ao x.kids.length cap] 25)).alloc (.cells #[.int .i64 0] 3)).alloc (.cells #[.int .i64 x.kind, .string ⟨x.name.toArray⟩, .string ⟨x.exc.toArray⟩, .slice ao x.kids.length cap] 25)).alloc (.cells #[.func (.func 60) #[] #[.pointer (some ⟨W.heap.size + 1 + 1 + 1, 0, none⟩)]] 85)) (W.heap.size + 1) 3 (.int .i64 0) := by
    have := ((Boxed.new (W.alloc (.cells #[.int .i64 x.kind, .string ⟨x.name.toArray⟩, .string ⟨x.exc.toArray⟩, .slice ao x.kids.length cap] 25)) 3 (.int .i64 0)).alloc (.cells #[.int .i64 x.kind, .string ⟨x.name.toArray⟩, .string ⟨x.exc.toArray⟩, .slice ao x.kids.length cap] 25)).alloc (.cells #[.func (.func 60) #[] #[.pointer (some ⟨W.heap.size + 1 + 1 + 1, 0, none⟩)]] 85)
    rwa [World.size_alloc] at this
  have hcall := @nodes_calls ((W.alloc (.cells #[.int .i64 x.kind, .string ⟨x.name.toArray⟩, .string ⟨x.exc.toArray⟩, .slice ao x.kids.length cap] 25)).alloc (.cells #[.int .i64 0] 3)) x ao cap
  simp only [World.size_alloc] at hcall
  refine (callsIn_wide (n := 6)).1 ?_
  refine callsIn_of_wp_marks Tryd.func18 rfl trivial ?_ rfl
  simp only [Tryd.ntmps18, List.size_toArray, List.length_cons, List.length_nil, Nat.reduceAdd, Nat.reduceSub, Array.replicate_succ, Array.replicate_zero, List.push_toArray, List.append_toArray, List.nil_append, List.cons_append]
  gi_wp2
  refine ⟨trivial, ?_⟩
  refine (callsIn_wide.2 hcall).mono ?_
  rintro e w' ⟨rfl, rfl⟩
  gi_wp2
  have hsz : W.heap.size + 4 ≤ ((((W.alloc (.cells #[.int .i64 x.kind, .string ⟨x.name.toArray⟩, .string ⟨x.exc.toArray⟩, .slice ao x.kids.length cap] 25)).alloc (.cells #[.int .i64 0] 3)).alloc (.cells #[.int .i64 x.kind, .string ⟨x.name.toArray⟩, .string ⟨x.exc.toArray⟩, .slice ao x.kids.length cap] 25)).alloc (.cells #[.func (.func 60) #[] #[.pointer (some ⟨W.heap.size + 1 + 1 + 1, 0, none⟩)]] 85)).heap.size := by simp
  generalize hW4 : ((((W.alloc (.cells #[.int .i64 x.kind, .string ⟨x.name.toArray⟩, .string ⟨x.exc.toArray⟩, .slice ao x.kids.length cap] 25)).alloc (.cells #[.int .i64 0] 3)).alloc (.cells #[.int .i64 x.kind, .string ⟨x.name.toArray⟩, .string ⟨x.exc.toArray⟩, .slice ao x.kids.length cap] 25)).alloc (.cells #[.func (.func 60) #[] #[.pointer (some ⟨W.heap.size + 1 + 1 + 1, 0, none⟩)]] 85)) = W4 at *
  refine wpIn_rangeFunc_ownG_of_H rfl (by omega) (gf := 61) (lb := #[.pointer (some ⟨W.heap.size + 1 + 1 + 1, 0, none⟩), .pointer (some ⟨W.heap.size + 1 + 1, 0, none⟩)]) rfl trivial (enters_of Tryd.func61 (by kernel_rfl) rfl)
    (nodes_stops (n := 6 - 1) (B := B) (cb := W.heap.size + 1) (N1 := W.heap.size) (x := x) (fun b hb => by have := hB b hb; omega) (by omega) (by omega) (by omega) (by omega) hsf hbx hd hbd) Kp.trans (fun W' l o o' hl h hc _ => (Kp.refl _ _ W').putObj (by omega) h hc o') (Below.refl _ _) (fun _ => rfl)
    (fun pre W' => Boxed W' (W.heap.size + 1) 3 (.int .i64 pre.length) ∧ Below W.heap.size W W')
    (fun _ _ _ => False)
    (((boxed_own (W.heap.size + 1) 3 (fun pre : List (Nd W4 B) => Value.int .i64 pre.length)).from _).and (below_own (Nat.le_refl _) (by omega)))
    (fun _ _ _ _ _ hs _ _ => hs)
    ⟨hbox, hbl⟩
    (fun p => { tmps := #[nodeV x ao cap, .pointer (some ⟨W.heap.size, 0, none⟩), .int .i64 0, .pointer (some ⟨W.heap.size + 1, 0, none⟩), nodeV x ao cap, .func (.func 61) #[] #[.pointer (some ⟨W.heap.size + 1 + 1 + 1, 0, none⟩), .pointer (some ⟨W.heap.size + 1 + 1, 0, none⟩)], p.v, undef, undef, undef], defers := [] }) ?assign ?body ?done ?stop (Kp.refl _ _)
  case assign =>
    intro l p W' K hK
    gi_wp2
    simpa using hK
  case body =>
    rintro l pre p W' ⟨hx, hb⟩ hlen
    have hc := hx.cell
    have hz := hx.frozen
    gi_wp2
    exact ⟨(KeepsOthers.setCell _ _ _).from _, (Kp.refl _ _ _).setCell (by omega) 0 _, by rw [List.length_append]; exact hx.set _, hb.setCell (Nat.le_succ _) _⟩
  case done =>
    rintro D ys W' hD hys ⟨hx, hb⟩ hK
    have hc := hx.cell
    gi_wp2
    refine ⟨by simp, .inl ⟨_, _, rfl, run_takeDeferred hK, ?_⟩⟩
    refine ⟨_, results_tmp rfl _ _ _, ?_, hb.trans ((Kp.refl (W.heap.size + 1) W.heap.size W').putObj (by omega) hK rfl _).b⟩
    have hl := congrArg List.length hys
    rw [List.length_map, preX_len] at hl
    rw [← hl]
    rfl
  case stop =>
    rintro D c pre W' _ _ h _
    exact h.elim
noncomputable def g_sizeP : List D → Option D := encSpec (fun x : LX => [eX x]) (fun x => x.Bd 1099511627776) (fun x => i64 x.size)
theorem g_sizeP_eq {x : LX} (hd : x.Bd 1099511627776) : g_sizeP [.agg [.int .i64 x.kind, .str x.name, .str x.exc, .list (x.kids.map eX)]] = some (i64 x.size) := by
  have e := encSpec_eq (enc := fun x : LX => [eX x]) (dom := fun x => x.Bd 1099511627776) (out := fun x : LX => i64 x.size) hd (by
    intro y hy
    simp only [List.cons.injEq, and_true] at hy
    rw [eX_inj _ _ hy])
  exact (congrArg g_sizeP (by rw [← eX_eq x])).trans e
theorem pure_one {f : FuncId} {fn : Func} {X : Type} {en : X → D} {dom : X → Prop} {out : X → Int} (hf : Tryd.prog.funcs[f]? = some fn) (hname : (fn.name == "runtime.NumGoroutine") = false) (hb : fn.body.isNone = false)
    (h : ∀ x, dom x → ∀ (W : World) (B : Nat → Prop) (v : Value), (∀ b, B b → b < W.heap.size) → DR W B (en x) v → Calls Tryd.prog f #[v] W fun e W' => e = .returned (.int .i64 (out x)) ∧ Below W.heap.size W W') : PureOK Tryd.prog f true (encSpec (fun x => [en x]) dom (fun x => i64 (out x))) := by
  intro ds d hd
  obtain ⟨x, rfl, hx, rfl⟩ := encSpec_some hd
  refine ⟨fun _ => .int _ _, fun w B vs hB hz hvs => ⟨⟨fn, hf, hname, hb⟩, ?_⟩⟩
  have hz1 : vs.size = 1 := hz
  have h0 : 0 < vs.size := by omega
  have hv := hvs 0 (by simp) (vs[0]'h0) (Array.getElem?_eq_getElem h0)
  have e : vs = #[vs[0]'h0] := Array.ext hz1 fun i h1 h2 => by
    have : i = 0 := by simp at h2; omega
    subst this
    rfl
  rw [e]
  refine (h x hx w B _ hB hv).mono ?_
  rintro e w' ⟨rfl, hb⟩
  exact ⟨_, rfl, .int _ _, hb⟩
theorem PureOK.one {f : FuncId} {fl : Bool} {g : List D → Option D} (h : PureOK Tryd.prog f fl g) {d : D} {n : Int} (hg : g [d] = some (i64 n)) {W : World} {B : Nat → Prop} {v : Value} (hB : ∀ b, B b → b < W.heap.size) (hd : DR W B d v) : Calls Tryd.prog f #[v] W fun e W' => e = .returned (.int .i64 n) ∧ Below W.heap.size W W' := by
  refine ((h _ _ hg).2 W B #[v] hB rfl (fun i hi u hu => ?_)).2.mono ?_
  · have : i = 0 := by simp at hi; omega
    subst this
    cases (show some v = some u from hu)
    exact hd
  · rintro e w' ⟨u, rfl, hu, hb⟩
    exact ⟨by rw [hu.int_eq], hb⟩
theorem f_sizeP_ok : PureOK Tryd.prog 18 true g_sizeP := pure_one Tryd.func18 (by kernel_rfl) rfl fun x hx W B v hB hv => size_calls hB hv hx
end Go.Ab
namespace Go.Ab
open Go Go.RowKit Go.Proofs Go.Shelf
set_option maxRecDepth 100000
set_option maxHeartbeats 4000000
attribute [local go_sem] Oper.semAt_some run_store_func2
def firstE : List LX → Int
  | [] => 0
  | x :: l => if nodeE x == 0 then firstE l else nodeE x
theorem firstE_append (a b : List LX) : firstE (a ++ b) = if firstE a == 0 then firstE b else firstE a := by
  induction a with
  | nil => rfl
  | cons x l ih =>
    simp only [List.cons_append, firstE, ih]
    by_cases h : nodeE x = 0
    · simp [h]
    · simp [h]
theorem firstE_preX (x : LX) : formE x = firstE (preX x) := by
  refine LX.ind (p := fun x => formE x = firstE (preX x)) (fun k n e l ih => ?_) x
  rw [formE, preX, firstE]
  congr 1
  induction l with
  | nil => rfl
  | cons y l il => rw [formsE, preXs, firstE_append, ih y (by simp), il (fun z hz => ih z (by simp [hz]))]
theorem firstE_zero {l : List LX} (h : ∀ x ∈ l, nodeE x = 0) : firstE l = 0 := by
  induction l with
  | nil => rfl
  | cons x l ih => rw [firstE, h x (by simp), ih (fun y hy => h y (by simp [hy]))]; rfl
theorem firstE_prefix {l r : List LX} (h : l <+: r) (hl : firstE l ≠ 0) : firstE r = firstE l := by
  obtain ⟨t, rfl⟩ := h
  rw [firstE_append, if_neg (by simpa using hl)]
theorem firstE_snoc {l : List LX} {x : LX} (h : firstE l = 0) : firstE (l ++ [x]) = nodeE x := by
  rw [firstE_append, h]
  simp only [firstE]
  by_cases hx : nodeE x = 0 <;> simp [hx]
theorem Bx.below {n : Nat} {A B : World} {b : Nat} {x : LX} {ao : Option Addr} {cap : Nat} (h : Bx A b x ao cap) (k : Below n A B) (hb : b < n) : Bx B b x ao cap := ⟨(k.cell (p := ⟨b, 0, none⟩) hb).trans h.c0, (k.cell (p := ⟨b, 1, none⟩) hb).trans h.c1, (k.cell (p := ⟨b, 2, none⟩) hb).trans h.c2, (k.cell (p := ⟨b, 3, none⟩) hb).trans h.c3⟩
theorem Boxed.below {n : Nat} {A B : World} {b : Nat} {t : TypeId} {v : Value} (h : Boxed A b t v) (k : Below n A B) (hb : b < n) : Boxed B b t v := (k.block b hb).trans h
theorem results16 {W' : World} {tmps : Array Value} {b : Nat} {k : Int} (hp : tmps.getD 2 undef = .pointer (some ⟨b, 0, none⟩)) (hb : Boxed W' b 26 (.int .i64 k)) : (results Tryd.f16 tmps).run Tryd.prog W' = .ok (.int .i64 k) W' := by
  have h : Tryd.f16.results = #[.cell 2 26] := rfl
  have hc := hb.cell
  have hp2 : tmps[2]?.getD undef = .pointer (some ⟨b, 0, none⟩) := by simpa using hp
  simp only [results, h]
  simp [Sem.run_bind, hp2, go_sem, hc]
theorem check_calls {W : World} {B : Nat → Prop} {x : LX} {v : Value} (hB : ∀ b, B b → b < W.heap.size) (h : DR W B (eX x) v) (hbd : x.Bd 1099511627776) : Calls Tryd.prog 16 #[v] W fun e W' => e = .returned (.int .i64 (checkE x)) ∧ Below W.heap.size W W' := by
  have hbig := hbd.z
  have hhg := x.hgt_le
  obtain ⟨ao, cap, rfl, _⟩ := node_inv h
  have hb0 : Below W.heap.size W ((W.alloc (.cells #[.int .i64 x.kind, .string ⟨x.name.toArray⟩, .string ⟨x.exc.toArray⟩, .slice ao x.kids.length cap] 25)).alloc (.cells #[.int .i64 0] 26)) := ((Below.refl _ W).alloc (Nat.le_refl _) _).alloc (by simp) _
  have hbx0 := (Bx.new W x ao cap).alloc (.cells #[.int .i64 0] 26)
  have hbo0 := Boxed.new (W.alloc (.cells #[.int .i64 x.kind, .string ⟨x.name.toArray⟩, .string ⟨x.exc.toArray⟩, .slice ao x.kids.length cap] 25)) 26 (.int .i64 0)
  rw [World.size_alloc] at hbo0
  have hz0 : W.heap.size + 2 = ((W.alloc (.cells #[.int .i64 x.kind, .string ⟨x.name.toArray⟩, .string ⟨x.exc.toArray⟩, .slice ao x.kids.length cap] 25)).alloc (.cells #[.int .i64 0] 26)).heap.size := by simp
  have hd0 := h.mono (B' := B) (fun b hb => ⟨hb, hb0.block b (hB b hb)⟩)
  have hs := (f_sizeP_ok).one ((congrArg g_sizeP (by rw [eX_eq])).trans (g_sizeP_eq hbd)) (fun b hb => by have := hB b hb; rw [← hz0]; omega) hd0
  obtain ⟨c0, c1, c2, c3⟩ := hbx0
  refine (callsIn_wide (n := 6)).1 ?_
  refine callsIn_of_wp_marks Tryd.func16 rfl trivial ?_ rfl
  simp only [Tryd.ntmps16, List.size_toArray, List.length_cons, List.length_nil, Nat.reduceAdd, Nat.reduceSub, Array.replicate_succ, Array.replicate_zero, List.push_toArray, List.append_toArray, List.nil_append, List.cons_append]
  gi_wp2
  refine ⟨trivial, ?_⟩
  refine (callsIn_wide.2 hs).mono ?_
  rintro e W1 ⟨rfl, hb1⟩
  replace hbx0 := (Bx.mk c0 c1 c2 c3).below hb1 (by omega)
  replace hbo0 : Boxed W1 (W.heap.size + 1) 26 (.int .i64 0) := Boxed.below hbo0 hb1 (by omega)
  replace hb0 := hb0.trans (hb1.mono (by omega))
  clear hs hd0 c0 c1 c2 c3
  replace hz0 : W.heap.size + 2 ≤ W1.heap.size := Nat.le_trans (Nat.le_of_eq hz0) hb1.size
  clear hb1
  obtain ⟨c0, c1, c2, c3⟩ := hbx0
  have ho := hbo0.cell
  have hof := hbo0.frozen
  by_cases hs1 : (x.size : Int) > 64
  · have hdd : decide ((x.size : Int) > 64) = true := decide_eq_true hs1
    gi_wp2
    exact ⟨_, results16 rfl (hbo0.set _), by rw [checkE, if_pos hdd], hb0.setCell (Nat.le_succ _) _⟩
  have hdd : decide ((x.size : Int) > 64) = false := decide_eq_false hs1
  have hd1 := h.mono (B' := B) (fun b hb => ⟨hb, hb0.block b (hB b hb)⟩)
  have hs := (f_depthP_ok 1099511627776).one ((congrArg (g_depthP _) (by rw [eX_eq])).trans (g_depthP_eq ⟨by omega, hbd⟩)) (fun b hb => by have := hB b hb; omega) hd1
  gi_wp2
  refine ⟨trivial, ?_⟩
  refine (callsIn_wide.2 hs).mono ?_
  rintro e W2 ⟨rfl, hb1⟩
  replace hbx0 := (Bx.mk c0 c1 c2 c3).below hb1 (by omega)
  replace hbo0 : Boxed W2 (W.heap.size + 1) 26 (.int .i64 0) := Boxed.below hbo0 hb1 (by omega)
  replace hb0 := hb0.trans (hb1.mono (by omega))
  clear hs hd1 c0 c1 c2 c3 ho hof
  replace hz0 : W.heap.size + 2 ≤ W2.heap.size := Nat.le_trans hz0 hb1.size
  clear hb1
  obtain ⟨c0, c1, c2, c3⟩ := hbx0
  have ho := hbo0.cell
  have hof := hbo0.frozen
  by_cases hs2 : (x.hgt : Int) > 24
  · have hdd2 : decide ((x.hgt : Int) > 24) = true := decide_eq_true hs2
    gi_wp2
    exact ⟨_, results16 rfl (hbo0.set _), by rw [checkE, if_neg (by rw [hdd]; decide), if_pos hdd2], hb0.setCell (Nat.le_succ _) _⟩
  have hdd2 : decide ((x.hgt : Int) > 24) = false := decide_eq_false hs2
  have hce : checkE x = formE x := by rw [checkE, if_neg (by rw [hdd]; decide), if_neg (by rw [hdd2]; decide)]
  have hcall := @nodes_calls W2 x ao cap
  gi_wp2
  refine ⟨trivial, ?_⟩
  refine (callsIn_wide.2 hcall).mono ?_
  rintro e w' ⟨rfl, rfl⟩
  clear hcall
  have hbx := (Bx.new W2 x ao cap).alloc (.cells #[.func (.func 60) #[] #[.pointer (some ⟨W2.heap.size + 1, 0, none⟩)]] 85)
  have hsf := (cell_fresh (W2.alloc (.cells #[.int .i64 x.kind, .string ⟨x.name.toArray⟩, .string ⟨x.exc.toArray⟩, .slice ao x.kids.length cap] 25)) (.func (.func 60) #[] #[.pointer (some ⟨W2.heap.size + 1, 0, none⟩)]) 85).1
  rw [World.size_alloc] at hsf
  have hb2 : Below W.heap.size W ((W2.alloc (.cells #[.int .i64 x.kind, .string ⟨x.name.toArray⟩, .string ⟨x.exc.toArray⟩, .slice ao x.kids.length cap] 25)).alloc (.cells #[.func (.func 60) #[] #[.pointer (some ⟨W2.heap.size + 1, 0, none⟩)]] 85)) := (hb0.alloc (by omega) _).alloc (by simp; omega) _
  have hd := h.mono (B' := B) (fun b hb => ⟨hb, hb2.block b (hB b hb)⟩)
  have hbox : Boxed ((W2.alloc (.cells #[.int .i64 x.kind, .string ⟨x.name.toArray⟩, .string ⟨x.exc.toArray⟩, .slice ao x.kids.length cap] 25)).alloc (.cells #[.func (.func 60) #[] #[.pointer (some ⟨W2.heap.size + 1, 0, none⟩)]] 85)) (W.heap.size + 1) 26 (.int .i64 0) := Boxed.alloc (Boxed.alloc hbo0 _) _
  have hsz : W2.heap.size + 2 ≤ ((W2.alloc (.cells #[.int .i64 x.kind, .string ⟨x.name.toArray⟩, .string ⟨x.exc.toArray⟩, .slice ao x.kids.length cap] 25)).alloc (.cells #[.func (.func 60) #[] #[.pointer (some ⟨W2.heap.size + 1, 0, none⟩)]] 85)).heap.size := by simp
  gi_wp2
  generalize hW4 : ((W2.alloc (.cells #[.int .i64 x.kind, .string ⟨x.name.toArray⟩, .string ⟨x.exc.toArray⟩, .slice ao x.kids.length cap] 25)).alloc (.cells #[.func (.func 60) #[] #[.pointer (some ⟨W2.heap.size + 1, 0, none⟩)]] 85)) = W4 at *
  clear hW4
  refine wpIn_rangeFunc_ownH rfl (by omega) (gf := 61) (lb := #[.pointer (some ⟨W2.heap.size + 1, 0, none⟩), .pointer (some ⟨W2.heap.size, 0, none⟩)]) rfl trivial (enters_of Tryd.func61 (by kernel_rfl) rfl)
    (nodes_stops (n := 6 - 1) (B := B) (cb := W.heap.size + 1) (N1 := W.heap.size) (x := x) (fun b hb => by have := hB b hb; omega) (by omega) (by omega) (by omega) (by omega) hsf hbx hd hbd) Kp.trans (fun W' l o o' hl h hc _ => (Kp.refl _ _ W').putObj (by omega) h hc o') (Below.refl _ _) (fun _ => rfl)
    (fun pre W' => Boxed W' (W.heap.size + 1) 26 (.int .i64 0) ∧ Below W.heap.size W W' ∧ Below W.heap.size W4 W' ∧ ∀ q ∈ pre, nodeE q.x = 0)
    (fun c pre W' => c = .ret ∧ ∃ e, Boxed W' (W.heap.size + 1) 26 (.int .i64 e) ∧ Below W.heap.size W W' ∧ e ≠ 0 ∧ firstE (pre.map Nd.x) = e)
    (((boxed_own (W.heap.size + 1) 26 (fun _ : List (Nd W4 B) => Value.int .i64 0)).from _).and ((below_own (Nat.le_refl _) (by omega)).and ((below_own (by omega) (by omega)).and (fun s _ _ _ hs _ _ => hs))))
    (fun c s X Y row hs hg hr => by
      obtain ⟨hc, e, h1, h2, h3, h4⟩ := hs
      exact ⟨hc, e, boxed_own (W.heap.size + 1) 26 (fun _ : Unit => Value.int .i64 e) () X Y row h1 hg (fun r e => (hr r e).2), below_own (β := Unit) (Nat.le_refl _) (show W.heap.size ≤ W4.heap.size by omega) () X Y row h2 hg hr, h3, h4⟩)
    ⟨hbox, hb2, Below.refl _ _, fun _ hq => by cases hq⟩
    (fun p a' W' => ∃ (b : Nat) (ao' : Option Addr) (cap' : Nat), p.v = nodeV p.x ao' cap' ∧ a' = { tmps := #[nodeV x ao cap, .pointer (some ⟨W.heap.size, 0, none⟩), .pointer (some ⟨W.heap.size + 1, 0, none⟩), .pointer (some ⟨b, 0, none⟩), undef, nodeV x ao cap, .int .i64 x.size, .bool false, nodeV x ao cap, .int .i64 x.hgt, .bool false, nodeV x ao cap, .func (.func 61) #[] #[.pointer (some ⟨W2.heap.size + 1, 0, none⟩), .pointer (some ⟨W2.heap.size, 0, none⟩)], nodeV p.x ao' cap', undef, undef, undef, undef, undef], defers := [] } ∧
      W'.heap[b]? = some (.cells #[.int .i64 p.x.kind, .string ⟨p.x.name.toArray⟩, .string ⟨p.x.exc.toArray⟩, .slice ao' p.x.kids.length cap'] 25))
    (fun p a' s X Y row hs hg hr => by
      obtain ⟨b, ao', cap', h1, h2, h3⟩ := hs
      exact ⟨b, ao', cap', h1, h2, (hg.block b (heap_lt h3) (fun e => by
        obtain ⟨_, o, ho, hc⟩ := hr b e.symm
        rw [h3] at ho
        cases ho
        cases hc)).trans h3⟩) ?assign ?body ?done ?stop
  case assign =>
    intro l pre p W' K hI hK
    obtain ⟨ao', cap', hv, _⟩ := node_inv p.h
    simp only [hv]
    gi_wp2
    refine hK _ _ ⟨by simp, fun k o hk ho hc => (Below.heap_alloc _ _ _ (heap_lt ho)).trans ho⟩ ((Kp.refl _ _ _).alloc (Nat.le_trans (by omega) hI.2.1.size) _) ⟨Boxed.alloc hI.1 _, hI.2.1.alloc hI.2.1.size _, hI.2.2.1.alloc hI.2.1.size _, hI.2.2.2⟩ ⟨W'.heap.size, ao', cap', hv, ?_, World.alloc_heap_new W' _⟩
    simp
  case body =>
    rintro l pre p a' W' hl hr ⟨hx, hb, hb4, hz⟩ ⟨b, ao', cap', hv, rfl, hbk⟩ hlen
    have c0 : W'.cell? ⟨b, 0, none⟩ = some (.int .i64 p.x.kind) := by unfold World.cell?; rw [hbk]; rfl
    have c1 : W'.cell? ⟨b, 1, none⟩ = some (.string ⟨p.x.name.toArray⟩) := by unfold World.cell?; rw [hbk]; rfl
    have c2 : W'.cell? ⟨b, 2, none⟩ = some (.string ⟨p.x.exc.toArray⟩) := by unfold World.cell?; rw [hbk]; rfl
    have c3 : W'.cell? ⟨b, 3, none⟩ = some (.slice ao' p.x.kids.length cap') := by unfold World.cell?; rw [hbk]; rfl
    have hdp := p.h
    rw [hv] at hdp
    have hdp2 := hdp.mono (w' := W') (B' := B) (fun k hk => ⟨hk, hb4.block k (hB k hk)⟩)
    have hcn := f_checkNode_ok.one ((congrArg g_checkNode (by rw [eX_eq])).trans (g_checkNode_eq p.bd)) (fun k hk => Nat.lt_of_lt_of_le (hB k hk) hb.size) hdp2
    clear hr
    gi_wp2
    refine ⟨trivial, ?_⟩
    refine (CallsIn.inRound l (callsIn_wide.2 hcn)).mono ?_
    rintro e W5 ⟨rfl, hb5⟩
    have hbo5 : Boxed W5 (W.heap.size + 1) 26 (.int .i64 0) := Boxed.below hx hb5 (Boxed.lt hx)
    have ho5 := hbo5.cell
    have hof5 := hbo5.frozen
    have hk5 : KeepsFrom W4.heap.size W' W5 := ⟨hb5.size, fun k o hk ho hc => (hb5.block k (heap_lt ho)).trans ho⟩
    by_cases hn : nodeE p.x = 0
    · have hn2 : (nodeE p.x != 0) = false := by simp [hn]
      gi_wp2
      exact ⟨hk5, .below hb5 (Nat.le_refl _) hb.size, hbo5, hb.trans (hb5.mono hb.size), hb4.trans (hb5.mono hb.size), fun q hq => by
        rcases List.mem_append.1 hq with hq | hq
        · exact hz q hq
        · rw [List.mem_singleton.1 hq]; exact hn⟩
    · have hn2 : (nodeE p.x != 0) = true := by simp [hn]
      gi_wp2
      exact ⟨hk5.trans ((KeepsOthers.setCell _ _ _).from _), rfl, nodeE p.x, hbo5.set _, (hb.trans (hb5.mono hb.size)).setCell (Nat.le_succ _) _, hn, by
        rw [List.map_append]
        exact firstE_snoc (firstE_zero (fun y hy => by obtain ⟨q, hq, rfl⟩ := List.mem_map.1 hy; exact hz q hq))⟩
  case done =>
    rintro D ys W' hD hys ⟨hx, hb, hb4, hz⟩ hK
    have hc := hx.cell
    have hf := hx.frozen
    gi_wp2
    have hK2 : (W'.setCell ⟨W.heap.size + 1, 0, none⟩ (.int .i64 0)).heap[D]? = some (.deferred (some [])) := (Below.heap_setCell _ _ _ _ (by simp only; omega)).trans hK
    refine ⟨by simp, .inl ⟨_, _, rfl, run_takeDeferred hK2, ?_⟩⟩
    refine ⟨_, results16 rfl ((hx.set _).kept (grownBy_putObj' _ D _) (fun e => by cases e; omega)), ?_, hb.trans (((Kp.refl (W.heap.size + 1) W.heap.size W').setCell (Nat.le_succ _) 0 _).putObj (by omega) hK2 rfl _).b⟩
    rw [hce, firstE_preX, ← hys, firstE_zero (fun y hy => by obtain ⟨q, hq, rfl⟩ := List.mem_map.1 hy; exact hz q hq)]
  case stop =>
    rintro D c pre W' hD hpre ⟨rfl, e, hx, hb, he, hf⟩ hK
    gi_wp2
    refine ⟨by simp, .inl ⟨_, _, rfl, run_takeDeferred hK, ?_⟩⟩
    refine ⟨_, results16 rfl (hx.kept (grownBy_putObj' _ D _) (fun e => by cases e; omega)), ?_, hb.trans ((Kp.refl (W.heap.size + 1) W.heap.size W').putObj (by omega) hK rfl _).b⟩
    rw [hce, firstE_preX, firstE_prefix hpre (by rw [hf]; exact he), hf]
noncomputable def g_checkP : List D → Option D := encSpec (fun x : LX => [eX x]) (fun x => x.Bd 1099511627776) (fun x => i64 (checkE x))
theorem g_checkP_eq {x : LX} (hd : x.Bd 1099511627776) : g_checkP [.agg [.int .i64 x.kind, .str x.name, .str x.exc, .list (x.kids.map eX)]] = some (i64 (checkE x)) := by
  have e := encSpec_eq (enc := fun x : LX => [eX x]) (dom := fun x => x.Bd 1099511627776) (out := fun x : LX => i64 (checkE x)) hd (by
    intro y hy
    simp only [List.cons.injEq, and_true] at hy
    rw [eX_inj _ _ hy])
  exact (congrArg g_checkP (by rw [← eX_eq x])).trans e
theorem f_checkP_ok : PureOK Tryd.prog 16 true g_checkP := pure_one Tryd.func16 (by kernel_rfl) rfl fun x hx W B v hB hv => check_calls hB hv hx
end Go.Ab
