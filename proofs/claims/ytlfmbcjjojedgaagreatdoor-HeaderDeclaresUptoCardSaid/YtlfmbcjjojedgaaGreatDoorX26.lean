/-
  One text of the proof (own work): contracts of functions of the program, by the abstract machine.
-/
import Derived.Test.YtlfmbcjjojedgaaGreatDoorX25
import Derived.Test.YtlfmbcjjojedgaaGreatDoorX22
import Derived.Test.YtlfmbcjjojedgaaGreatDoorX17
set_option linter.unusedVariables false
set_option linter.unusedSimpArgs false
namespace Go.Ab
open Go Go.RowKit Go.Proofs Go.Shelf
set_option maxRecDepth 100000
set_option maxHeartbeats 4000000
attribute [local go_sem] Oper.semAt_some
theorem own_calls {P : Program} {f : FuncId} {fn : Func} {X : Type} {enc : X → List D} {dom : X → Prop} {t : TypeId} {sz : Nat} {out : X → List D} (hf : P.funcs[f]? = some fn) (hname : (fn.name == "runtime.NumGoroutine") = false) (hb : fn.body.isNone = false) (hsz : 0 < sz)
    (hall : ∀ x, elemsOK sz (out x) = true ∧ (flat (out x)).all D.scalar = true)
    (h : ∀ x, dom x → ∀ (w : World) (B : Nat → Prop) (vs : Array Value), (∀ b, B b → b < w.heap.size) → vs.size = (enc x).length → (∀ i (hi : i < (enc x).length) u, vs[i]? = some u → DR w B ((enc x)[i]) u) →
      Calls P f vs w fun e w' => ∃ v base, e = .returned v ∧ w.heap.size ≤ base ∧ w'.ownsRow base t sz v (out x).length ((flat (out x)).map D.val) ∧ Below w.heap.size w w') : OwnOK P f (encSpec enc dom fun x => (t, sz, out x)) := by
  intro ds e sz' l hd
  obtain ⟨x, rfl, hx, hxo⟩ := encSpec_some hd
  cases hxo
  obtain ⟨h1, h2⟩ := hall x
  obtain ⟨h3, h4⟩ := elemsOK_spec h1
  refine ⟨hsz, h3, h4, fun w B vs hB hz hvs => ⟨⟨fn, hf, hname, hb⟩, (h x hx w B vs hB hz hvs).mono ?_⟩⟩
  rintro e' w' ⟨v, base, rfl, hbase, hrow, hbl⟩
  refine ⟨v, rfl, ⟨_, ownsRow_base (.of hrow) hbase, fun i hi u hu => ?_⟩, hbl⟩
  rw [List.getElem?_map, List.getElem?_eq_getElem hi] at hu
  simp only [Option.map_some, Option.some.injEq] at hu
  subst hu
  exact scalar_reads (List.all_eq_true.1 h2 _ (List.getElem_mem hi))
def eHd (h : Hd) : D := .agg [i64 h.kind, i64 h.line, .str h.text]
@[go_sem] theorem eHd_eq (h : Hd) : eHd h = .agg [i64 h.kind, i64 h.line, .str h.text] := rfl
theorem eHd_inj (a b : Hd) (h : eHd a = eHd b) : a = b := by
  obtain ⟨a1, a2, a3⟩ := a
  obtain ⟨b1, b2, b3⟩ := b
  simp only [eHd, D.agg.injEq, List.cons.injEq, D.int.injEq, D.str.injEq, true_and, and_true] at h
  obtain ⟨rfl, rfl, rfl⟩ := h
  rfl
theorem eHd_ie (a b : List Hd) : (a.map eHd = b.map eHd) = (a = b) := map_ie eHd_inj a b
@[go_sem] theorem elemsOK_hd (l : List Hd) : elemsOK 3 (l.map eHd) = true := elemsOK_map (f := eHd) (fun _ => ⟨by rfl, by rfl⟩) l
theorem hdV_flat (l : List Hd) : (flat (l.map eHd)).map D.val = l.flatMap hdV := by
  induction l with
  | nil => rfl
  | cons h l ih =>
    rw [List.map_cons, flat_cons, List.map_append, ih, List.flatMap_cons]
    rfl
theorem eHd_scalar (l : List Hd) : (flat (l.map eHd)).all D.scalar = true := by
  induction l with
  | nil => rfl
  | cons h l ih =>
    rw [List.map_cons, flat_cons, List.all_append, ih]
    rfl
noncomputable def g_scan : List D → Option (TypeId × Nat × List D) := encSpec (fun s : Bs => [.str s]) (fun s => s.length ≤ 1000000000) (fun s => (26, 3, (scanB s).map eHd))
theorem g_scan_eq {s : Bs} (h : s.length ≤ 1000000000) : g_scan [.str s] = some (26, 3, (scanB s).map eHd) := encSpec_eq (x := s) h fun y hy => by
  simp only [List.cons.injEq, and_true, D.str.injEq] at hy
  rw [hy]
theorem f_scan_ok : OwnOK Tryz.prog 13 g_scan := own_calls Tryz.func13 (by kernel_rfl) (by kernel_rfl) (by decide) (fun x => ⟨elemsOK_hd _, eHd_scalar _⟩) fun s hs w B vs hB hz hvs => by
  have hz1 : vs.size = 1 := hz
  have h0 := hvs 0 (by simp) (vs[0]'(by omega)) (Array.getElem?_eq_getElem _)
  have e : vs = #[vs[0]'(by omega)] := Array.ext hz1 fun i i1 i2 => by
    match i, i2 with
    | 0, _ => rfl
  have e0 : vs[0]'(by omega) = .string ⟨s.toArray⟩ := DR.str_eq h0
  rw [e, e0]
  refine (scan_calls hs).mono ?_
  rintro e w' ⟨v, rfl, h1, h2⟩
  exact ⟨v, w.heap.size + 2, rfl, by omega, by rw [hdV_flat, List.length_map]; exact h1, h2⟩
def withP (d : Hd → Bool) (l : List (Nat × Bs)) : List Bs := (l.filter fun p => !((hdB p.1 p.2).2 && d (hdB p.1 p.2).1)).map Prod.snd
theorem withP_snoc (d : Hd → Bool) (l : List (Nat × Bs)) (p : Nat × Bs) : withP d (l ++ [p]) = withP d l ++ (if !((hdB p.1 p.2).2 && d (hdB p.1 p.2).1) then [p.2] else []) := by
  unfold withP
  rw [List.filter_append, List.map_append]
  congr 1
  by_cases h : (!((hdB p.1 p.2).2 && d (hdB p.1 p.2).1)) = true
  · rw [if_pos h, List.filter_cons, if_pos h]
    rfl
  · rw [if_neg h, List.filter_cons, if_neg h]
    rfl
theorem withP_len (d : Hd → Bool) (l : List (Nat × Bs)) : (withP d l).length ≤ l.length := by
  unfold withP
  rw [List.length_map]
  exact List.length_filter_le _ _
theorem withP_enum {d : Hd → Bool} (hd : ∀ n h, d (at0 n h) = d h) : ∀ (l : List Bs) (n : Nat), withP d (enumL n l) = l.filter (keepB d)
  | [], _ => rfl
  | s :: l, n => by
    have ih := withP_enum hd l (n + 1)
    obtain ⟨h1, h2⟩ := hdB_line (n : Int) s
    have hk : (!((hdB (n : Int) s).2 && d (hdB (n : Int) s).1)) = keepB d s := by
      unfold keepB
      rw [h1]
      cases hb : (hdB 0 s).2 with
      | false => rfl
      | true => rw [h2 hb, hd]
    rw [enumL]
    unfold withP at ih ⊢
    rw [List.filter_cons, List.filter_cons]
    dsimp only
    rw [hk]
    cases keepB d s with
    | true => rw [if_pos rfl, if_pos rfl, List.map_cons, ih]
    | false => rw [if_neg (by decide), if_neg (by decide), ih]
theorem info_str : (Tryz.prog.info? 9).map (fun i => (i.zero, i.size, i.bytes)) = some (some (.string ⟨#[]⟩), 1, 16) := by kernel_rfl
theorem und_strs : Tryz.prog.underlying 42 = some (.slice 9) := by kernel_rfl
def sV (s : Bs) : Value := .string ⟨s.toArray⟩
theorem cells1n (A : World) (n : Nat) (a : Value) (t : TypeId) (hn : n = A.heap.size) (j : Nat) (u : Value) (h : [a][j]? = some u) : (A.alloc (.cells #[a] t)).cell? (Addr.add ⟨n, 0, none⟩ j) = some u := by
  subst hn
  have hn := World.alloc_heap_new A (.cells #[a] t)
  unfold World.cell?
  rw [block_add, hn]
  match j, h with
  | 0, h => exact h
theorem clo_inv {w : World} {B : Nat → Prop} {f : FuncId} {cs : List D} {v : Value} (h : DR w B (.clo f cs) v) : ∃ vs : Array Value, v = .func (.func f) #[] vs ∧ vs.size = cs.length ∧ ∀ i (hi : i < cs.length) u, vs[i]? = some u → DR w B (cs[i]) u := by
  cases h with
  | clo _ _ vs u hz hv hh => exact ⟨vs, rfl, hz, fun i hi x hx => by rw [hv i hi] at hx; cases hx; exact hh i hi⟩
theorem drop_calls {W A : World} {B : Nat → Prop} {f : FuncId} {g : List D → Option D} {caps : List D} {d : Hd → Bool} {cs : Array Value} (hB : ∀ b, B b → b < W.heap.size) (hf : PureOK Tryz.prog f true g) (hg : ∀ h, g (eHd h :: caps) = some (.bool (d h)))
    (hcz : cs.size = caps.length) (hcs : ∀ i (hi : i < caps.length) u, cs[i]? = some u → DR W B (caps[i]) u) (hb : Below W.heap.size W A) (h : Hd) :
    Calls Tryz.prog f (#[.agg #[.int .i64 h.kind, .int .i64 h.line, .string ⟨h.text.toArray⟩]] ++ cs) A fun e A' => e = .returned (.bool (d h)) ∧ Below A.heap.size A A' := by
  refine ((hf _ _ (hg h)).2 A B _ (fun b hb2 => Nat.lt_of_lt_of_le (hB b hb2) hb.size) (by simp [hcz]; omega) (fun i hi u hu => ?_)).2.mono ?_
  · match i, hi with
    | 0, _ =>
      have : u = .agg #[.int .i64 h.kind, .int .i64 h.line, .string ⟨h.text.toArray⟩] := by
        rw [Array.getElem?_append_left (by simp)] at hu
        simpa using hu.symm
      subst this
      exact .agg [i64 h.kind, i64 h.line, .str h.text] _ (fun i => (#[Value.int .i64 h.kind, .int .i64 h.line, .string ⟨h.text.toArray⟩] : Array Value).getD i undef) rfl (by simp [D.one]) (fun i hi => by
        match i, hi with
        | 0, _ => rfl
        | 1, _ => rfl
        | 2, _ => rfl) (fun i hi => by
        match i, hi with
        | 0, _ => exact .int _ _
        | 1, _ => exact .int _ _
        | 2, _ => exact .str _)
    | i + 1, hi =>
      rw [Array.getElem?_append_right (by simp)] at hu
      simp only [List.length_cons, Nat.add_lt_add_iff_right] at hi
      exact (hcs i hi u (by simpa using hu)).mono fun b hb2 => ⟨hb2, hb.block b (hB b hb2)⟩
  · rintro e w' ⟨v, rfl, hv, hbl⟩
    exact ⟨by rw [DR.bool_eq hv], hbl⟩
theorem without_calls {W : World} {B : Nat → Prop} {s : Bs} {f : FuncId} {fn : Func} {g : List D → Option D} {caps : List D} {d : Hd → Bool} {v0 : Value} (hs : s.length ≤ 1000000000) (hB : ∀ b, B b → b < W.heap.size) (hf : PureOK Tryz.prog f true g) (hg : ∀ h, g (eHd h :: caps) = some (.bool (d h)))
    (hfn : Tryz.prog.funcs[f]? = some fn) (hnm : (fn.name == "runtime.NumGoroutine") = false) {cd : Code} (hbd : fn.body = some cd) (h0 : DR W B (.clo f caps) v0) :
    Calls Tryz.prog 49 #[.string ⟨s.toArray⟩, v0] W fun e W' => ∃ v, e = .returned v ∧ W'.ownsRow (W.heap.size + 3) 9 1 v (withP d (enumL 0 (splitB 10 s))).length ((withP d (enumL 0 (splitB 10 s))).map sV) ∧ Below W.heap.size W W' := by
  obtain ⟨cs, rfl, hcz, hcs⟩ := clo_inv h0
  have hent := enters_of hfn hnm hbd
  have hcall := lines_calls s ((W.alloc (.cells #[.func (.func f) #[] cs] 58)).alloc (.cells #[.slice none 0 0] 42))
  rw [World.size_alloc, World.size_alloc] at hcall
  refine (callsIn_wide (n := 6)).1 ?_
  refine callsIn_of_wp_marks Tryz.func49 rfl trivial ?_ rfl
  simp only [Tryz.ntmps49, List.size_toArray, List.length_cons, List.length_nil, Nat.reduceAdd, Nat.reduceSub, Array.replicate_succ, Array.replicate_zero, List.push_toArray, List.append_toArray, List.nil_append, List.cons_append]
  gi_wp2
  refine ⟨trivial, ?_⟩
  refine (callsIn_wide.2 hcall).mono ?_
  rintro e w' ⟨rfl, rfl⟩
  gi_wp2
  have hbf := ((Boxed.new W 58 (.func (.func f) #[] cs)).alloc (.cells #[.slice none 0 0] 42)).alloc (.cells #[.string ⟨s.toArray⟩] 9)
  have hb0 := (Boxed.new (W.alloc (.cells #[.func (.func f) #[] cs] 58)) 42 (.slice none 0 0)).alloc (.cells #[.string ⟨s.toArray⟩] 9)
  rw [World.size_alloc] at hb0
  have hbx := Boxed.new ((W.alloc (.cells #[.func (.func f) #[] cs] 58)).alloc (.cells #[.slice none 0 0] 42)) 9 (.string ⟨s.toArray⟩)
  rw [World.size_alloc, World.size_alloc] at hbx
  have hbl : Below W.heap.size W (((W.alloc (.cells #[.func (.func f) #[] cs] 58)).alloc (.cells #[.slice none 0 0] 42)).alloc (.cells #[.string ⟨s.toArray⟩] 9)) := (((Below.refl _ W).alloc (Nat.le_refl _) _).alloc (by simp) _).alloc (by simp; omega) _
  have hsz : W.heap.size + 3 = (((W.alloc (.cells #[.func (.func f) #[] cs] 58)).alloc (.cells #[.slice none 0 0] 42)).alloc (.cells #[.string ⟨s.toArray⟩] 9)).heap.size := by simp
  generalize (((W.alloc (.cells #[.func (.func f) #[] cs] 58)).alloc (.cells #[.slice none 0 0] 42)).alloc (.cells #[.string ⟨s.toArray⟩] 9)) = W2 at *
  refine wpIn_range rfl (by omega) (gf := 81) (lb := #[.pointer (some ⟨W.heap.size + 2, 0, none⟩)]) rfl trivial (enters_of Tryz.func81 (by kernel_rfl) rfl)
    (lines1_gives (W0 := W2) (Kp := fun A B => ∀ v, Boxed A (W.heap.size + 2) 9 v → Boxed B (W.heap.size + 2) 9 v) (Nat.le_trans hs (by decide)) (by omega) hbx (fun A B v k => k v)) (by omega) (fun h k v hv => k v (h v hv))
    (fun A l o o' hl ho hc _ v hv => hv.kept (grownBy_putObj' A l o') (fun e => by cases e; omega)) (Below.refl _ _) (fun _ => rfl)
    (fun pre A => (∃ v, Boxed A (W.heap.size + 1) 42 v ∧ A.ownsRow (W.heap.size + 3) 9 1 v (withP d pre).length ((withP d pre).map sV) ∧ True) ∧ (∃ u, Boxed A (W.heap.size + 2) 9 u) ∧ Boxed A W.heap.size 58 (.func (.func f) #[] cs) ∧ Below W.heap.size W A)
    ?own ?cb ⟨⟨_, hb0, World.ownsRow_nil _ _ _ _, trivial⟩, ⟨_, hbx⟩, hbf, hbl⟩
    (fun p => { tmps := #[.string ⟨s.toArray⟩, .func (.func f) #[] cs, undef, .pointer (some ⟨W.heap.size, 0, none⟩), .slice none 0 0, .pointer (some ⟨W.heap.size + 1, 0, none⟩), .int .i64 p.1, .string ⟨p.2.toArray⟩, undef, undef, .string ⟨s.toArray⟩, .func (.func 81) #[] #[.pointer (some ⟨W.heap.size + 2, 0, none⟩)], .int .i64 p.1, .string ⟨p.2.toArray⟩, undef, undef, undef, undef, undef, undef, undef, undef, undef, undef, undef, undef, undef, undef, undef, undef, undef, undef, undef], defers := [] }) ?assign ?body ?done
  case own =>
    refine OwnFrom.and (Own.from (holdsRow_own (W.heap.size + 3) (W.heap.size + 1) 42 9 1 (fun pre => (withP d pre).length) (fun pre => (withP d pre).map sV) (fun _ _ => True)) _) (OwnFrom.and ?_ (OwnFrom.and (Own.from (boxed_own W.heap.size 58 (fun _ => Value.func (.func f) #[] cs)) _) (ownFrom_below (Nat.le_refl _) (by omega))))
    rintro pre A B row ⟨u, hu⟩ hg hr
    exact ⟨u, hu.kept hg (fun e => by obtain ⟨h1, _⟩ := hr _ e.symm; omega)⟩
  case cb =>
    rintro pre A v ⟨⟨x, h1, h2, _⟩, ⟨u, h3⟩, h5, h4⟩
    exact ⟨⟨x, h1.other (by omega) v, h2.kept (grownBy_setCell' A _ v) (.inr (box_out (by omega) h2).symm), trivial⟩, ⟨v, h3.set v⟩, h5.other (by omega) v, h4.setCell (p := ⟨W.heap.size + 2, 0, none⟩) (by dsimp only; omega) v⟩
  case assign =>
    intro l x A K hK
    gi_wp2
    exact hK
  case body =>
    rintro l pre ⟨k, t⟩ A ⟨⟨v, hv, hrow, _⟩, ⟨u, hu⟩, hbf, hB2⟩ hlt ht
    dsimp only at ht
    have hrd := f_readP_ok.valsT (g_readP_eq (s := t) (n := (k : Int)) (Nat.le_trans ht (Nat.le_trans hs (by decide)))) rfl rfl A
    generalize hh : hdB (k : Int) t = q at *
    obtain ⟨h, ok⟩ := q
    have hrd : Calls Tryz.prog 46 #[.string ⟨t.toArray⟩, .int .i64 k] A fun e w' => e = .returned (.tuple #[.agg #[.int .i64 h.kind, .int .i64 h.line, .string ⟨h.text.toArray⟩], .bool ok]) ∧ Below A.heap.size A w' := hrd
    gi_wp2
    refine ⟨trivial, ?_⟩
    refine (CallsIn.inRound l (callsIn_wide.2 hrd)).mono ?_
    rintro e A2 ⟨rfl, hb2⟩
    have hbf2 : Boxed A2 W.heap.size 58 (.func (.func f) #[] cs) := (hb2.block _ hbf.lt).trans hbf
    have hv2 : Boxed A2 (W.heap.size + 1) 42 v := (hb2.block _ hv.lt).trans hv
    have hu2 : Boxed A2 (W.heap.size + 2) 9 u := (hb2.block _ hu.lt).trans hu
    have hrow2 : A2.ownsRow (W.heap.size + 3) 9 1 v (withP d pre).length ((withP d pre).map sV) := hrow.kept (below_grown hb2) (by
      rcases hrow.2 with ⟨rfl, _⟩ | ⟨g, cap, cur, rfl, _⟩
      · exact .inl rfl
      · exact .inr (by simp [Value.ownBlock]))
    have hv3 := hv2.alloc (.cells #[.int .i64 h.kind, .int .i64 h.line, .string ⟨h.text.toArray⟩] 26)
    have hbf3 := hbf2.alloc (.cells #[.int .i64 h.kind, .int .i64 h.line, .string ⟨h.text.toArray⟩] 26)
    have hu3 := hu2.alloc (.cells #[.int .i64 h.kind, .int .i64 h.line, .string ⟨h.text.toArray⟩] 26)
    have hc3 := hv3.cell
    have hcf3 := hbf3.cell
    have hrow3 := hrow2.alloc (.cells #[.int .i64 h.kind, .int .i64 h.line, .string ⟨h.text.toArray⟩] 26)
    have hbx3 := World.alloc_heap_new A2 (.cells #[.int .i64 h.kind, .int .i64 h.line, .string ⟨h.text.toArray⟩] 26)
    have hsz3 := World.size_alloc A2 (.cells #[.int .i64 h.kind, .int .i64 h.line, .string ⟨h.text.toArray⟩] 26)
    obtain ⟨i0, hi, hz0, hz1, hz2⟩ := info_parts info_str
    have hA := hu.lt
    have hpl := withP_len d pre
    have hsl := splitB_len 10 s
    have hkA : KeepsFrom W2.heap.size A A2 := ⟨hb2.size, fun k o hk ho hc => (hb2.block k (heap_lt ho)).trans ho⟩
    have hsn := withP_snoc d pre (k, t)
    dsimp only at hsn
    rw [hh] at hsn
    dsimp only at hsn
    have hB3 : Below W.heap.size W (A2.alloc (.cells #[.int .i64 h.kind, .int .i64 h.line, .string ⟨h.text.toArray⟩] 26)) := (hB2.trans (hb2.mono (by omega))).alloc (by have := hb2.size; omega) _
    have hdr := drop_calls hB hf hg hcz hcs hB3 h
    cases ok
    rotate_left
    · gi_wp2
      refine ⟨trivial, ?_⟩
      rw [hent]
      gi_wp2
      refine (CallsIn.inRound l (callsIn_wide.2 hdr)).mono ?_
      rintro e X ⟨rfl, hbX⟩
      have hvX : Boxed X (W.heap.size + 1) 42 v := (hbX.block _ hv3.lt).trans hv3
      have huX : Boxed X (W.heap.size + 2) 9 u := (hbX.block _ hu3.lt).trans hu3
      have hbfX : Boxed X W.heap.size 58 (.func (.func f) #[] cs) := (hbX.block _ hbf3.lt).trans hbf3
      have hrowX : X.ownsRow (W.heap.size + 3) 9 1 v (withP d pre).length ((withP d pre).map sV) := hrow3.kept (below_grown hbX) (by
        rcases hrow3.2 with ⟨rfl, _⟩ | ⟨g, cap, cur, rfl, _⟩
        · exact .inl rfl
        · exact .inr (by simp [Value.ownBlock]))
      have hkX : KeepsFrom W2.heap.size A X := (hkA.trans ((KeepsOthers.alloc A2 _).from _)).trans ⟨hbX.size, fun k o hk ho hc => (hbX.block k (heap_lt ho)).trans ho⟩
      have hKX : ∀ z, Boxed A (W.heap.size + 2) 9 z → Boxed X (W.heap.size + 2) 9 z := fun z hz => by
        have h3 := Boxed.alloc (show Boxed A2 (W.heap.size + 2) 9 z from (hb2.block _ hz.lt).trans hz) (.cells #[.int .i64 h.kind, .int .i64 h.line, .string ⟨h.text.toArray⟩] 26)
        exact (hbX.block _ h3.lt).trans h3
      have hBX : Below W.heap.size W X := hB3.trans (hbX.mono hB3.size)
      have hsX : W.heap.size + 3 ≤ X.heap.size := by
        have := hbX.size
        have := hb2.size
        rw [hsz3] at *
        omega
      have hcX := hvX.cell
      cases hdh : d h with
      | true =>
        rw [hdh] at hsn
        rw [if_neg (by decide), List.append_nil] at hsn
        gi_wp2
        repeat' apply And.intro
        all_goals first | exact hkX | exact hKX | exact ⟨u, huX⟩ | exact hbfX | exact hBX | (rw [← hsz]; exact ⟨v, hvX, hrowX⟩)
      | false =>
        rw [hdh] at hsn
        rw [if_pos (by decide)] at hsn
        gi_wp2_with (gi_at_builtin; refine wpListIn_append_own _ rfl _ _ 42 rfl (W.heap.size + 3) 9 i0 _ 1 16 und_strs hi hz0 hz1 hz2 rfl (by decide) _ _ _ rfl (hrowX.alloc _) ⟨X.heap.size, 0, none⟩ 1 1 [sV t] rfl rfl (fun j u hj => cells1n _ X.heap.size _ _ rfl j u hj) (by simp [sV, Value.oneCell']) (by unfold maxLen; omega) (by omega) (by simp; omega) ?_; intro v' w1 hown' hgrow _; obtain ⟨g', cap', rfl⟩ := ownsRow_succ hown'; obtain ⟨q1, q2, q3, q4, q5, q6⟩ := appendedB hvX (by omega) hrowX (by omega) hown' hgrow; have hc1 := q1.cell; have hf1 := q1.frozen)
        refine ⟨hkX.trans (q4.from _), fun z hz => q5 _ _ _ (hKX z hz) (by omega) (by omega), ?_, ⟨u, q5 _ _ _ huX (by omega) (by omega)⟩, q5 _ _ _ hbfX (by omega) (by omega), hBX.trans (q6.mono (by omega))⟩
        rw [← hsz]
        exact ⟨_, q2, q3⟩
    · gi_wp2
      refine ⟨fun f e => (by cases e), ?_⟩
      have hkX : KeepsFrom W2.heap.size A (A2.alloc (.cells #[.int .i64 h.kind, .int .i64 h.line, .string ⟨h.text.toArray⟩] 26)) := hkA.trans ((KeepsOthers.alloc A2 _).from _)
      have hKX : ∀ z, Boxed A (W.heap.size + 2) 9 z → Boxed (A2.alloc (.cells #[.int .i64 h.kind, .int .i64 h.line, .string ⟨h.text.toArray⟩] 26)) (W.heap.size + 2) 9 z := fun z hz => Boxed.alloc (show Boxed A2 (W.heap.size + 2) 9 z from (hb2.block _ hz.lt).trans hz) _
      have hsX : W.heap.size + 3 ≤ (A2.alloc (.cells #[.int .i64 h.kind, .int .i64 h.line, .string ⟨h.text.toArray⟩] 26)).heap.size := by
        have := hb2.size
        rw [hsz3]
        omega
      clear hdr hsz3 hbx3
      have hvX := hv3
      have huX := hu3
      have hbfX := hbf3
      have hrowX := hrow3
      have hBX := hB3
      generalize A2.alloc (.cells #[.int .i64 h.kind, .int .i64 h.line, .string ⟨h.text.toArray⟩] 26) = X at *
      rw [if_pos (by rfl)] at hsn
      gi_wp2_with (gi_at_builtin; refine wpListIn_append_own _ rfl _ _ 42 rfl (W.heap.size + 3) 9 i0 _ 1 16 und_strs hi hz0 hz1 hz2 rfl (by decide) _ _ _ rfl (hrowX.alloc _) ⟨X.heap.size, 0, none⟩ 1 1 [sV t] rfl rfl (fun j u hj => cells1n _ X.heap.size _ _ rfl j u hj) (by simp [sV, Value.oneCell']) (by unfold maxLen; omega) (by omega) (by simp; omega) ?_; intro v' w1 hown' hgrow _; obtain ⟨g', cap', rfl⟩ := ownsRow_succ hown'; obtain ⟨q1, q2, q3, q4, q5, q6⟩ := appendedB hvX (by omega) hrowX (by omega) hown' hgrow; have hc1 := q1.cell; have hf1 := q1.frozen)
      refine ⟨hkX.trans (q4.from _), fun z hz => q5 _ _ _ (hKX z hz) (by omega) (by omega), ?_, ⟨u, q5 _ _ _ huX (by omega) (by omega)⟩, q5 _ _ _ hbfX (by omega) (by omega), hBX.trans (q6.mono (by omega))⟩
      rw [← hsz]
      exact ⟨_, q2, q3⟩
  case done =>
    rintro D ys A hD rfl ⟨⟨v, hv, hrow, _⟩, _, _, hB⟩ hK
    have hc := hv.cell
    gi_wp2
    refine ⟨by simp, .inl ⟨_, _, rfl, run_takeDeferred hK, ?_⟩⟩
    exact ⟨_, results_tmp rfl _ _ _, v, rfl, by rw [← hsz] at *; exact ownsRow_putObj hrow _ hK rfl, hB.grown (grownBy_putObj' A D _) hB.size (fun k e => by cases e; omega)⟩
end Go.Ab
namespace Go.Ab
open Go Go.RowKit Go.Proofs
set_option maxRecDepth 4000
set_option maxHeartbeats 1000000
inductive LX where
  | mk (kind : Int) (name exc : List UInt8) (kids : List LX)
def LX.kind : LX → Int
  | .mk k _ _ _ => k
def LX.name : LX → List UInt8
  | .mk _ n _ _ => n
def LX.exc : LX → List UInt8
  | .mk _ _ e _ => e
def LX.kids : LX → List LX
  | .mk _ _ _ l => l
theorem LX.eta (x : LX) : LX.mk x.kind x.name x.exc x.kids = x := by cases x; rfl
theorem LX.ind {p : LX → Prop} (h : ∀ k n e l, (∀ x ∈ l, p x) → p (.mk k n e l)) (x : LX) : p x := by
  refine LX.rec (motive_1 := p) (motive_2 := fun l => ∀ x ∈ l, p x) (fun k n e l hl => h k n e l hl) (fun x hx => by cases hx) (fun y l hy hl x hx => ?_) x
  rcases List.mem_cons.1 hx with rfl | hx
  · exact hy
  · exact hl x hx
mutual
def eX : LX → D
  | .mk k n e l => .agg [i64 k, .str n, .str e, .list (eXs l)]
def eXs : List LX → List D
  | [] => []
  | x :: l => eX x :: eXs l
end
theorem eXs_map : ∀ l : List LX, eXs l = l.map eX
  | [] => by simp [eXs]
  | x :: l => by rw [eXs, eXs_map l, List.map_cons]
@[go_sem] theorem eX_eq (x : LX) : eX x = .agg [.int .i64 x.kind, .str x.name, .str x.exc, .list (x.kids.map eX)] := by
  cases x
  rw [eX, eXs_map]
  rfl
theorem eX_inj (a : LX) : ∀ b, eX a = eX b → a = b := by
  refine LX.ind (p := fun a => ∀ b, eX a = eX b → a = b) (fun k n e l ih b h => ?_) a
  cases b with
  | mk k' n' e' l' =>
    simp only [eX, D.agg.injEq, List.cons.injEq, D.int.injEq, D.str.injEq, D.list.injEq, true_and, and_true, eXs_map] at h
    obtain ⟨rfl, rfl, rfl, h⟩ := h
    have : l = l' := by
      clear k n e
      induction l generalizing l' with
      | nil => cases l' with
        | nil => rfl
        | cons y r => simp at h
      | cons x l il => cases l' with
        | nil => simp at h
        | cons y r =>
          simp only [List.map_cons, List.cons.injEq] at h
          rw [ih x (by simp) y h.1, il (fun z hz => ih z (by simp [hz])) r h.2]
    rw [this]
theorem eX_ie (a b : LX) : (eX a = eX b) = (a = b) := propext ⟨eX_inj a b, fun h => by rw [h]⟩
theorem eXs_ie (a b : List LX) : (a.map eX = b.map eX) = (a = b) := map_ie eX_inj a b
theorem lx_ie : (∀ a b : LX, (eX a = eX b) = (a = b)) ∧ (∀ a b : List LX, (a.map eX = b.map eX) = (a = b)) := ⟨eX_ie, eXs_ie⟩
def LX.hgt : LX → Nat
  | .mk _ _ _ l => hgts l + 1
where hgts : List LX → Nat
  | [] => 0
  | x :: l => max (LX.hgt x) (hgts l)
theorem LX.hgt_kid {x y : LX} (h : y ∈ x.kids) : y.hgt < x.hgt := by
  cases x with
  | mk k n e l =>
    simp only [LX.kids] at h
    simp only [LX.hgt]
    induction l with
    | nil => cases h
    | cons z l ih =>
      simp only [LX.hgt.hgts]
      rcases List.mem_cons.1 h with rfl | h
      · omega
      · have := ih h; omega
theorem LX.hgt_pos (x : LX) : 1 ≤ x.hgt := by cases x; simp only [LX.hgt]; omega
def LX.size : LX → Nat
  | .mk _ _ _ l => sizes l + 1
where sizes : List LX → Nat
  | [] => 0
  | x :: l => LX.size x + sizes l
theorem LX.size_eq (x : LX) : x.size = LX.size.sizes x.kids + 1 := by cases x; simp [LX.size, LX.kids]
theorem LX.sizes_append : ∀ a b : List LX, LX.size.sizes (a ++ b) = LX.size.sizes a + LX.size.sizes b
  | [], b => by simp [LX.size.sizes]
  | x :: a, b => by simp only [List.cons_append, LX.size.sizes, LX.sizes_append a b]; omega
theorem LX.sizes_take {l : List LX} {i : Nat} (h : i < l.length) : LX.size.sizes (l.take (i + 1)) = LX.size.sizes (l.take i) + (l[i]).size := by
  rw [List.take_add_one, List.getElem?_eq_getElem h, LX.sizes_append]
  simp [LX.size.sizes]
theorem LX.sizes_le {l : List LX} (i : Nat) : LX.size.sizes (l.take i) ≤ LX.size.sizes l := by
  conv => rhs; rw [← List.take_append_drop i l, LX.sizes_append]
  omega
theorem LX.size_kid {x y : LX} (h : y ∈ x.kids) : y.size < x.size := by
  rw [LX.size_eq x]
  obtain ⟨s, t, hst⟩ := List.append_of_mem h
  rw [hst, LX.sizes_append]
  simp only [LX.size.sizes]
  omega
theorem LX.size_pos (x : LX) : 1 ≤ x.size := by rw [LX.size_eq]; omega
theorem LX.len_le (x : LX) : x.kids.length < x.size := by
  rw [LX.size_eq]
  have : ∀ l : List LX, l.length ≤ LX.size.sizes l := by
    intro l
    induction l with
    | nil => simp
    | cons y l ih => have := y.size_pos; simp only [LX.size.sizes, List.length_cons]; omega
  have := this x.kids
  omega
theorem LX.hgt_le (x : LX) : x.hgt ≤ x.size := by
  refine LX.ind (p := fun x => x.hgt ≤ x.size) (fun k n e l ih => ?_) x
  simp only [LX.hgt, LX.size]
  induction l with
  | nil => simp [LX.hgt.hgts]
  | cons z l il =>
    have h1 := ih z (by simp)
    have h2 := il fun x hx => ih x (by simp [hx])
    simp only [LX.hgt.hgts, LX.size.sizes]
    have := z.size_pos
    omega
inductive LX.Bd (m : Nat) : LX → Prop where
  | mk (x : LX) (hn : x.name.length ≤ m) (he : x.exc.length ≤ m) (hz : x.size ≤ m) (hk : ∀ y ∈ x.kids, LX.Bd m y) : LX.Bd m x
theorem LX.Bd.n {m : Nat} {x : LX} (h : x.Bd m) : x.name.length ≤ m := by cases h; assumption
theorem LX.Bd.e {m : Nat} {x : LX} (h : x.Bd m) : x.exc.length ≤ m := by cases h; assumption
theorem LX.Bd.z {m : Nat} {x : LX} (h : x.Bd m) : x.size ≤ m := by cases h; assumption
theorem LX.Bd.k {m : Nat} {x y : LX} (h : x.Bd m) (hy : y ∈ x.kids) : y.Bd m := by cases h; rename_i hk; exact hk y hy
end Go.Ab
namespace Go.Ab
open Go Go.RowKit Go.Proofs
set_option maxRecDepth 4000
set_option maxHeartbeats 4000000
def lxFits (P : Program) (t : TypeId) : Bool := match P.underlying t with
  | some (.struct fds) => match fds.toList with
    | [f0, f1, f2, f3] => (f0.offset == 0) && (P.cellsOf f0.type == 1) && (Ty.int .i64).fits P f0.type && (f1.offset == 1) && (P.cellsOf f1.type == 1) && Ty.str.fits P f1.type && (f2.offset == 2) && (P.cellsOf f2.type == 1) && Ty.str.fits P f2.type && (f3.offset == 3) && (P.cellsOf f3.type == 1) && (P.cellsOf t == 4) && (match P.underlying f3.type with
      | some (.slice e) => e == t
      | _ => false)
    | _ => false
  | _ => false
def cellsX (x : LX) : List D := [.int .i64 x.kind, .str x.name, .str x.exc, .list (x.kids.map eX)]
theorem cellsX_eq (x : LX) : eX x = .agg (cellsX x) := eX_eq x
theorem sizes_bulk {H : Type} : ∀ (xs : List LX) (ds : List (DataW H)), xs.length = ds.length → (∀ i (h1 : i < xs.length) (h2 : i < ds.length), xs[i].size ≤ bulk ds[i]) → LX.size.sizes xs ≤ bulkAll ds
  | [], ds, _, _ => by simp [LX.size.sizes]
  | x :: xs, [], h, _ => by simp at h
  | x :: xs, d :: ds, h, hb => by
    have h1 := hb 0 (by simp) (by simp)
    have h2 := sizes_bulk xs ds (by simpa using h) (fun i h1 h2 => hb (i + 1) (by simpa using h1) (by simpa using h2))
    simp only [List.getElem_cons_zero] at h1
    simp only [LX.size.sizes, bulkAll]
    omega
theorem bd_mono' {m m' : Nat} (h : m ≤ m') {x : LX} : x.Bd m → x.Bd m' := by
  refine LX.ind (p := fun x => x.Bd m → x.Bd m') (fun k n e l ih hb => ?_) x
  exact .mk _ (Nat.le_trans hb.n h) (Nat.le_trans hb.e h) (Nat.le_trans hb.z h) (fun y hy => ih y hy (hb.k hy))
section
variable {H : Type} {enc : TypeId × Value → H} {P : Program} {w : World}
theorem lx_reads {t : TypeId} (hf : lxFits P t = true) : ∀ (fuel : Nat) (cs : List Value) (d : DataW H) (ps : List MemPlace), DataW.trod enc P w 0 (fun _ => true) true fuel t cs = some (d, ps) →
    ∃ x : LX, x.Bd (bulk d) ∧ CellsR w (cellsX x) cs := by
  intro fuel
  induction fuel using Nat.strongRecOn with
  | _ fuel ih =>
  intro cs d ps h
  cases fuel with
  | zero => simp [DataW.trod] at h
  | succ fuel =>
  unfold lxFits at hf
  split at hf <;> try (cases hf; done)
  rename_i fds hu
  split at hf <;> try (cases hf; done)
  rename_i f0 f1 f2 f3 hfl
  simp only [Bool.and_eq_true, beq_iff_eq] at hf
  obtain ⟨⟨⟨⟨⟨⟨⟨⟨⟨⟨⟨⟨o0, z0⟩, t0⟩, o1⟩, z1⟩, t1⟩, o2⟩, z2⟩, t2⟩, o3⟩, z3⟩, z4⟩, t3⟩ := hf
  unfold DataW.trod at h
  rw [hu] at h
  split at h <;> first | (cases ‹some (TypeDesc.struct fds) = some _›; done) | skip
  · rename_i cs _ _ fs' h1
    cases h1
    split at h
    · rename_i hc
      simp only [Option.map_eq_some_iff, Prod.mk.injEq] at h
      obtain ⟨xs, hx, rfl, rfl⟩ := h
      rw [hfl] at hx
      simp only [List.mapM_cons, List.mapM_nil, Option.bind_eq_bind, Option.bind_eq_some_iff, Option.pure_def, Option.some.injEq] at hx
      obtain ⟨y0, hy0, r0, ⟨y1, hy1, r1, ⟨y2, hy2, r2, ⟨y3, hy3, r3, rfl, rfl⟩, rfl⟩, rfl⟩, rfl⟩ := hx
      rw [z4] at hc
      have hcs : ∃ c0 c1 c2 c3, cs = [c0, c1, c2, c3] := by
        match cs, hc with
        | [c0, c1, c2, c3], _ => exact ⟨c0, c1, c2, c3, rfl⟩
      obtain ⟨c0, c1, c2, c3, rfl⟩ := hcs
      rw [o0, z0] at hy0
      rw [o1, z1] at hy1
      rw [o2, z2] at hy2
      rw [o3, z3] at hy3
      simp only [List.drop_zero, List.drop_succ_cons, List.take_succ_cons, List.take_zero] at hy0 hy1 hy2 hy3
      obtain ⟨e0, g0, q0⟩ := trod_reads (n := bulk y0.1) (.int .i64) fuel f0.type _ y0.1 y0.2 t0 hy0 (Nat.le_refl _)
      obtain ⟨e1, g1, q1⟩ := trod_reads (n := bulk y1.1) .str fuel f1.type _ y1.1 y1.2 t1 hy1 (Nat.le_refl _)
      obtain ⟨e2, g2, q2⟩ := trod_reads (n := bulk y2.1) .str fuel f2.type _ y2.1 y2.2 t2 hy2 (Nat.le_refl _)
      obtain ⟨k, _, rfl⟩ := g0
      obtain ⟨nm, ln, rfl⟩ := g1
      obtain ⟨ex, le, rfl⟩ := g2
      have key : ∃ l : List LX, (∀ x ∈ l, x.Bd (bulk y3.1)) ∧ LX.size.sizes l + 1 ≤ bulk y3.1 ∧ CellsR w [.list (l.map eX)] [c3] := by
        clear hy0 hy1 hy2 q0 q1 q2
        cases fuel with
        | zero => simp [DataW.trod] at hy3
        | succ fuel =>
        split at t3 <;> try (cases t3; done)
        rename_i e hs
        simp only [beq_iff_eq] at t3
        subst t3
        unfold DataW.trod at hy3
        rw [hs] at hy3
        split at hy3 <;> first | (cases ‹some (TypeDesc.slice e) = some _›; done) | skip
        · rename_i h2
          cases h2
          refine ⟨[], fun x hx => (by cases hx), ?_, rfl, fun i hi u hu => ?_⟩
          · have := bulk_pos y3.1; simp only [LX.size.sizes]; omega
          · have hi0 : i = 0 := by simp at hi; omega
            subst hi0
            simp at hu
            subst hu
            exact .empty none 0
        · rename_i e1 a len cap h3 h2
          cases h2
          cases h3
          split at hy3
          · rename_i hc3
            simp only [Option.bind_eq_some_iff, Option.map_eq_some_iff] at hy3
            obtain ⟨elems, he, rest, hr, hdp⟩ := hy3
            obtain ⟨y3a, y3b⟩ := y3
            simp only [Prod.mk.injEq] at hdp
            obtain ⟨rfl, rfl⟩ := hdp
            obtain ⟨hel, hget⟩ := mapM_range he
            rw [z4] at hget
            have hR := slice_readsG (w := w) (len := len) (cap := cap) (sz := 4) (a := a) (pk := D.agg)
              (R := fun i ds => ∃ x : LX, ds = cellsX x ∧ ∃ hi : i < elems.length, x.Bd (bulk (elems[i]).1))
              (fun i ds hd => by
                obtain ⟨x, rfl, _⟩ := hd
                refine ⟨rfl, rfl, fun d hd => ?_⟩
                simp only [cellsX, List.mem_cons, List.not_mem_nil, or_false] at hd
                rcases hd with rfl | rfl | rfl | rfl <;> rfl)
              (by decide) hc3.2.1 (fun i hi => by
                have h2 := hget i hi (by omega)
                simp only [Option.bind_eq_some_iff] at h2
                obtain ⟨ci, h3, h4⟩ := h2
                obtain ⟨x, h5, h6⟩ := ih fuel (by omega) ci _ _ h4
                exact ⟨ci, cellsX x, h3, ⟨x, rfl, by omega, h5⟩, h6⟩)
              (fun h0 => by
                have h2 := hget 0 h0 (by omega)
                simp only [Option.bind_eq_some_iff] at h2
                obtain ⟨ci, h3, _⟩ := h2
                have := World.cells?_block h3 (by omega)
                rw [block_add] at this
                exact this)
            obtain ⟨ls, h5, h6, h7⟩ := hR
            have hch : ∃ l : List LX, l.length = ls.length ∧ ∀ i (hi : i < ls.length) (hi2 : i < l.length), ls[i] = cellsX l[i] ∧ ∃ hi : i < elems.length, (l[i]).Bd (bulk (elems[i]).1) := by
              have pick : ∀ i (hi : i < ls.length), ∃ x : LX, ls[i] = cellsX x ∧ ∃ hi : i < elems.length, x.Bd (bulk (elems[i]).1) := h6
              refine ⟨List.ofFn fun i : Fin ls.length => (pick i i.2).choose, by simp, fun i hi hi2 => ?_⟩
              simp only [List.getElem_ofFn]
              exact (pick i hi).choose_spec
            obtain ⟨l, hl, hsp⟩ := hch
            have hmap : ls.map D.agg = l.map eX := by
              apply List.ext_getElem (by simp [hl])
              intro i h1 h2
              simp only [List.length_map] at h1 h2
              simp only [List.getElem_map]
              rw [(hsp i h1 h2).1, cellsX_eq]
            rw [hmap] at h7
            have hsz : LX.size.sizes l ≤ bulkAll (elems.map (·.1)) := sizes_bulk l _ (by simp [hl, h5, hel]) (fun i h1 h2 => by
              obtain ⟨_, h8⟩ := (hsp i (by omega) h1).2
              simpa using h8.z)
            refine ⟨l, fun x hx => ?_, ?_, h7⟩
            · obtain ⟨i, hi, rfl⟩ := List.mem_iff_getElem.1 hx
              obtain ⟨hi3, h8⟩ := (hsp i (by omega) hi).2
              refine bd_mono' ?_ h8
              have := bulk_mem (List.mem_map.2 ⟨elems[i], List.getElem_mem _, rfl⟩ : elems[i].1 ∈ elems.map (·.1))
              simp only [bulk]
              omega
            · simp only [bulk]
              omega
          · cases hy3
        · cases hy3
      obtain ⟨l, hb, hsz, q3⟩ := key
      refine ⟨.mk k nm ex l, .mk _ ?_ ?_ ?_ (fun y hy => bd_mono' ?_ (hb y hy)), ?_⟩
      · simp only [bulk, bulkAll, List.map_cons, List.map_nil]; show nm.length ≤ _; omega
      · simp only [bulk, bulkAll, List.map_cons, List.map_nil]; show ex.length ≤ _; omega
      · simp only [bulk, bulkAll, List.map_cons, List.map_nil, LX.size]; omega
      · simp only [bulk, bulkAll, List.map_cons, List.map_nil]; omega
      · exact q0.append (q1.append (q2.append q3))
    · cases h
  · exact absurd rfl (‹∀ (fs : Array Field), some (TypeDesc.struct fds) = some (TypeDesc.struct fs) → False› fds)
end
end Go.Ab
