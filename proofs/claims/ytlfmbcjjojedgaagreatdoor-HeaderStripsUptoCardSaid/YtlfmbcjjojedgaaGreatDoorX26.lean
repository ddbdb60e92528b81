/-
  One text of the proof (own work): contracts of functions of the program, by the abstract machine.
-/
import Derived.Test.YtlfmbcjjojedgaaGreatDoorRows
import Derived.Lib.SlicesCompact
import Derived.Test.YtlfmbcjjojedgaaGreatDoorX25
import Derived.Test.YtlfmbcjjojedgaaGreatDoorX22
import Derived.Test.YtlfmbcjjojedgaaGreatDoorX17
import Derived.Test.YtlfmbcjjojedgaaGreatDoorX16
import Derived.Test.YtlfmbcjjojedgaaGreatDoorX19
set_option linter.unusedVariables false
set_option linter.unusedSimpArgs false
namespace Go.Ab
open Go Go.RowKit Go.Proofs Go.Shelf
set_option maxRecDepth 100000
set_option maxHeartbeats 4000000
attribute [local go_sem] Oper.semAt_some
theorem own_calls {P : Program} {f : FuncId} {fn : Func} {X : Type} {enc : X → List D} {dom : X → Prop} {t : TypeId} {sz : Nat} {out : X → List D} (hf : P.funcs[f]? = some fn) (hname : (fn.name == "runtime.NumGoroutine") = false) (hb : fn.body.isNone = false) (hsz : 0 < sz)
    (hall : ∀ x, elemsOK sz (out x) = true ∧ (flat (out x)).all D.scalar = true)
    (h : ∀ x, dom x → ∀ (w : World) (B : Nat → Prop) (vs : Array Value), (∀ b, B b → b < w.heap.size) → vs.size = (enc x).length → (∀ i (hi : i < (enc x).length) u, vs[i]? = some u → DR w B ((enc x)[i]) u) →
      Calls P f vs w fun e w' => ∃ v base, e = .returned v ∧ w.heap.size ≤ base ∧ w'.ownsRow base t sz v (out x).length ((flat (out x)).map D.val) ∧ Below w.heap.size w w') : OwnOK P f (encSpec enc dom fun x => (t, sz, out x)) := by
  intro ds e sz' l hd
  obtain ⟨x, rfl, hx, hxo⟩ := encSpec_some hd
  cases hxo
  obtain ⟨h1, h2⟩ := hall x
  obtain ⟨h3, h4⟩ := elemsOK_spec h1
  refine ⟨hsz, h3, h4, fun w B vs hB hz hvs => ⟨⟨fn, hf, hname, hb⟩, (h x hx w B vs hB hz hvs).mono ?_⟩⟩
  rintro e' w' ⟨v, base, rfl, hbase, hrow, hbl⟩
  refine ⟨v, rfl, ⟨_, ownsRow_base (.of hrow) hbase, fun i hi u hu => ?_⟩, hbl⟩
  rw [List.getElem?_map, List.getElem?_eq_getElem hi] at hu
  simp only [Option.map_some, Option.some.injEq] at hu
  subst hu
  exact scalar_reads (List.all_eq_true.1 h2 _ (List.getElem_mem hi))
def eHd (h : Hd) : D := .agg [i64 h.kind, i64 h.line, .str h.text]
@[go_sem] theorem eHd_eq (h : Hd) : eHd h = .agg [i64 h.kind, i64 h.line, .str h.text] := rfl
theorem eHd_inj (a b : Hd) (h : eHd a = eHd b) : a = b := by
  obtain ⟨a1, a2, a3⟩ := a
  obtain ⟨b1, b2, b3⟩ := b
  simp only [eHd, D.agg.injEq, List.cons.injEq, D.int.injEq, D.str.injEq, true_and, and_true] at h
  obtain ⟨rfl, rfl, rfl⟩ := h
  rfl
theorem eHd_ie (a b : List Hd) : (a.map eHd = b.map eHd) = (a = b) := map_ie eHd_inj a b
@[go_sem] theorem elemsOK_hd (l : List Hd) : elemsOK 3 (l.map eHd) = true := elemsOK_map (f := eHd) (fun _ => ⟨by rfl, by rfl⟩) l
theorem hdV_flat (l : List Hd) : (flat (l.map eHd)).map D.val = l.flatMap hdV := by
  induction l with
  | nil => rfl
  | cons h l ih =>
    rw [List.map_cons, flat_cons, List.map_append, ih, List.flatMap_cons]
    rfl
theorem eHd_scalar (l : List Hd) : (flat (l.map eHd)).all D.scalar = true := by
  induction l with
  | nil => rfl
  | cons h l ih =>
    rw [List.map_cons, flat_cons, List.all_append, ih]
    rfl
noncomputable def g_scan : List D → Option (TypeId × Nat × List D) := encSpec (fun s : Bs => [.str s]) (fun s => s.length ≤ 1000000000) (fun s => (26, 3, (scanB s).map eHd))
theorem g_scan_eq {s : Bs} (h : s.length ≤ 1000000000) : g_scan [.str s] = some (26, 3, (scanB s).map eHd) := encSpec_eq (x := s) h fun y hy => by
  simp only [List.cons.injEq, and_true, D.str.injEq] at hy
  rw [hy]
theorem f_scan_ok : OwnOK Tryz.prog 13 g_scan := own_calls Tryz.func13 (by kernel_rfl) (by kernel_rfl) (by decide) (fun x => ⟨elemsOK_hd _, eHd_scalar _⟩) fun s hs w B vs hB hz hvs => by
  have hz1 : vs.size = 1 := hz
  have h0 := hvs 0 (by simp) (vs[0]'(by omega)) (Array.getElem?_eq_getElem _)
  have e : vs = #[vs[0]'(by omega)] := Array.ext hz1 fun i i1 i2 => by
    match i, i2 with
    | 0, _ => rfl
  have e0 : vs[0]'(by omega) = .string ⟨s.toArray⟩ := DR.str_eq h0
  rw [e, e0]
  refine (scan_calls hs).mono ?_
  rintro e w' ⟨v, rfl, h1, h2⟩
  exact ⟨v, w.heap.size + 2, rfl, by omega, by rw [hdV_flat, List.length_map]; exact h1, h2⟩
def withP (d : Hd → Bool) (l : List (Nat × Bs)) : List Bs := (l.filter fun p => !((hdB p.1 p.2).2 && d (hdB p.1 p.2).1)).map Prod.snd
theorem withP_snoc (d : Hd → Bool) (l : List (Nat × Bs)) (p : Nat × Bs) : withP d (l ++ [p]) = withP d l ++ (if !((hdB p.1 p.2).2 && d (hdB p.1 p.2).1) then [p.2] else []) := by
  unfold withP
  rw [List.filter_append, List.map_append]
  congr 1
  by_cases h : (!((hdB p.1 p.2).2 && d (hdB p.1 p.2).1)) = true
  · rw [if_pos h, List.filter_cons, if_pos h]
    rfl
  · rw [if_neg h, List.filter_cons, if_neg h]
    rfl
theorem withP_len (d : Hd → Bool) (l : List (Nat × Bs)) : (withP d l).length ≤ l.length := by
  unfold withP
  rw [List.length_map]
  exact List.length_filter_le _ _
theorem withP_enum {d : Hd → Bool} (hd : ∀ n h, d (at0 n h) = d h) : ∀ (l : List Bs) (n : Nat), withP d (enumL n l) = l.filter (keepB d)
  | [], _ => rfl
  | s :: l, n => by
    have ih := withP_enum hd l (n + 1)
    obtain ⟨h1, h2⟩ := hdB_line (n : Int) s
    have hk : (!((hdB (n : Int) s).2 && d (hdB (n : Int) s).1)) = keepB d s := by
      unfold keepB
      rw [h1]
      cases hb : (hdB 0 s).2 with
      | false => rfl
      | true => rw [h2 hb, hd]
    rw [enumL]
    unfold withP at ih ⊢
    rw [List.filter_cons, List.filter_cons]
    dsimp only
    rw [hk]
    cases keepB d s with
    | true => rw [if_pos rfl, if_pos rfl, List.map_cons, ih]
    | false => rw [if_neg (by decide), if_neg (by decide), ih]
theorem info_str : (Tryz.prog.info? 9).map (fun i => (i.zero, i.size, i.bytes)) = some (some (.string ⟨#[]⟩), 1, 16) := by kernel_rfl
theorem und_strs : Tryz.prog.underlying 42 = some (.slice 9) := by kernel_rfl
def sV (s : Bs) : Value := .string ⟨s.toArray⟩
theorem cells1n (A : World) (n : Nat) (a : Value) (t : TypeId) (hn : n = A.heap.size) (j : Nat) (u : Value) (h : [a][j]? = some u) : (A.alloc (.cells #[a] t)).cell? (Addr.add ⟨n, 0, none⟩ j) = some u := by
  subst hn
  have hn := World.alloc_heap_new A (.cells #[a] t)
  unfold World.cell?
  rw [block_add, hn]
  match j, h with
  | 0, h => exact h
theorem clo_inv {w : World} {B : Nat → Prop} {f : FuncId} {cs : List D} {v : Value} (h : DR w B (.clo f cs) v) : ∃ vs : Array Value, v = .func (.func f) #[] vs ∧ vs.size = cs.length ∧ ∀ i (hi : i < cs.length) u, vs[i]? = some u → DR w B (cs[i]) u := by
  cases h with
  | clo _ _ vs u hz hv hh => exact ⟨vs, rfl, hz, fun i hi x hx => by rw [hv i hi] at hx; cases hx; exact hh i hi⟩
theorem drop_calls {W A : World} {B : Nat → Prop} {f : FuncId} {g : List D → Option D} {caps : List D} {d : Hd → Bool} {cs : Array Value} (hB : ∀ b, B b → b < W.heap.size) (hf : PureOK Tryz.prog f true g) (hg : ∀ h, g (eHd h :: caps) = some (.bool (d h)))
    (hcz : cs.size = caps.length) (hcs : ∀ i (hi : i < caps.length) u, cs[i]? = some u → DR W B (caps[i]) u) (hb : Below W.heap.size W A) (h : Hd) :
    Calls Tryz.prog f (#[.agg #[.int .i64 h.kind, .int .i64 h.line, .string ⟨h.text.toArray⟩]] ++ cs) A fun e A' => e = .returned (.bool (d h)) ∧ Below A.heap.size A A' := by
  refine ((hf _ _ (hg h)).2 A B _ (fun b hb2 => Nat.lt_of_lt_of_le (hB b hb2) hb.size) (by simp [hcz]; omega) (fun i hi u hu => ?_)).2.mono ?_
  · match i, hi with
    | 0, _ =>
      have : u = .agg #[.int .i64 h.kind, .int .i64 h.line, .string ⟨h.text.toArray⟩] := by
        rw [Array.getElem?_append_left (by simp)] at hu
        simpa using hu.symm
      subst this
      exact .agg [i64 h.kind, i64 h.line, .str h.text] _ (fun i => (#[Value.int .i64 h.kind, .int .i64 h.line, .string ⟨h.text.toArray⟩] : Array Value).getD i undef) rfl (by simp [D.one]) (fun i hi => by
        match i, hi with
        | 0, _ => rfl
        | 1, _ => rfl
        | 2, _ => rfl) (fun i hi => by
        match i, hi with
        | 0, _ => exact .int _ _
        | 1, _ => exact .int _ _
        | 2, _ => exact .str _)
    | i + 1, hi =>
      rw [Array.getElem?_append_right (by simp)] at hu
      simp only [List.length_cons, Nat.add_lt_add_iff_right] at hi
      exact (hcs i hi u (by simpa using hu)).mono fun b hb2 => ⟨hb2, hb.block b (hB b hb2)⟩
  · rintro e w' ⟨v, rfl, hv, hbl⟩
    exact ⟨by rw [DR.bool_eq hv], hbl⟩
theorem without_calls {W : World} {B : Nat → Prop} {s : Bs} {f : FuncId} {fn : Func} {g : List D → Option D} {caps : List D} {d : Hd → Bool} {v0 : Value} (hs : s.length ≤ 1000000000) (hB : ∀ b, B b → b < W.heap.size) (hf : PureOK Tryz.prog f true g) (hg : ∀ h, g (eHd h :: caps) = some (.bool (d h)))
    (hfn : Tryz.prog.funcs[f]? = some fn) (hnm : (fn.name == "runtime.NumGoroutine") = false) {cd : Code} (hbd : fn.body = some cd) (h0 : DR W B (.clo f caps) v0) :
    Calls Tryz.prog 49 #[.string ⟨s.toArray⟩, v0] W fun e W' => ∃ v, e = .returned v ∧ W'.ownsRow (W.heap.size + 3) 9 1 v (withP d (enumL 0 (splitB 10 s))).length ((withP d (enumL 0 (splitB 10 s))).map sV) ∧ Below W.heap.size W W' := by
  obtain ⟨cs, rfl, hcz, hcs⟩ := clo_inv h0
  have hent := enters_of hfn hnm hbd
  have hcall := lines_calls s ((W.alloc (.cells #[.func (.func f) #[] cs] 58)).alloc (.cells #[.slice none 0 0] 42))
  rw [World.size_alloc, World.size_alloc] at hcall
  refine (callsIn_wide (n := 6)).1 ?_
  refine callsIn_of_wp_marks Tryz.func49 rfl trivial ?_ rfl
  simp only [Tryz.ntmps49, List.size_toArray, List.length_cons, List.length_nil, Nat.reduceAdd, Nat.reduceSub, Array.replicate_succ, Array.replicate_zero, List.push_toArray, List.append_toArray, List.nil_append, List.cons_append]
  gi_wp2
  refine ⟨trivial, ?_⟩
  refine (callsIn_wide.2 hcall).mono ?_
  rintro e w' ⟨rfl, rfl⟩
  gi_wp2
  have hbf := ((Boxed.new W 58 (.func (.func f) #[] cs)).alloc (.cells #[.slice none 0 0] 42)).alloc (.cells #[.string ⟨s.toArray⟩] 9)
  have hb0 := (Boxed.new (W.alloc (.cells #[.func (.func f) #[] cs] 58)) 42 (.slice none 0 0)).alloc (.cells #[.string ⟨s.toArray⟩] 9)
  rw [World.size_alloc] at hb0
  have hbx := Boxed.new ((W.alloc (.cells #[.func (.func f) #[] cs] 58)).alloc (.cells #[.slice none 0 0] 42)) 9 (.string ⟨s.toArray⟩)
  rw [World.size_alloc, World.size_alloc] at hbx
  have hbl : Below W.heap.size W (((W.alloc (.cells #[.func (.func f) #[] cs] 58)).alloc (.cells #[.slice none 0 0] 42)).alloc (.cells #[.string ⟨s.toArray⟩] 9)) := (((Below.refl _ W).alloc (Nat.le_refl _) _).alloc (by simp) _).alloc (by simp; omega) _
  have hsz : W.heap.size + 3 = (((W.alloc (.cells #[.func (.func f) #[] cs] 58)).alloc (.cells #[.slice none 0 0] 42)).alloc (.cells #[.string ⟨s.toArray⟩] 9)).heap.size := by simp
  generalize (((W.alloc (.cells #[.func (.func f) #[] cs] 58)).alloc (.cells #[.slice none 0 0] 42)).alloc (.cells #[.string ⟨s.toArray⟩] 9)) = W2 at *
  refine wpIn_range rfl (by omega) (gf := 81) (lb := #[.pointer (some ⟨W.heap.size + 2, 0, none⟩)]) rfl trivial (enters_of Tryz.func81 (by kernel_rfl) rfl)
    (lines1_gives (W0 := W2) (Kp := fun A B => ∀ v, Boxed A (W.heap.size + 2) 9 v → Boxed B (W.heap.size + 2) 9 v) (Nat.le_trans hs (by decide)) (by omega) hbx (fun A B v k => k v)) (by omega) (fun h k v hv => k v (h v hv))
    (fun A l o o' hl ho hc _ v hv => hv.kept (grownBy_putObj' A l o') (fun e => by cases e; omega)) (Below.refl _ _) (fun _ => rfl)
    (fun pre A => (∃ v, Boxed A (W.heap.size + 1) 42 v ∧ A.ownsRow (W.heap.size + 3) 9 1 v (withP d pre).length ((withP d pre).map sV) ∧ True) ∧ (∃ u, Boxed A (W.heap.size + 2) 9 u) ∧ Boxed A W.heap.size 58 (.func (.func f) #[] cs) ∧ Below W.heap.size W A)
    ?own ?cb ⟨⟨_, hb0, World.ownsRow_nil _ _ _ _, trivial⟩, ⟨_, hbx⟩, hbf, hbl⟩
    (fun p => { tmps := #[.string ⟨s.toArray⟩, .func (.func f) #[] cs, undef, .pointer (some ⟨W.heap.size, 0, none⟩), .slice none 0 0, .pointer (some ⟨W.heap.size + 1, 0, none⟩), .int .i64 p.1, .string ⟨p.2.toArray⟩, undef, undef, .string ⟨s.toArray⟩, .func (.func 81) #[] #[.pointer (some ⟨W.heap.size + 2, 0, none⟩)], .int .i64 p.1, .string ⟨p.2.toArray⟩, undef, undef, undef, undef, undef, undef, undef, undef, undef, undef, undef, undef, undef, undef, undef, undef, undef, undef, undef], defers := [] }) ?assign ?body ?done
  case own =>
    refine OwnFrom.and (Own.from (holdsRow_own (W.heap.size + 3) (W.heap.size + 1) 42 9 1 (fun pre => (withP d pre).length) (fun pre => (withP d pre).map sV) (fun _ _ => True)) _) (OwnFrom.and ?_ (OwnFrom.and (Own.from (boxed_own W.heap.size 58 (fun _ => Value.func (.func f) #[] cs)) _) (ownFrom_below (Nat.le_refl _) (by omega))))
    rintro pre A B row ⟨u, hu⟩ hg hr
    exact ⟨u, hu.kept hg (fun e => by obtain ⟨h1, _⟩ := hr _ e.symm; omega)⟩
  case cb =>
    rintro pre A v ⟨⟨x, h1, h2, _⟩, ⟨u, h3⟩, h5, h4⟩
    exact ⟨⟨x, h1.other (by omega) v, h2.kept (grownBy_setCell' A _ v) (.inr (box_out (by omega) h2).symm), trivial⟩, ⟨v, h3.set v⟩, h5.other (by omega) v, h4.setCell (p := ⟨W.heap.size + 2, 0, none⟩) (by dsimp only; omega) v⟩
  case assign =>
    intro l x A K hK
    gi_wp2
    exact hK
  case body =>
    rintro l pre ⟨k, t⟩ A ⟨⟨v, hv, hrow, _⟩, ⟨u, hu⟩, hbf, hB2⟩ hlt ht
    dsimp only at ht
    have hrd := f_readP_ok.valsT (g_readP_eq (s := t) (n := (k : Int)) (Nat.le_trans ht (Nat.le_trans hs (by decide)))) rfl rfl A
    generalize hh : hdB (k : Int) t = q at *
    obtain ⟨h, ok⟩ := q
    have hrd : Calls Tryz.prog 46 #[.string ⟨t.toArray⟩, .int .i64 k] A fun e w' => e = .returned (.tuple #[.agg #[.int .i64 h.kind, .int .i64 h.line, .string ⟨h.text.toArray⟩], .bool ok]) ∧ Below A.heap.size A w' := hrd
    gi_wp2
    refine ⟨trivial, ?_⟩
    refine (CallsIn.inRound l (callsIn_wide.2 hrd)).mono ?_
    rintro e A2 ⟨rfl, hb2⟩
    have hbf2 : Boxed A2 W.heap.size 58 (.func (.func f) #[] cs) := (hb2.block _ hbf.lt).trans hbf
    have hv2 : Boxed A2 (W.heap.size + 1) 42 v := (hb2.block _ hv.lt).trans hv
    have hu2 : Boxed A2 (W.heap.size + 2) 9 u := (hb2.block _ hu.lt).trans hu
    have hrow2 : A2.ownsRow (W.heap.size + 3) 9 1 v (withP d pre).length ((withP d pre).map sV) := hrow.kept (below_grown hb2) (by
      rcases hrow.2 with ⟨rfl, _⟩ | ⟨g, cap, cur, rfl, _⟩
      · exact .inl rfl
      · exact .inr (by simp [Value.ownBlock]))
    have hv3 := hv2.alloc (.cells #[.int .i64 h.kind, .int .i64 h.line, .string ⟨h.text.toArray⟩] 26)
    have hbf3 := hbf2.alloc (.cells #[.int .i64 h.kind, .int .i64 h.line, .string ⟨h.text.toArray⟩] 26)
    have hu3 := hu2.alloc (.cells #[.int .i64 h.kind, .int .i64 h.line, .string ⟨h.text.toArray⟩] 26)
    have hc3 := hv3.cell
    have hcf3 := hbf3.cell
    have hrow3 := hrow2.alloc (.cells #[.int .i64 h.kind, .int .i64 h.line, .string ⟨h.text.toArray⟩] 26)
    have hbx3 := World.alloc_heap_new A2 (.cells #[.int .i64 h.kind, .int .i64 h.line, .string ⟨h.text.toArray⟩] 26)
    have hsz3 := World.size_alloc A2 (.cells #[.int .i64 h.kind, .int .i64 h.line, .string ⟨h.text.toArray⟩] 26)
    obtain ⟨i0, hi, hz0, hz1, hz2⟩ := info_parts info_str
    have hA := hu.lt
    have hpl := withP_len d pre
    have hsl := splitB_len 10 s
    have hkA : KeepsFrom W2.heap.size A A2 := ⟨hb2.size, fun k o hk ho hc => (hb2.block k (heap_lt ho)).trans ho⟩
    have hsn := withP_snoc d pre (k, t)
    dsimp only at hsn
    rw [hh] at hsn
    dsimp only at hsn
    have hB3 : Below W.heap.size W (A2.alloc (.cells #[.int .i64 h.kind, .int .i64 h.line, .string ⟨h.text.toArray⟩] 26)) := (hB2.trans (hb2.mono (by omega))).alloc (by have := hb2.size; omega) _
    have hdr := drop_calls hB hf hg hcz hcs hB3 h
    cases ok
    rotate_left
    · gi_wp2
      refine ⟨trivial, ?_⟩
      rw [hent]
      gi_wp2
      refine (CallsIn.inRound l (callsIn_wide.2 hdr)).mono ?_
      rintro e X ⟨rfl, hbX⟩
      have hvX : Boxed X (W.heap.size + 1) 42 v := (hbX.block _ hv3.lt).trans hv3
      have huX : Boxed X (W.heap.size + 2) 9 u := (hbX.block _ hu3.lt).trans hu3
      have hbfX : Boxed X W.heap.size 58 (.func (.func f) #[] cs) := (hbX.block _ hbf3.lt).trans hbf3
      have hrowX : X.ownsRow (W.heap.size + 3) 9 1 v (withP d pre).length ((withP d pre).map sV) := hrow3.kept (below_grown hbX) (by
        rcases hrow3.2 with ⟨rfl, _⟩ | ⟨g, cap, cur, rfl, _⟩
        · exact .inl rfl
        · exact .inr (by simp [Value.ownBlock]))
      have hkX : KeepsFrom W2.heap.size A X := (hkA.trans ((KeepsOthers.alloc A2 _).from _)).trans ⟨hbX.size, fun k o hk ho hc => (hbX.block k (heap_lt ho)).trans ho⟩
      have hKX : ∀ z, Boxed A (W.heap.size + 2) 9 z → Boxed X (W.heap.size + 2) 9 z := fun z hz => by
        have h3 := Boxed.alloc (show Boxed A2 (W.heap.size + 2) 9 z from (hb2.block _ hz.lt).trans hz) (.cells #[.int .i64 h.kind, .int .i64 h.line, .string ⟨h.text.toArray⟩] 26)
        exact (hbX.block _ h3.lt).trans h3
      have hBX : Below W.heap.size W X := hB3.trans (hbX.mono hB3.size)
      have hsX : W.heap.size + 3 ≤ X.heap.size := by
        have := hbX.size
        have := hb2.size
        rw [hsz3] at *
        omega
      have hcX := hvX.cell
      cases hdh : d h with
      | true =>
        rw [hdh] at hsn
        rw [if_neg (by decide), List.append_nil] at hsn
        gi_wp2
        repeat' apply And.intro
        all_goals first | exact hkX | exact hKX | exact ⟨u, huX⟩ | exact hbfX | exact hBX | (rw [← hsz]; exact ⟨v, hvX, hrowX⟩)
      | false =>
        rw [hdh] at hsn
        rw [if_pos (by decide)] at hsn
        gi_wp2_with (gi_at_builtin; refine wpListIn_append_own _ rfl _ _ 42 rfl (W.heap.size + 3) 9 i0 _ 1 16 und_strs hi hz0 hz1 hz2 rfl (by decide) _ _ _ rfl (hrowX.alloc _) ⟨X.heap.size, 0, none⟩ 1 1 [sV t] rfl rfl (fun j u hj => cells1n _ X.heap.size _ _ rfl j u hj) (by simp [sV, Value.oneCell']) (by unfold maxLen; omega) (by omega) (by simp; omega) ?_; intro v' w1 hown' hgrow _; obtain ⟨g', cap', rfl⟩ := ownsRow_succ hown'; obtain ⟨q1, q2, q3, q4, q5, q6⟩ := appendedB hvX (by omega) hrowX (by omega) hown' hgrow; have hc1 := q1.cell; have hf1 := q1.frozen)
        refine ⟨hkX.trans (q4.from _), fun z hz => q5 _ _ _ (hKX z hz) (by omega) (by omega), ?_, ⟨u, q5 _ _ _ huX (by omega) (by omega)⟩, q5 _ _ _ hbfX (by omega) (by omega), hBX.trans (q6.mono (by omega))⟩
        rw [← hsz]
        exact ⟨_, q2, q3⟩
    · gi_wp2
      refine ⟨fun f e => (by cases e), ?_⟩
      have hkX : KeepsFrom W2.heap.size A (A2.alloc (.cells #[.int .i64 h.kind, .int .i64 h.line, .string ⟨h.text.toArray⟩] 26)) := hkA.trans ((KeepsOthers.alloc A2 _).from _)
      have hKX : ∀ z, Boxed A (W.heap.size + 2) 9 z → Boxed (A2.alloc (.cells #[.int .i64 h.kind, .int .i64 h.line, .string ⟨h.text.toArray⟩] 26)) (W.heap.size + 2) 9 z := fun z hz => Boxed.alloc (show Boxed A2 (W.heap.size + 2) 9 z from (hb2.block _ hz.lt).trans hz) _
      have hsX : W.heap.size + 3 ≤ (A2.alloc (.cells #[.int .i64 h.kind, .int .i64 h.line, .string ⟨h.text.toArray⟩] 26)).heap.size := by
        have := hb2.size
        rw [hsz3]
        omega
      clear hdr hsz3 hbx3
      have hvX := hv3
      have huX := hu3
      have hbfX := hbf3
      have hrowX := hrow3
      have hBX := hB3
      generalize A2.alloc (.cells #[.int .i64 h.kind, .int .i64 h.line, .string ⟨h.text.toArray⟩] 26) = X at *
      rw [if_pos (by rfl)] at hsn
      gi_wp2_with (gi_at_builtin; refine wpListIn_append_own _ rfl _ _ 42 rfl (W.heap.size + 3) 9 i0 _ 1 16 und_strs hi hz0 hz1 hz2 rfl (by decide) _ _ _ rfl (hrowX.alloc _) ⟨X.heap.size, 0, none⟩ 1 1 [sV t] rfl rfl (fun j u hj => cells1n _ X.heap.size _ _ rfl j u hj) (by simp [sV, Value.oneCell']) (by unfold maxLen; omega) (by omega) (by simp; omega) ?_; intro v' w1 hown' hgrow _; obtain ⟨g', cap', rfl⟩ := ownsRow_succ hown'; obtain ⟨q1, q2, q3, q4, q5, q6⟩ := appendedB hvX (by omega) hrowX (by omega) hown' hgrow; have hc1 := q1.cell; have hf1 := q1.frozen)
      refine ⟨hkX.trans (q4.from _), fun z hz => q5 _ _ _ (hKX z hz) (by omega) (by omega), ?_, ⟨u, q5 _ _ _ huX (by omega) (by omega)⟩, q5 _ _ _ hbfX (by omega) (by omega), hBX.trans (q6.mono (by omega))⟩
      rw [← hsz]
      exact ⟨_, q2, q3⟩
  case done =>
    rintro D ys A hD rfl ⟨⟨v, hv, hrow, _⟩, _, _, hB⟩ hK
    have hc := hv.cell
    gi_wp2
    refine ⟨by simp, .inl ⟨_, _, rfl, run_takeDeferred hK, ?_⟩⟩
    exact ⟨_, results_tmp rfl _ _ _, v, rfl, by rw [← hsz] at *; exact ownsRow_putObj hrow _ hK rfl, hB.grown (grownBy_putObj' A D _) hB.size (fun k e => by cases e; omega)⟩
end Go.Ab
namespace Go.Ab
open Go Go.RowKit Go.Proofs
set_option maxRecDepth 4000
set_option maxHeartbeats 1000000
inductive LX where
  | mk (kind : Int) (name exc : List UInt8) (kids : List LX)
def LX.kind : LX → Int
  | .mk k _ _ _ => k
def LX.name : LX → List UInt8
  | .mk _ n _ _ => n
def LX.exc : LX → List UInt8
  | .mk _ _ e _ => e
def LX.kids : LX → List LX
  | .mk _ _ _ l => l
theorem LX.ind {p : LX → Prop} (h : ∀ k n e l, (∀ x ∈ l, p x) → p (.mk k n e l)) (x : LX) : p x := by
  refine LX.rec (motive_1 := p) (motive_2 := fun l => ∀ x ∈ l, p x) (fun k n e l hl => h k n e l hl) (fun x hx => by cases hx) (fun y l hy hl x hx => ?_) x
  rcases List.mem_cons.1 hx with rfl | hx
  · exact hy
  · exact hl x hx
mutual
def eX : LX → D
  | .mk k n e l => .agg [i64 k, .str n, .str e, .list (eXs l)]
def eXs : List LX → List D
  | [] => []
  | x :: l => eX x :: eXs l
end
theorem eXs_map : ∀ l : List LX, eXs l = l.map eX
  | [] => by simp [eXs]
  | x :: l => by rw [eXs, eXs_map l, List.map_cons]
@[go_sem] theorem eX_eq (x : LX) : eX x = .agg [.int .i64 x.kind, .str x.name, .str x.exc, .list (x.kids.map eX)] := by
  cases x
  rw [eX, eXs_map]
  rfl
theorem eX_inj (a : LX) : ∀ b, eX a = eX b → a = b := by
  refine LX.ind (p := fun a => ∀ b, eX a = eX b → a = b) (fun k n e l ih b h => ?_) a
  cases b with
  | mk k' n' e' l' =>
    simp only [eX, D.agg.injEq, List.cons.injEq, D.int.injEq, D.str.injEq, D.list.injEq, true_and, and_true, eXs_map] at h
    obtain ⟨rfl, rfl, rfl, h⟩ := h
    have : l = l' := by
      clear k n e
      induction l generalizing l' with
      | nil => cases l' with
        | nil => rfl
        | cons y r => simp at h
      | cons x l il => cases l' with
        | nil => simp at h
        | cons y r =>
          simp only [List.map_cons, List.cons.injEq] at h
          rw [ih x (by simp) y h.1, il (fun z hz => ih z (by simp [hz])) r h.2]
    rw [this]
theorem eX_ie (a b : LX) : (eX a = eX b) = (a = b) := propext ⟨eX_inj a b, fun h => by rw [h]⟩
theorem eXs_ie (a b : List LX) : (a.map eX = b.map eX) = (a = b) := map_ie eX_inj a b
theorem lx_ie : (∀ a b : LX, (eX a = eX b) = (a = b)) ∧ (∀ a b : List LX, (a.map eX = b.map eX) = (a = b)) := ⟨eX_ie, eXs_ie⟩
def LX.hgt : LX → Nat
  | .mk _ _ _ l => hgts l + 1
where hgts : List LX → Nat
  | [] => 0
  | x :: l => max (LX.hgt x) (hgts l)
theorem LX.hgt_kid {x y : LX} (h : y ∈ x.kids) : y.hgt < x.hgt := by
  cases x with
  | mk k n e l =>
    simp only [LX.kids] at h
    simp only [LX.hgt]
    induction l with
    | nil => cases h
    | cons z l ih =>
      simp only [LX.hgt.hgts]
      rcases List.mem_cons.1 h with rfl | h
      · omega
      · have := ih h; omega
theorem LX.hgt_pos (x : LX) : 1 ≤ x.hgt := by cases x; simp only [LX.hgt]; omega
def LX.size : LX → Nat
  | .mk _ _ _ l => sizes l + 1
where sizes : List LX → Nat
  | [] => 0
  | x :: l => LX.size x + sizes l
theorem LX.size_eq (x : LX) : x.size = LX.size.sizes x.kids + 1 := by cases x; simp [LX.size, LX.kids]
theorem LX.sizes_append : ∀ a b : List LX, LX.size.sizes (a ++ b) = LX.size.sizes a + LX.size.sizes b
  | [], b => by simp [LX.size.sizes]
  | x :: a, b => by simp only [List.cons_append, LX.size.sizes, LX.sizes_append a b]; omega
theorem LX.sizes_take {l : List LX} {i : Nat} (h : i < l.length) : LX.size.sizes (l.take (i + 1)) = LX.size.sizes (l.take i) + (l[i]).size := by
  rw [List.take_add_one, List.getElem?_eq_getElem h, LX.sizes_append]
  simp [LX.size.sizes]
theorem LX.sizes_le {l : List LX} (i : Nat) : LX.size.sizes (l.take i) ≤ LX.size.sizes l := by
  conv => rhs; rw [← List.take_append_drop i l, LX.sizes_append]
  omega
theorem LX.size_kid {x y : LX} (h : y ∈ x.kids) : y.size < x.size := by
  rw [LX.size_eq x]
  obtain ⟨s, t, hst⟩ := List.append_of_mem h
  rw [hst, LX.sizes_append]
  simp only [LX.size.sizes]
  omega
theorem LX.size_pos (x : LX) : 1 ≤ x.size := by rw [LX.size_eq]; omega
theorem LX.len_le (x : LX) : x.kids.length < x.size := by
  rw [LX.size_eq]
  have : ∀ l : List LX, l.length ≤ LX.size.sizes l := by
    intro l
    induction l with
    | nil => simp
    | cons y l ih => have := y.size_pos; simp only [LX.size.sizes, List.length_cons]; omega
  have := this x.kids
  omega
theorem LX.hgt_le (x : LX) : x.hgt ≤ x.size := by
  refine LX.ind (p := fun x => x.hgt ≤ x.size) (fun k n e l ih => ?_) x
  simp only [LX.hgt, LX.size]
  induction l with
  | nil => simp [LX.hgt.hgts]
  | cons z l il =>
    have h1 := ih z (by simp)
    have h2 := il fun x hx => ih x (by simp [hx])
    simp only [LX.hgt.hgts, LX.size.sizes]
    have := z.size_pos
    omega
inductive LX.Bd (m : Nat) : LX → Prop where
  | mk (x : LX) (hn : x.name.length ≤ m) (he : x.exc.length ≤ m) (hz : x.size ≤ m) (hk : ∀ y ∈ x.kids, LX.Bd m y) : LX.Bd m x
theorem LX.Bd.n {m : Nat} {x : LX} (h : x.Bd m) : x.name.length ≤ m := by cases h; assumption
theorem LX.Bd.e {m : Nat} {x : LX} (h : x.Bd m) : x.exc.length ≤ m := by cases h; assumption
theorem LX.Bd.z {m : Nat} {x : LX} (h : x.Bd m) : x.size ≤ m := by cases h; assumption
theorem LX.Bd.k {m : Nat} {x y : LX} (h : x.Bd m) (hy : y ∈ x.kids) : y.Bd m := by cases h; rename_i hk; exact hk y hy
end Go.Ab
namespace Go.Ab
open Go Go.RowKit Go.Proofs
set_option maxRecDepth 4000
set_option maxHeartbeats 4000000
section
variable {H : Type} {enc : TypeId × Value → H} {P : Program} {w : World}
end
end Go.Ab
namespace Go.Ab
open Go Go.RowKit Go.Proofs
open Go.Proofs.YtlfmbcjjojedgaaGreatDoor
set_option maxRecDepth 4000
mutual
theorem bulk_le {H : Type} : ∀ d : DataW H, bulk d ≤ Rows.uptoBulk d
  | .lit l => by cases l <;> simp [bulk, Rows.uptoBulk]
  | .nil => by simp [bulk, Rows.uptoBulk]
  | .ptr d => by have := bulk_le d; simp only [bulk, Rows.uptoBulk]; omega
  | .slice a b => by have := bulkAll_le a; have := bulkAll_le b; simp only [bulk, Rows.uptoBulk]; omega
  | .agg a => by have := bulkAll_le a; simp only [bulk, Rows.uptoBulk]; omega
  | .iface _ d => by have := bulk_le d; simp only [bulk, Rows.uptoBulk]; omega
  | .map es => by simp [bulk, Rows.uptoBulk]
  | .held _ => by simp [bulk, Rows.uptoBulk]
theorem bulkAll_le {H : Type} : ∀ l : List (DataW H), bulkAll l ≤ Rows.uptoBulkAll l
  | [] => by simp [bulkAll, Rows.uptoBulkAll]
  | d :: r => by have := bulk_le d; have := bulkAll_le r; simp only [bulkAll, Rows.uptoBulkAll]; omega
end
theorem trodAll_len {H : Type} {enc : TypeId × Value → H} {P : Program} {W : World} : ∀ (ts : List TypeId) (vs : List Value) (ds : List (DataW H)) (ps : List MemPlace), DataW.TrodAll enc P W 0 (fun _ => true) true ts vs ds ps → ds.length = ts.length
  | [], vs, ds, ps, h => by
    obtain ⟨rfl, rfl, rfl⟩ := ChangeShapes.trodAll_nil h
    rfl
  | t :: ts, vs, ds, ps, h => by
    obtain ⟨v, vs', d, ds', p, q, rfl, rfl, rfl, h1, h2⟩ := ChangeShapes.trodAll_cons h
    simp [trodAll_len ts vs' ds' q h2]
theorem has_str {n : Nat} {cs : List D} (h : HasTy n .str cs) : ∃ s : List UInt8, s.length ≤ n ∧ Ty.str.pack cs = .str s := by
  obtain ⟨s, hl, rfl⟩ := h
  exact ⟨s, hl, rfl⟩
theorem laid36 : laidOutB Tryz.prog = true := by kernel_rfl
theorem own36 : ownKnob Tryz.prog.godebug = none := by kernel_rfl
def accCells : Array Value := #[.int .u8 128, .int .u8 191, .int .u8 160, .int .u8 191, .int .u8 128, .int .u8 159, .int .u8 144, .int .u8 191, .int .u8 128, .int .u8 143, .int .u8 0, .int .u8 0, .int .u8 0, .int .u8 0, .int .u8 0, .int .u8 0, .int .u8 0, .int .u8 0, .int .u8 0, .int .u8 0, .int .u8 0, .int .u8 0, .int .u8 0, .int .u8 0, .int .u8 0, .int .u8 0, .int .u8 0, .int .u8 0, .int .u8 0, .int .u8 0, .int .u8 0, .int .u8 0]
def firstCells : Array Value := (Go.Pinned.utf8FirstZ.map fun n : Nat => Value.int .u8 (n : Int)).toArray
def layCells (cs : Array Value) : Go.Obj → Go.Obj
  | .cells _ t frozen => .cells cs t frozen
  | o => o
noncomputable def laidWorld (os : Os) : World :=
  { World.holding Tryz.prog os ⟨#[], #[], []⟩ with heap := ((World.holding Tryz.prog os ⟨#[], #[], []⟩).heap.modify 1 (layCells firstCells)).modify 2 (layCells accCells) }
def RT (ty : Ty) (n : Nat) (d : D) : Prop := ∃ cs, HasTy n ty cs ∧ d = ty.pack cs
theorem rt_str {n : Nat} {d : D} (h : RT .str n d) : ∃ s : List UInt8, s.length ≤ n ∧ d = .str s := by
  obtain ⟨cs, h1, rfl⟩ := h
  obtain ⟨s, hl, e⟩ := has_str h1
  exact ⟨s, hl, e⟩
end Go.Ab
namespace Go.Ab
open Go Go.RowKit Go.Proofs
set_option maxRecDepth 10000
set_option maxHeartbeats 8000000
def Strict (l : List Bs) : Prop := l.Pairwise fun a b => a < b
theorem lt_irr (a : Bs) : ¬ a < a := List.lt_irrefl a
theorem le_lt {a b : Bs} (h : a ≤ b) (k : a ≠ b) : a < b := by
  by_cases hl : a < b
  · exact hl
  · exact absurd (List.le_antisymm h (List.not_lt.1 hl)) k
theorem strict_eq : ∀ (a b : List Bs), Strict a → Strict b → (∀ x, x ∈ a ↔ x ∈ b) → a = b
  | [], [], _, _, _ => rfl
  | [], y :: b, _, _, h => absurd ((h y).2 (by simp)) (by simp)
  | x :: a, [], _, _, h => absurd ((h x).1 (by simp)) (by simp)
  | x :: a, y :: b, ha, hb, h => by
    obtain ⟨ha1, ha2⟩ := List.pairwise_cons.1 ha
    obtain ⟨hb1, hb2⟩ := List.pairwise_cons.1 hb
    have hxy : x = y := by
      rcases List.mem_cons.1 ((h x).1 (by simp)) with e | hx
      · exact e
      · rcases List.mem_cons.1 ((h y).2 (by simp)) with e | hy
        · exact e.symm
        · exact absurd (List.lt_trans (ha1 y hy) (hb1 x hx)) (lt_irr x)
    subst hxy
    rw [strict_eq a b ha2 hb2 fun z => ?_]
    constructor
    · intro hz
      rcases List.mem_cons.1 ((h z).1 (by simp [hz])) with e | k
      · subst e; exact absurd (ha1 z hz) (lt_irr z)
      · exact k
    · intro hz
      rcases List.mem_cons.1 ((h z).2 (by simp [hz])) with e | k
      · subst e; exact absurd (hb1 z hz) (lt_irr z)
      · exact k
def cpStep (acc : List Bs) (x : Bs) : List Bs := if acc.getLast? == some x then acc else acc ++ [x]
def compB (l : List Bs) : List Bs := l.foldl cpStep []
theorem comp_key : ∀ (r acc : List Bs), Strict acc → (∀ x ∈ acc, ∀ y ∈ r, x ≤ y) → r.Pairwise (fun a b => a ≤ b) → Strict (r.foldl cpStep acc) ∧ ∀ z, z ∈ r.foldl cpStep acc ↔ z ∈ acc ∨ z ∈ r
  | [], acc, h, _, _ => ⟨h, fun z => by simp⟩
  | y :: r, acc, h, hle, hr => by
    obtain ⟨hr1, hr2⟩ := List.pairwise_cons.1 hr
    rw [List.foldl_cons]
    by_cases hl : acc.getLast? = some y
    · have hm : y ∈ acc := List.mem_of_getLast? hl
      rw [show cpStep acc y = acc by unfold cpStep; rw [hl]; simp]
      obtain ⟨h1, h2⟩ := comp_key r acc h (fun x hx z hz => hle x hx z (by simp [hz])) hr2
      refine ⟨h1, fun z => ?_⟩
      rw [h2 z, List.mem_cons]
      constructor
      · rintro (k | k)
        · exact .inl k
        · exact .inr (.inr k)
      · rintro (k | rfl | k)
        · exact .inl k
        · exact .inl hm
        · exact .inr k
    · rw [show cpStep acc y = acc ++ [y] by unfold cpStep; rw [if_neg (by simpa using hl)]]
      have hs : Strict (acc ++ [y]) := by
        refine List.pairwise_append.2 ⟨h, List.pairwise_singleton _ _, fun x hx z hz => ?_⟩
        rw [List.mem_singleton.1 hz]
        refine le_lt (hle x hx y (by simp)) fun e => ?_
        subst e
        rcases List.eq_nil_or_concat acc with rfl | ⟨u, b, rfl⟩
        · cases hx
        · rw [List.concat_eq_append] at h hl hx
          rw [List.getLast?_concat] at hl
          have hb : b ≠ x := fun e => hl (by rw [e])
          rcases List.mem_append.1 hx with hx | hx
          · have h3 := (List.pairwise_append.1 h).2.2 x hx b (by simp)
            have h4 := hle b (by simp) x (by simp)
            exact h4 h3
          · exact hb (List.mem_singleton.1 hx).symm
      obtain ⟨h1, h2⟩ := comp_key r (acc ++ [y]) hs (fun x hx z hz => by
        rcases List.mem_append.1 hx with hx | hx
        · exact hle x hx z (by simp [hz])
        · rw [List.mem_singleton.1 hx]; exact hr1 z hz) hr2
      refine ⟨h1, fun z => ?_⟩
      rw [h2 z, List.mem_append, List.mem_singleton, List.mem_cons, or_assoc]
def sortB (l : List Bs) : List Bs := l.mergeSort fun x y => decide (x ≤ y)
theorem sortB_le (l : List Bs) : (sortB l).Pairwise (fun a b => a ≤ b) := by
  have := List.pairwise_mergeSort (le := fun x y : Bs => decide (x ≤ y)) (fun a b c h k => by simp only [decide_eq_true_eq] at *; exact List.le_trans h k) (fun a b => by simpa using List.le_total a b) l
  exact this.imp fun h => by simpa using h
theorem sortB_perm (l : List Bs) : (sortB l).Perm l := List.mergeSort_perm l _
def holdT (l : List Hd) : List Bs := (l.filter (isK 1)).map Hd.text
def holdP (l : List Hd) : List Bs := compB (sortB (holdT l))
theorem holdP_ok (l : List Hd) : Strict (holdP l) ∧ ∀ z, z ∈ holdP l ↔ z ∈ holdT l := by
  obtain ⟨h1, h2⟩ := comp_key (sortB (holdT l)) [] List.Pairwise.nil (fun x hx => by cases hx) (sortB_le _)
  refine ⟨h1, fun z => ?_⟩
  rw [show holdP l = (sortB (holdT l)).foldl cpStep [] from rfl, h2 z]
  simp [(sortB_perm (holdT l)).mem_iff]
end Go.Ab
namespace Go.Ab
open Go Go.RowKit Go.Proofs
set_option maxRecDepth 4000
set_option maxHeartbeats 4000000
def letterI (c : Int) : Bool := (decide (c ≥ 97) && decide (c ≤ 122)) || (decide (c ≥ 48) && decide (c ≤ 57)) || c == 45 || c == 46
def letter (b : UInt8) : Bool := letterI b.toNat
def isBl (b : UInt8) : Bool := (b.toNat : Int) == 32
def runN (p : UInt8 → Bool) (s : List UInt8) (a : Nat) : Nat := a + ((s.drop a).takeWhile p).length
theorem runN_yes {p : UInt8 → Bool} {s : List UInt8} {i : Nat} (hi : i < s.length) (hp : p s[i] = true) : runN p s i = runN p s (i + 1) := by
  unfold runN
  rw [List.drop_eq_getElem_cons hi, List.takeWhile_cons, if_pos hp, List.length_cons]
  omega
theorem runN_no {p : UInt8 → Bool} {s : List UInt8} {i : Nat} (hi : i < s.length) (hp : p s[i] = false) : runN p s i = i := by
  unfold runN
  rw [List.drop_eq_getElem_cons hi, List.takeWhile_cons, if_neg (by simp [hp])]
  simp
theorem runN_end {p : UInt8 → Bool} {s : List UInt8} {i : Nat} (hi : s.length ≤ i) : runN p s i = i := by
  unfold runN
  rw [List.drop_eq_nil_of_le hi]
  simp
theorem runN_le {p : UInt8 → Bool} {s : List UInt8} {i : Nat} (hi : i ≤ s.length) : i ≤ runN p s i ∧ runN p s i ≤ s.length := by
  unfold runN
  have h := List.IsPrefix.length_le (List.takeWhile_prefix p (l := s.drop i))
  rw [List.length_drop] at h
  omega
abbrev skipN := runN isBl
def wordN (s : List UInt8) (a : Nat) : List UInt8 := (s.drop a).takeWhile letter
end Go.Ab
namespace Go.Ab
open Go Go.RowKit Go.Proofs
set_option maxRecDepth 4000
set_option maxHeartbeats 8000000
def headOK (s : List UInt8) : Bool := match s with
  | [] => false
  | b :: _ => !(decide ((b.toNat : Int) < 97)) && !(decide ((b.toNat : Int) > 122))
def isNameB (s : List UInt8) : Bool := !(decide ((s.length : Int) > 32)) && (headOK s && (!(s == [97, 110, 100]) && (!(s == [111, 114]) && (!(s == [119, 105, 116, 104]) && s.all letter))))
end Go.Ab
