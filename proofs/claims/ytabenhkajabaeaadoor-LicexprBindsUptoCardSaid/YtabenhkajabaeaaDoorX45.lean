/-
  One text of the proof (own work): contracts of functions of the program, by the abstract machine.
-/
import Derived.Test.YtabenhkajabaeaaDoorX23
import Derived.Test.YtabenhkajabaeaaDoorX44
import Derived.Test.YtabenhkajabaeaaDoorX33
import Derived.Test.YtabenhkajabaeaaDoorX21
import Derived.Test.YtabenhkajabaeaaDoorX24
set_option linter.unusedVariables false
set_option linter.unusedSimpArgs false
namespace Go.Ab
open Go Go.RowKit Go.Proofs
set_option maxRecDepth 10000
set_option maxHeartbeats 8000000
theorem eqX_refl (x : LX) : eqX x x = true := (eqX_iff x x).2 rfl
noncomputable def g_law3 : List D → Option D := encSpec (fun s : List UInt8 => [.str s]) (fun s => s.length ≤ 1099511627776) (fun _ => .bool true)
theorem g_law3_eq {s : List UInt8} (h : s.length ≤ 1099511627776) : g_law3 [.str s] = some (.bool true) := encSpec_eq (x := s) h fun _ _ => rfl
theorem f_law3_ok : PureOK Tryd.prog 3 true g_law3 := by
  have hΓ := (Γp f_awake_ok (Γp f_parseP_ok (Γp f_parseR_ok (Γp (f_equalR_ok 1099511627776) (Γn)))))
  refine pure_enc (n := 60) (rs := [.tmp 2]) Tryd.func3 (by kernel_rfl) rfl (by kernel_rfl) (by kernel_rfl) ?_
  intro s hd
  (try dsimp only at hd ⊢)
  refine ⟨fun _ => .bool _, fun k hz0 => ?_⟩
  have e0 := g_awake_eq
  have e1 := g_parseP_eq hd
  have e2 := g_parseR_eq hd
  obtain ⟨r1, r2⟩ := parse_rel s
  generalize hb1 : decide ((s.length : Int) > 800) = b1
  generalize hb2 : decide ((s.length : Int) ≤ 1024) = b2
  generalize hb3 : decide ((s.length : Int) > 2000) = b3
  generalize rParse s = R at *
  have q0 := g_equalR_eq (h := 1099511627776) (a := x0) (b := x0) ⟨by decide, x0_bd, x0_bd⟩
  rw [eqX_refl] at q0
  rw [start_frame (by simp)]; simp only [enumV, go_sem, emptyH]
  by_cases he : R.err = 0
  · obtain ⟨h1, h2⟩ := r2 he
    rw [h1] at e1
    have hh := Nat.le_trans R.expr.hgt_le h2.z
    have q1 := g_equalR_eq (h := 1099511627776) (a := R.expr) (b := R.expr) ⟨hh, h2, h2⟩
    rw [eqX_refl] at q1
    simp only [ePr, eRes, eX_eq] at e1 e2 q1
    rw [he] at e2
    generalize R.expr.kind = kk at *
    generalize R.expr.name = nn at *
    generalize R.expr.exc = xx at *
    generalize R.expr.kids = dd at *
    cases b1 <;> cases b2 <;> cases b3 <;> (
      repeat (first
        | (apply axJ; (focus ((with_reducible constructor) <;> rfl)))
        | (apply awT mixedOK hΓ (by kernel_rfl); (simp (disch := omega) only [go_sem, ↓reduceIte, dk, ↓lk, Int.reduceBEq, Int.reduceBNe, Bool.true_bne, Bool.false_bne, Bool.not_true, Bool.not_false, ↓ty_build25, hb1, hb2, hb3, e0, e1, e2, q1] <;> with_reducible rfl))
        | ((first | apply awR hΓ | apply awG | apply awH mixedOK hΓ rfl (by kernel_rfl) | apply ovE rfl); (simp (disch := omega) only [go_sem, ↓reduceIte, dk, ↓lk, Int.reduceBEq, Int.reduceBNe, Bool.true_bne, Bool.false_bne, Bool.not_true, Bool.not_false, ↓ty_build25, hb1, hb2, hb3, e0, e1, e2, q1] <;> with_reducible rfl); exact trivial)
        | rfl)
      try rfl)
  · have h1 := r1 he
    rw [h1] at e1
    have heb : (R.err != 0) = true := by simpa [bne] using he
    have hea : ((R.at' : Int) == (R.at' : Int)) = true := beq_self_eq_true _
    have hee : (R.err == R.err) = true := beq_self_eq_true _
    simp only [ePr, eRes, eX_eq, show x0.kind = 0 from rfl, show x0.name = [] from rfl, show x0.exc = [] from rfl, show x0.kids = [] from rfl, List.map_nil] at e1 e2 q0
    cases b1 <;> cases b2 <;> cases b3 <;> (
      repeat (first
        | (apply axJ; (focus ((with_reducible constructor) <;> rfl)))
        | (apply awT mixedOK hΓ (by kernel_rfl); (simp (disch := omega) only [go_sem, ↓reduceIte, dk, ↓lk, Int.reduceBEq, Int.reduceBNe, Bool.true_bne, Bool.false_bne, Bool.not_true, Bool.not_false, ↓ty_build25, hb1, hb2, hb3, e0, e1, e2, q0, heb, hea, hee] <;> with_reducible rfl))
        | ((first | apply awR hΓ | apply awG | apply awH mixedOK hΓ rfl (by kernel_rfl) | apply ovE rfl); (simp (disch := omega) only [go_sem, ↓reduceIte, dk, ↓lk, Int.reduceBEq, Int.reduceBNe, Bool.true_bne, Bool.false_bne, Bool.not_true, Bool.not_false, ↓ty_build25, hb1, hb2, hb3, e0, e1, e2, q0, heb, hea, hee] <;> with_reducible rfl); exact trivial)
        | rfl)
      try rfl)
end Go.Ab
namespace Go.Ab
open Go Go.RowKit
def Rd (P : Program) (t : TypeId) (R : Nat → D → Prop) : Prop :=
  ∀ (H : Type) (enc : TypeId × Value → H) (W : World) (base n : Nat) (v : Value) (d : DataW H) (ps : List MemPlace), DataW.Trod enc P W 0 (fun _ => true) true t v d ps → Value.okWide P W .any base t v → bulk d ≤ n → ∃ x, R n x ∧ DR W (belowSz W) x v
theorem rd_ty {P : Program} {ty : Ty} {t : TypeId} (hf : ty.fits P t = true) : Rd P t (fun n x => ∃ cs, HasTy n ty cs ∧ x = ty.pack cs) := fun H enc W base n v d ps h hv hb => by
  obtain ⟨cs, h1, h2⟩ := arg_read hf h hv hb
  exact ⟨_, ⟨cs, h1, rfl⟩, h2⟩
def RdAll (P : Program) : List TypeId → List (Nat → D → Prop) → Prop
  | [], [] => True
  | t :: ts, R :: Rs => Rd P t R ∧ RdAll P ts Rs
  | _, _ => False
def HasRs (n : Nat) : List (Nat → D → Prop) → List D → Prop
  | [], xs => xs = []
  | R :: Rs, xs => ∃ x ys, R n x ∧ HasRs n Rs ys ∧ xs = x :: ys
section
variable {H : Type} {enc : TypeId × Value → H} {P : Program} {W W' : World}
theorem args_rd {n base : Nat} : ∀ (Rs : List (Nat → D → Prop)) (ts : List TypeId) (vs : List Value) (ds : List (DataW H)) (ps : List MemPlace), RdAll P ts Rs → DataW.TrodAll enc P W 0 (fun _ => true) true ts vs ds ps →
    (∀ (j : Nat) t v, ts[j]? = some t → vs[j]? = some v → Value.okWide P W .any base t v) → bulkAll ds ≤ n → ∃ xs, HasRs n Rs xs ∧ vs.length = xs.length ∧ ∀ i (hi : i < xs.length) u, vs[i]? = some u → DR W (belowSz W) (xs[i]) u
  | [], [], vs, ds, ps, hf, h, hv, hb => by
    obtain ⟨rfl, rfl, rfl⟩ := ChangeShapes.trodAll_nil h
    exact ⟨[], rfl, rfl, fun i hi => by simp at hi⟩
  | [], t :: ts, vs, ds, ps, hf, h, hv, hb => by simp [RdAll] at hf
  | R :: r, [], vs, ds, ps, hf, h, hv, hb => by simp [RdAll] at hf
  | R :: r, t :: ts, vs, ds, ps, hf, h, hv, hb => by
    obtain ⟨v, vs', d, ds', p, q, rfl, rfl, rfl, h1, h2⟩ := ChangeShapes.trodAll_cons h
    simp only [bulkAll] at hb
    obtain ⟨x, g1, g2⟩ := hf.1 H enc W base n v d p h1 (hv 0 t v rfl rfl) (by omega)
    obtain ⟨xs, g3, g4, g5⟩ := args_rd (n := n) (base := base) r ts vs' ds' q hf.2 h2 (fun j t' v' hj hj' => hv (j + 1) t' v' (by simpa using hj) (by simpa using hj')) (by omega)
    refine ⟨x :: xs, ⟨x, xs, g1, g3, rfl⟩, by simp [g4], fun i hi u hu => ?_⟩
    cases i with
    | zero => simp at hu; subst hu; exact g2
    | succ i => exact g5 i (by simpa using hi) u (by simpa using hu)
theorem law_callsR {f : FuncId} {fn : Func} {s : ChangeSpec} {g : List D → Option D} {fl apart : Bool} {Rs : List (Nat → D → Prop)} {n base : Nat} {tb : TypeId} (hok : PureOK P f fl g) (hl : laidOutB P = true) (hr : fn.params.toList.all (fun t => P.readableRec t && decide (t < P.types.size)) = true)
    (hres : fn.resultTypes.toList = [tb]) (htb : P.underlying tb = some .bool) (hfit : RdAll P fn.params.toList Rs) (hg : ∀ xs, HasRs n Rs xs → g xs = some (.bool true)) (hs : s.vars = []) {args : Array Value} {ds gs : List (DataW H)} {before : List MemPlace}
    (hval : ∀ (j : Nat) t v, fn.params[j]? = some t → args[j]? = some v → Value.okWide P W .any base t v) (hW : DataW.Whole enc P fn.params.toList s.vars apart W args.toList ds gs before)
    (hspec : s.fn H (ds ++ gs) = { results := [.lit (.bool true)], args := ds }) (hbulk : bulkAll ds ≤ n) :
    Calls P f args W fun e W' => ∃ v, e = .returned v ∧ s.post enc P fn apart true false false W args v W' := by
  have hW' := hW
  have hlt := hW.lt
  obtain ⟨p, q, hA, hV, rfl, hfz, hnd⟩ := hW
  rw [hs] at hV
  obtain ⟨rfl, rfl⟩ := ChangeShapes.trodVars_none hV
  obtain ⟨xs, h1, h2, h3⟩ := args_rd (n := n) Rs _ _ _ _ hfit hA (fun j t v hj hv => hval j t v (by simpa using hj) (by simpa using hv)) hbulk
  obtain ⟨_, hcall⟩ := hok xs _ (hg xs h1)
  obtain ⟨_, hc⟩ := hcall W (belowSz W) args (fun b hb => hb) (by simpa using h2) (fun i hi u hu => h3 i hi u (by simpa using hu))
  refine hc.mono ?_
  rintro e W' ⟨v, rfl, hdr, hbel⟩
  have hv := hdr.bool_eq
  subst hv
  have hrs : fn.resultTypes.size = 1 := by
    have := congrArg List.length hres
    simpa using this
  refine ⟨_, rfl, ds, [], p ++ [], [], p, [], hW', ?_, ?_, ?_, ?_, fun h => (by cases h)⟩
  · rw [hspec, hres]
    have : (Value.bool true).resultList fn.resultTypes.size = [.bool true] := by rw [hrs]; rfl
    rw [this]
    exact trodAll_cons_mk (shut_bool htb _) ChangeShapes.trodAll_mk0
  · rw [hspec]
    exact args_stay hl hbel _ _ _ _ hr hA (fun x hx => hlt x (by simp [hx]))
  · rw [hs, hspec]
    rfl
  · exact hbel.frame _
end
end Go.Ab
namespace Go.Ab
open Go Go.RowKit Go.Proofs
set_option maxRecDepth 4000
set_option maxHeartbeats 4000000
def lxFits (P : Program) (t : TypeId) : Bool := match P.underlying t with
  | some (.struct fds) => match fds.toList with
    | [f0, f1, f2, f3] => (f0.offset == 0) && (P.cellsOf f0.type == 1) && (Ty.int .i64).fits P f0.type && (f1.offset == 1) && (P.cellsOf f1.type == 1) && Ty.str.fits P f1.type && (f2.offset == 2) && (P.cellsOf f2.type == 1) && Ty.str.fits P f2.type && (f3.offset == 3) && (P.cellsOf f3.type == 1) && (P.cellsOf t == 4) && (match P.underlying f3.type with
      | some (.slice e) => e == t
      | _ => false)
    | _ => false
  | _ => false
def cellsX (x : LX) : List D := [.int .i64 x.kind, .str x.name, .str x.exc, .list (x.kids.map eX)]
theorem cellsX_eq (x : LX) : eX x = .agg (cellsX x) := eX_eq x
theorem sizes_bulk {H : Type} : ∀ (xs : List LX) (ds : List (DataW H)), xs.length = ds.length → (∀ i (h1 : i < xs.length) (h2 : i < ds.length), xs[i].size ≤ bulk ds[i]) → LX.size.sizes xs ≤ bulkAll ds
  | [], ds, _, _ => by simp [LX.size.sizes]
  | x :: xs, [], h, _ => by simp at h
  | x :: xs, d :: ds, h, hb => by
    have h1 := hb 0 (by simp) (by simp)
    have h2 := sizes_bulk xs ds (by simpa using h) (fun i h1 h2 => hb (i + 1) (by simpa using h1) (by simpa using h2))
    simp only [List.getElem_cons_zero] at h1
    simp only [LX.size.sizes, bulkAll]
    omega
theorem bd_mono' {m m' : Nat} (h : m ≤ m') {x : LX} : x.Bd m → x.Bd m' := by
  refine LX.ind (p := fun x => x.Bd m → x.Bd m') (fun k n e l ih hb => ?_) x
  exact .mk _ (Nat.le_trans hb.n h) (Nat.le_trans hb.e h) (Nat.le_trans hb.z h) (fun y hy => ih y hy (hb.k hy))
section
variable {H : Type} {enc : TypeId × Value → H} {P : Program} {w : World}
theorem lx_reads {t : TypeId} (hf : lxFits P t = true) : ∀ (fuel : Nat) (cs : List Value) (d : DataW H) (ps : List MemPlace), DataW.trod enc P w 0 (fun _ => true) true fuel t cs = some (d, ps) →
    ∃ x : LX, x.Bd (bulk d) ∧ CellsR w (cellsX x) cs := by
  intro fuel
  induction fuel using Nat.strongRecOn with
  | _ fuel ih =>
  intro cs d ps h
  cases fuel with
  | zero => simp [DataW.trod] at h
  | succ fuel =>
  unfold lxFits at hf
  split at hf <;> try (cases hf; done)
  rename_i fds hu
  split at hf <;> try (cases hf; done)
  rename_i f0 f1 f2 f3 hfl
  simp only [Bool.and_eq_true, beq_iff_eq] at hf
  obtain ⟨⟨⟨⟨⟨⟨⟨⟨⟨⟨⟨⟨o0, z0⟩, t0⟩, o1⟩, z1⟩, t1⟩, o2⟩, z2⟩, t2⟩, o3⟩, z3⟩, z4⟩, t3⟩ := hf
  unfold DataW.trod at h
  rw [hu] at h
  split at h <;> first | (cases ‹some (TypeDesc.struct fds) = some _›; done) | skip
  · rename_i cs _ _ fs' h1
    cases h1
    split at h
    · rename_i hc
      simp only [Option.map_eq_some_iff, Prod.mk.injEq] at h
      obtain ⟨xs, hx, rfl, rfl⟩ := h
      rw [hfl] at hx
      simp only [List.mapM_cons, List.mapM_nil, Option.bind_eq_bind, Option.bind_eq_some_iff, Option.pure_def, Option.some.injEq] at hx
      obtain ⟨y0, hy0, r0, ⟨y1, hy1, r1, ⟨y2, hy2, r2, ⟨y3, hy3, r3, rfl, rfl⟩, rfl⟩, rfl⟩, rfl⟩ := hx
      rw [z4] at hc
      have hcs : ∃ c0 c1 c2 c3, cs = [c0, c1, c2, c3] := by
        match cs, hc with
        | [c0, c1, c2, c3], _ => exact ⟨c0, c1, c2, c3, rfl⟩
      obtain ⟨c0, c1, c2, c3, rfl⟩ := hcs
      rw [o0, z0] at hy0
      rw [o1, z1] at hy1
      rw [o2, z2] at hy2
      rw [o3, z3] at hy3
      simp only [List.drop_zero, List.drop_succ_cons, List.take_succ_cons, List.take_zero] at hy0 hy1 hy2 hy3
      obtain ⟨e0, g0, q0⟩ := trod_reads (n := bulk y0.1) (.int .i64) fuel f0.type _ y0.1 y0.2 t0 hy0 (Nat.le_refl _)
      obtain ⟨e1, g1, q1⟩ := trod_reads (n := bulk y1.1) .str fuel f1.type _ y1.1 y1.2 t1 hy1 (Nat.le_refl _)
      obtain ⟨e2, g2, q2⟩ := trod_reads (n := bulk y2.1) .str fuel f2.type _ y2.1 y2.2 t2 hy2 (Nat.le_refl _)
      obtain ⟨k, _, rfl⟩ := g0
      obtain ⟨nm, ln, rfl⟩ := g1
      obtain ⟨ex, le, rfl⟩ := g2
      have key : ∃ l : List LX, (∀ x ∈ l, x.Bd (bulk y3.1)) ∧ LX.size.sizes l + 1 ≤ bulk y3.1 ∧ CellsR w [.list (l.map eX)] [c3] := by
        clear hy0 hy1 hy2 q0 q1 q2
        cases fuel with
        | zero => simp [DataW.trod] at hy3
        | succ fuel =>
        split at t3 <;> try (cases t3; done)
        rename_i e hs
        simp only [beq_iff_eq] at t3
        subst t3
        unfold DataW.trod at hy3
        rw [hs] at hy3
        split at hy3 <;> first | (cases ‹some (TypeDesc.slice e) = some _›; done) | skip
        · rename_i h2
          cases h2
          refine ⟨[], fun x hx => (by cases hx), ?_, rfl, fun i hi u hu => ?_⟩
          · have := bulk_pos y3.1; simp only [LX.size.sizes]; omega
          · have hi0 : i = 0 := by simp at hi; omega
            subst hi0
            simp at hu
            subst hu
            exact .empty none 0
        · rename_i e1 a len cap h3 h2
          cases h2
          cases h3
          split at hy3
          · rename_i hc3
            simp only [Option.bind_eq_some_iff, Option.map_eq_some_iff] at hy3
            obtain ⟨elems, he, rest, hr, hdp⟩ := hy3
            obtain ⟨y3a, y3b⟩ := y3
            simp only [Prod.mk.injEq] at hdp
            obtain ⟨rfl, rfl⟩ := hdp
            obtain ⟨hel, hget⟩ := mapM_range he
            rw [z4] at hget
            have hR := slice_readsG (w := w) (len := len) (cap := cap) (sz := 4) (a := a) (pk := D.agg)
              (R := fun i ds => ∃ x : LX, ds = cellsX x ∧ ∃ hi : i < elems.length, x.Bd (bulk (elems[i]).1))
              (fun i ds hd => by
                obtain ⟨x, rfl, _⟩ := hd
                refine ⟨rfl, rfl, fun d hd => ?_⟩
                simp only [cellsX, List.mem_cons, List.not_mem_nil, or_false] at hd
                rcases hd with rfl | rfl | rfl | rfl <;> rfl)
              (by decide) hc3.2.1 (fun i hi => by
                have h2 := hget i hi (by omega)
                simp only [Option.bind_eq_some_iff] at h2
                obtain ⟨ci, h3, h4⟩ := h2
                obtain ⟨x, h5, h6⟩ := ih fuel (by omega) ci _ _ h4
                exact ⟨ci, cellsX x, h3, ⟨x, rfl, by omega, h5⟩, h6⟩)
              (fun h0 => by
                have h2 := hget 0 h0 (by omega)
                simp only [Option.bind_eq_some_iff] at h2
                obtain ⟨ci, h3, _⟩ := h2
                have := World.cells?_block h3 (by omega)
                rw [block_add] at this
                exact this)
            obtain ⟨ls, h5, h6, h7⟩ := hR
            have hch : ∃ l : List LX, l.length = ls.length ∧ ∀ i (hi : i < ls.length) (hi2 : i < l.length), ls[i] = cellsX l[i] ∧ ∃ hi : i < elems.length, (l[i]).Bd (bulk (elems[i]).1) := by
              have pick : ∀ i (hi : i < ls.length), ∃ x : LX, ls[i] = cellsX x ∧ ∃ hi : i < elems.length, x.Bd (bulk (elems[i]).1) := h6
              refine ⟨List.ofFn fun i : Fin ls.length => (pick i i.2).choose, by simp, fun i hi hi2 => ?_⟩
              simp only [List.getElem_ofFn]
              exact (pick i hi).choose_spec
            obtain ⟨l, hl, hsp⟩ := hch
            have hmap : ls.map D.agg = l.map eX := by
              apply List.ext_getElem (by simp [hl])
              intro i h1 h2
              simp only [List.length_map] at h1 h2
              simp only [List.getElem_map]
              rw [(hsp i h1 h2).1, cellsX_eq]
            rw [hmap] at h7
            have hsz : LX.size.sizes l ≤ bulkAll (elems.map (·.1)) := sizes_bulk l _ (by simp [hl, h5, hel]) (fun i h1 h2 => by
              obtain ⟨_, h8⟩ := (hsp i (by omega) h1).2
              simpa using h8.z)
            refine ⟨l, fun x hx => ?_, ?_, h7⟩
            · obtain ⟨i, hi, rfl⟩ := List.mem_iff_getElem.1 hx
              obtain ⟨hi3, h8⟩ := (hsp i (by omega) hi).2
              refine bd_mono' ?_ h8
              have := bulk_mem (List.mem_map.2 ⟨elems[i], List.getElem_mem _, rfl⟩ : elems[i].1 ∈ elems.map (·.1))
              simp only [bulk]
              omega
            · simp only [bulk]
              omega
          · cases hy3
        · cases hy3
      obtain ⟨l, hb, hsz, q3⟩ := key
      refine ⟨.mk k nm ex l, .mk _ ?_ ?_ ?_ (fun y hy => bd_mono' ?_ (hb y hy)), ?_⟩
      · simp only [bulk, bulkAll, List.map_cons, List.map_nil]; show nm.length ≤ _; omega
      · simp only [bulk, bulkAll, List.map_cons, List.map_nil]; show ex.length ≤ _; omega
      · simp only [bulk, bulkAll, List.map_cons, List.map_nil, LX.size]; omega
      · simp only [bulk, bulkAll, List.map_cons, List.map_nil]; omega
      · exact q0.append (q1.append (q2.append q3))
    · cases h
  · exact absurd rfl (‹∀ (fs : Array Field), some (TypeDesc.struct fds) = some (TypeDesc.struct fs) → False› fds)
end
theorem rd_lx {P : Program} {t : TypeId} (hf : lxFits P t = true) : Rd P t (fun n d => ∃ x : LX, x.Bd n ∧ d = eX x) := fun H enc W base n v d ps h hv hb => by
  obtain ⟨fuel, h⟩ := h
  obtain ⟨x, h1, h2⟩ := lx_reads hf fuel _ d ps h
  refine ⟨_, ⟨x, bd_mono' hb h1, rfl⟩, ?_⟩
  unfold lxFits at hf
  split at hf <;> try (cases hf; done)
  rename_i fds hu
  simp only [Value.okWide, hu] at hv
  obtain ⟨vs, rfl, _⟩ := hv
  simp only [Value.cells] at h2
  rw [cellsX_eq]
  refine .agg (cellsX x) vs (fun i => vs.getD i undef) (by have := h2.1; simpa using this) (fun d hd => ?_) (fun i hi => ?_) (fun i hi => ?_)
  · simp only [cellsX, List.mem_cons, List.not_mem_nil, or_false] at hd
    rcases hd with rfl | rfl | rfl | rfl <;> rfl
  · have : i < vs.size := by have := h2.1; simp at this; omega
    simp [this]
  · have : i < vs.size := by have := h2.1; simp at this; omega
    exact h2.2 i hi _ (by simp [this])
end Go.Ab
namespace Go.Ab
open Go Go.RowKit Go.Proofs
set_option maxRecDepth 4000
def RX (n : Nat) (d : D) : Prop := ∃ x : LX, x.Bd n ∧ d = eX x
def RT (ty : Ty) (n : Nat) (d : D) : Prop := ∃ cs, HasTy n ty cs ∧ d = ty.pack cs
theorem rt_str {n : Nat} {d : D} (h : RT .str n d) : ∃ s : List UInt8, s.length ≤ n ∧ d = .str s := by
  obtain ⟨cs, h1, rfl⟩ := h
  obtain ⟨s, hl, e⟩ := has_str h1
  exact ⟨s, hl, e⟩
theorem rt_bools {n : Nat} {d : D} (h : RT (.slice .bool) n d) : ∃ l : List Bool, l.length ≤ n ∧ d = .list (l.map .bool) := by
  obtain ⟨cs, ⟨ls, hl, hm, rfl⟩, rfl⟩ := h
  obtain ⟨l, e, k⟩ := list_choose (f := Ty.bool.pack) (g := D.bool) ls fun c hc => by
    obtain ⟨b, rfl⟩ := hm c hc
    exact ⟨b, rfl⟩
  exact ⟨l, by omega, by show D.list (ls.map Ty.bool.pack) = _; rw [e]⟩
theorem u8_wf {x : Int} (h : (Lit.int .u8 x).wf = true) : ∃ b : UInt8, x = (b.toNat : Int) := by
  simp only [Lit.wf, Bool.and_eq_true, decide_eq_true_eq, IntKind.min, IntKind.max] at h
  have h1 : 0 ≤ x ∧ x ≤ 255 := by
    refine ⟨?_, ?_⟩ <;> simp_all [IntKind.signed, IntKind.bits] <;> omega
  refine ⟨UInt8.ofNat x.toNat, ?_⟩
  rw [UInt8.toNat_ofNat']
  omega
theorem rt_u8 {n : Nat} {d : D} (h : RT (.int .u8) n d) : ∃ b : UInt8, d = .int .u8 b.toNat := by
  obtain ⟨cs, ⟨x, hw, rfl⟩, rfl⟩ := h
  obtain ⟨b, rfl⟩ := u8_wf hw
  exact ⟨b, rfl⟩
theorem rt_u8s {n : Nat} {d : D} (h : RT (.slice (.int .u8)) n d) : ∃ l : List UInt8, l.length ≤ n ∧ d = .list (l.map fun b => .int .u8 b.toNat) := by
  obtain ⟨cs, ⟨ls, hl, hm, rfl⟩, rfl⟩ := h
  obtain ⟨l, e, k⟩ := list_choose (f := (Ty.int .u8).pack) (g := fun b : UInt8 => D.int .u8 b.toNat) ls fun c hc => by
    obtain ⟨x, hw, rfl⟩ := hm c hc
    obtain ⟨b, rfl⟩ := u8_wf hw
    exact ⟨b, rfl⟩
  exact ⟨l, by omega, by show D.list (ls.map (Ty.int .u8).pack) = _; rw [e]⟩
end Go.Ab
namespace Go.Ab
open Go Go.RowKit Go.Proofs
set_option maxRecDepth 10000
set_option maxHeartbeats 16000000
noncomputable def g_law4 : List D → Option D := encSpec (fun x : LX × LX => [eX x.1, eX x.2]) (fun x => x.1.Bd 1099511627776 ∧ x.2.Bd 1099511627776) (fun _ => .bool true)
theorem f_law4_ok : PureOK Tryd.prog 4 true g_law4 := by
  have hΓ := (Γp f_awake_ok (Γp f_few_ok (Γp f_fmtP_ok (Γp f_fmtR_ok (Γp f_checkP_ok (Γp f_checkR_ok (Γp f_sizeP_ok (Γp (f_size_ok 1099511627776) (Γp (f_depthP_ok 1099511627776) (Γp (f_depthR_ok 1099511627776) (Γp (f_equalP_ok 1099511627776) (Γp (f_equalR_ok 1099511627776) (Γn)))))))))))))
  refine pure_enc (n := 67) (rs := [.tmp 4]) Tryd.func4 (by kernel_rfl) rfl (by kernel_rfl) (by kernel_rfl) ?_
  rintro ⟨x, y⟩ ⟨hx, hy⟩
  (try dsimp only at hx hy ⊢)
  refine ⟨fun _ => .bool _, fun k hz0 => ?_⟩
  have hhx := Nat.le_trans x.hgt_le hx.z
  have e0 := g_awake_eq
  have w1 := g_few_eq hx
  have w2 := g_few_eq hy
  have f1 := g_fmtP_eq hx
  have f2 := g_fmtR_eq hx
  have c1 := g_checkP_eq hx
  have c2 := g_checkR_eq hx
  have s1 := g_sizeP_eq hx
  have s2 := g_size_eq (h := 1099511627776) ⟨hhx, hx⟩
  have d1 := g_depthP_eq (h := 1099511627776) ⟨hhx, hx⟩
  have d2 := g_depthR_eq (h := 1099511627776) ⟨hhx, hx⟩
  have q1 := g_equalP_eq (h := 1099511627776) ⟨hhx, hx, hy⟩
  have q2 := g_equalR_eq (h := 1099511627776) ⟨hhx, hx, hy⟩
  simp only [eFmt] at f1 f2
  generalize fewX x = b1 at *
  generalize fewX y = b2 at *
  generalize (fmtX x).1 = t at *
  generalize (fmtX x).2 = te at *
  generalize checkE x = ce at *
  generalize (x.size : Int) = sz at *
  generalize (x.hgt : Int) = hg at *
  generalize eqX x y = eq at *
  have g1 : (t == t) = true := beq_self_eq_true _
  have g2 : (te == te) = true := beq_self_eq_true _
  have g3 : (ce == ce) = true := beq_self_eq_true _
  have g4 : (sz == sz) = true := beq_self_eq_true _
  have g5 : (hg == hg) = true := beq_self_eq_true _
  have g6 : (eq == eq) = true := beq_self_eq_true _
  rw [eX_eq, eX_eq]
  rw [start_frame (by simp)]; simp only [enumV, go_sem, emptyH]
  cases b1
  · repeat (first
    | (apply axJ; (focus ((with_reducible constructor) <;> rfl)))
    | (apply awT mixedOK hΓ (by kernel_rfl); (simp (disch := omega) only [go_sem, ↓reduceIte, ↓lk, Int.reduceBEq, Int.reduceBNe, Bool.true_bne, Bool.false_bne, Bool.not_true, Bool.not_false, e0, w1, w2] <;> with_reducible rfl))
    | ((first | apply awR hΓ | apply awG | apply awH mixedOK hΓ rfl (by kernel_rfl) | apply ovE rfl); (simp (disch := omega) only [go_sem, ↓reduceIte, ↓lk, Int.reduceBEq, Int.reduceBNe, Bool.true_bne, Bool.false_bne, Bool.not_true, Bool.not_false, e0, w1, w2] <;> with_reducible rfl); exact trivial)
    | rfl)
    try rfl
  cases b2
  · repeat (first
    | (apply axJ; (focus ((with_reducible constructor) <;> rfl)))
    | (apply awT mixedOK hΓ (by kernel_rfl); (simp (disch := omega) only [go_sem, ↓reduceIte, ↓lk, Int.reduceBEq, Int.reduceBNe, Bool.true_bne, Bool.false_bne, Bool.not_true, Bool.not_false, e0, w1, w2] <;> with_reducible rfl))
    | ((first | apply awR hΓ | apply awG | apply awH mixedOK hΓ rfl (by kernel_rfl) | apply ovE rfl); (simp (disch := omega) only [go_sem, ↓reduceIte, ↓lk, Int.reduceBEq, Int.reduceBNe, Bool.true_bne, Bool.false_bne, Bool.not_true, Bool.not_false, e0, w1, w2] <;> with_reducible rfl); exact trivial)
    | rfl)
    try rfl
  (repeat (first | (apply axJ; (focus ((with_reducible constructor) <;> rfl))) | ((first | apply awR hΓ | apply awG | apply ovE rfl); (simp (disch := omega) only [go_sem, ↓reduceIte, ↓lk, Int.reduceBEq, Int.reduceBNe, Bool.true_bne, Bool.false_bne, Bool.not_true, Bool.not_false, e0, w1, w2, f1, f2] <;> with_reducible rfl); exact trivial) | rfl))
  (apply awp_regf mixedOK hΓ (by kernel_rfl); (simp (disch := omega) only [go_sem, ↓reduceIte, ↓lk, Int.reduceBEq, Int.reduceBNe, Bool.true_bne, Bool.false_bne, Bool.not_true, Bool.not_false, g1, g2, g3, g4, g5, g6, c1, c2, s1, s2, d1, d2, q1, q2] <;> with_reducible rfl); (simp only [go_sem] <;> with_reducible rfl))
  (repeat (first | (apply axJ; (focus ((with_reducible constructor) <;> rfl))) | ((first | apply awR hΓ | apply awG | apply ovE rfl); (simp (disch := omega) only [go_sem, ↓reduceIte, ↓lk] <;> with_reducible rfl); exact trivial) | rfl))
  try rfl
end Go.Ab
