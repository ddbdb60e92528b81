/-
  One text of the proof (own work): contracts of functions of the program, by the abstract machine.
-/
import Derived.ChangeSame
import Derived.Carry
import Derived.DataReads
import Derived.OpenShut
import Derived.JoinedCond
import Derived.ProofKit
import Derived.Test.YtapnigckcnknoaaGreatDoorX15
set_option linter.unusedVariables false
set_option linter.unusedSimpArgs false
namespace Go.Ab
open Go Go.RowKit
theorem getD_zero {α : Type} (x : α) (l : List α) (d : α) : (x :: l).getD 0 d = x := rfl
theorem getD_succ {α : Type} (x : α) (l : List α) (n : Nat) (d : α) : (x :: l).getD (n + 1) d = l.getD n d := rfl
theorem getE_zero {α : Type} (x : α) (l : List α) : (x :: l)[0]? = some x := rfl
theorem getE_succ {α : Type} (x : α) (l : List α) (n : Nat) : (x :: l)[n + 1]? = l[n]? := by simp
theorem obind_some {α β : Type} (x : α) (f : α → Option β) : (some x).bind f = f x := rfl
theorem omap_some {α β : Type} (x : α) (f : α → β) : (some x).map f = some (f x) := rfl
theorem omap_none {α β : Type} (f : α → β) : (none : Option α).map f = none := rfl
theorem arr_get {α : Type} (l : List α) (i : Nat) : (l.toArray)[i]? = l[i]? := by simp
@[go_sem] theorem nextK_le {k n : Nat} (tab : List (Nat × Obj)) (h : n ≤ k) : nextK k ⟨tab, n⟩ = k + 1 := by simp [nextK, h]
@[go_sem] theorem nextK_lt {k n : Nat} (tab : List (Nat × Obj)) (h : k < n) : nextK k ⟨tab, n⟩ = n := by simp [nextK, Nat.not_le.2 h]
attribute [go_sem] anil Value.oneCell' runOps runOp wantedA putA astep aev cav cav1 mkAgg allDat AV.dat1 D.one AV.cells D.cells loadD loadA aload takeN astore lay rebuild AV.plain plains afield afieldV aindex acmp scmp abin aun setCells abuild partsD abuildSlice amake boxOf bound cut cut3 cutS asList aslice
  asIndex aconvert aconvertS bytesOf aindexP aindexS tarr keyOK keySame keyFlds aggEq alookup amapUpdate mapOf isShift mapOpt toD AV.closed freeze acall callee calleeN alen srcList srcCells arrish appendD appendA aappend abuildArr partsA partsLoose zeroLoose AV.loose amakeArr arrRep abuiltin
  getAll nodupB idxOf ren rens renO backTo putAll enumO List.foldl_cons List.foldl_nil List.contains_nil List.contains_cons Bool.or_false Bool.false_or Bool.or_true Bool.true_or List.any_cons List.any_nil aextract amakeFunc Heap.get Heap.set Heap.bump look upd
  getD_zero getD_succ getE_zero getE_succ obind_some omap_some omap_none arr_get List.set_cons_zero List.set_cons_succ List.map_cons List.map_nil List.drop_zero List.drop_succ_cons List.drop_nil List.take_zero List.take_succ_cons List.take_nil List.length_cons List.length_nil
  qruns qval qstep calmB CSpec.fits
  Int.natCast_nonneg Int.ofNat_lt Int.toNat_natCast List.getElem?_map List.length_map List.getElem?_eq_getElem List.length_append List.length_replicate
  if_true if_false ite_true ite_false Bool.not_true Bool.not_false Bool.not_not Bool.true_and Bool.and_true Bool.false_and Bool.and_false Option.some_beq_some beq_self_eq_true true_and and_true List.isEmpty_cons List.isEmpty_nil List.all_cons List.all_nil
  List.cons_append List.nil_append List.toList_toArray List.size_toArray resA resOne resAll
theorem map_lit {α β : Type} (f : α → β) (l : List α) : List.map f (List.toArray l).toList = List.map f l := by simp
attribute [go_sem_proc] Nat.reduceAdd Nat.reduceSub Nat.reduceMul Nat.reduceEqDiff Nat.reduceLT Nat.reduceLeDiff reduceCtorEq reduceIte Nat.reduceBEq
def tstruct (P : Program) (t : TypeId) : Option (List (Nat × Nat)) := match P.underlying t with
  | some (.struct fs) => tplaces P fs.toList
  | _ => none
theorem abuild_of {P : Program} {t : TypeId} {z : Value} {cells : List AV} {pl : List (Nat × Nat)} (hz : tzero P t = some z) (hc : (cav z).cells = some cells) (hp : tstruct P t = some pl)
    {parts : List (Nat × AV)} : abuild P t parts = (setCells cells (pl[·]?) parts).map mkAgg := by
  unfold tstruct at hp
  unfold abuild
  split at hp
  · rename_i fs hu
    simp only [hu, hz, hc, hp]
    cases setCells cells (pl[·]?) parts <;> rfl
  · cases hp
section
variable {P : Program} {Γ : FuncId → Option CSpec} {c : Ctx} {sl sl1 sl' : List AV} {tab tab' : List (Nat × Obj)} {n n' m k : Nat} {ops : Array Oper} {Q : Exit → List AV → Heap → Prop} {id : Nat}
theorem awp_reg (hΓ : ∀ f s, Γ f = some s → SpecOK P f s) (h : runOps P Γ false ops n ops.toList sl ⟨tab, n⟩ = some (sl', ⟨tab', m⟩)) (hQ : Q .normal sl' ⟨tab', m⟩) : awp P c (.region id ops false) Q sl ⟨tab, n⟩ := awp_region hΓ h hQ
theorem awp_regN (hΓ : ∀ f s, Γ f = some s → SpecOK P f s) (h : runOps P Γ true ops n ops.toList sl ⟨tab, n⟩ = some (sl', ⟨tab', m⟩)) (hQ : Q .normal sl' ⟨tab', m⟩) : awp P c (.region id ops false) Q sl ⟨tab, n⟩ := awp_region hΓ h hQ
theorem awp_regd {nst : Bool} (n1 : Nat) (hmix : P.follows .mixedOrders = true) (hΓ : ∀ f s, Γ f = some s → SpecOK P f s) (hd : drawOK ops n1 = true) (h1 : qruns P Γ ops ⟨tab, n⟩ (ops.toList.take n1) sl = some sl1)
    (hk : n + n1 = k) (h2 : runOps P Γ nst ops k (ops.toList.drop n1) sl1 ⟨tab, n⟩ = some (sl', ⟨tab', m⟩)) (hQ : Q .normal sl' ⟨tab', m⟩) : awp P c (.region id ops true) Q sl ⟨tab, n⟩ := by
  subst hk
  exact awp_draw n1 hmix hΓ hd h1 h2 hQ
theorem awp_regt {n1 : Nat} (hmix : P.follows .mixedOrders = true) (hΓ : ∀ f s, Γ f = some s → SpecOK P f s) (hs : ops.size = n1 + 1) (hd : drawOK ops n1 = true) (h1 : qruns P Γ ops ⟨tab, n⟩ (ops.toList.take n1) sl = some sl1)
    (hk : n + n1 = k) (h2 : runOps P Γ false ops k (ops.toList.drop n1) sl1 ⟨tab, n⟩ = some (sl', ⟨tab', m⟩)) (hQ : Q .normal sl' ⟨tab', m⟩) : awp P c (.region id ops true) Q sl ⟨tab, n⟩ :=
  awp_regd n1 hmix hΓ hd h1 hk h2 hQ
theorem awp_regf (hmix : P.follows .mixedOrders = true) (hΓ : ∀ f s, Γ f = some s → SpecOK P f s) (hd : drawOK ops ops.size = true) (h1 : qruns P Γ ops ⟨tab, n⟩ ops.toList sl = some sl')
    (hn : n + ops.size = m) (hQ : Q .normal sl' ⟨tab, m⟩) : awp P c (.region id ops true) Q sl ⟨tab, n⟩ := by
  subst hn
  refine awp_draw (nst := false) ops.size hmix hΓ hd (sl1 := sl') ?_ (H' := ⟨tab, n + ops.size⟩) (sl' := sl') ?_ hQ
  · rw [← Array.length_toList, List.take_length]; exact h1
  · rw [← Array.length_toList, List.drop_length]; rfl
end
section
variable {P : Program} {Γ : FuncId → Option CSpec} {c : Ctx} {sl sl1 sl2 sl' : List AV} {tab tab2 tab' : List (Nat × Obj)} {n n2 m k k1 : Nat} {ops : Array Oper} {Q : Exit → List AV → Heap → Prop} {id : Nat} {om : Oper}
theorem same2_cons {H H1 : Heap} {m' i : Nat} {o : Oper} {l : List Oper} {sl : List AV} {x : AV} (h : beforeB ops 8 m' i = true ∨ qval P Γ ops H1 sl o = qval P Γ ops H sl o) (hx : qval P Γ ops H sl o = some x) (hr : same2 P Γ ops H H1 m' (i + 1) l (putA sl o.dst x)) : same2 P Γ ops H H1 m' i (o :: l) sl := by
  refine ⟨h, ?_⟩
  rw [hx]
  exact hr
theorem same2_nil {H H1 : Heap} {m' i : Nat} {sl : List AV} : same2 P Γ ops H H1 m' i [] sl := trivial
theorem awp_regm {nst nst' : Bool} (n0 : Nat) (hmix : P.follows .mixedOrders = true) (hΓ : ∀ f s, Γ f = some s → SpecOK P f s) (hd : drawOK ops (n0 + 1) = true) (h1 : qruns P Γ ops ⟨tab, n⟩ (ops.toList.take n0) sl = some sl1) (hom : ops[n0]? = some om)
    (hk : n + n0 = k) (hk1 : k + 1 = k1) (hm : runOp P Γ nst k ops om sl1 ⟨tab, n⟩ = some (sl2, ⟨tab2, n2⟩)) (hn2 : nextK k ⟨tab2, n2⟩ ≤ k1) (hs : same2 P Γ ops ⟨tab, n⟩ ⟨tab2, k1⟩ n0 0 (ops.toList.take n0) sl)
    (h2 : runOps P Γ nst' ops k1 (ops.toList.drop (n0 + 1)) sl2 ⟨tab2, k1⟩ = some (sl', ⟨tab', m⟩)) (hQ : Q .normal sl' ⟨tab', m⟩) : awp P c (.region id ops true) Q sl ⟨tab, n⟩ := by
  subst hk hk1
  exact awp_mix n0 hmix hΓ hd rfl h1 hom hm hn2 hs h2 hQ
end
noncomputable def encSpec {X Y : Type} (enc : X → List D) (dom : X → Prop) (out : X → Y) (ds : List D) : Option Y :=
  open Classical in if h : ∃ x, enc x = ds ∧ dom x then some (out h.choose) else none
theorem encSpec_eq {X Y : Type} {enc : X → List D} {dom : X → Prop} {out : X → Y} {x : X} (hx : dom x) (inj : ∀ y, enc y = enc x → out y = out x) : encSpec enc dom out (enc x) = some (out x) := by
  have h : ∃ y, enc y = enc x ∧ dom y := ⟨x, rfl, hx⟩
  unfold encSpec
  rw [dif_pos h, inj _ h.choose_spec.1]
theorem encSpec_some {X Y : Type} {enc : X → List D} {dom : X → Prop} {out : X → Y} {ds : List D} {d : Y} (h : encSpec enc dom out ds = some d) : ∃ x, enc x = ds ∧ dom x ∧ out x = d := by
  unfold encSpec at h
  split at h
  · rename_i hh
    exact ⟨hh.choose, hh.choose_spec.1, hh.choose_spec.2, by simpa using h⟩
  · cases h
theorem pure_enc {P : Program} {X : Type} {enc : X → List D} {dom : X → Prop} {out : X → D} {f : FuncId} {fn : Func} {code : Code} {n : Nat} {rs : List ResultVar} {fl : Bool} (hf : P.funcs[f]? = some fn) (hname : (fn.name == "runtime.NumGoroutine") = false)
    (hb : fn.body = some code) (hn : fn.ntmps = n) (hrs : fn.results.toList = rs) (h : ∀ x, dom x → (fl = true → (out x).Flat) ∧ ∀ c : Ctx, c.base = 0 → awp P c code (RetD P rs (out x)) (start n (enc x)) emptyH) : PureOK P f fl (encSpec enc dom out) := by
  refine pure_of_awp hf hname hb hn hrs fun ds d hd => ?_
  obtain ⟨x, rfl, hx, rfl⟩ := encSpec_some hd
  exact h x hx
theorem own_enc {P : Program} {X : Type} {enc : X → List D} {dom : X → Prop} {out : X → TypeId × Nat × List D} {f : FuncId} {fn : Func} {code : Code} {n : Nat} {rs : List ResultVar} (hf : P.funcs[f]? = some fn) (hname : (fn.name == "runtime.NumGoroutine") = false)
    (hb : fn.body = some code) (hn : fn.ntmps = n) (hrs : fn.results.toList = rs) (h : ∀ x, dom x → (0 < (out x).2.1 ∧ elemsOK (out x).2.1 (out x).2.2 = true) ∧ ∀ c : Ctx, c.base = 0 → awp P c code (RetO P rs (out x).1 (out x).2.1 (out x).2.2) (start n (enc x)) emptyH) : OwnOK P f (encSpec enc dom out) := by
  refine own_of_awp hf hname hb hn hrs fun ds e sz l hd => ?_
  obtain ⟨x, rfl, hx, hxo⟩ := encSpec_some hd
  have := h x hx
  rw [hxo] at this
  exact this
@[go_sem] theorem elemsOK_nil (sz : Nat) : elemsOK sz [] = true := rfl
@[go_sem] theorem elemsOK_cons (sz : Nat) (d : D) (l : List D) : elemsOK sz (d :: l) = (((d.cells.length == sz) && d.cells.all D.one) && elemsOK sz l) := rfl
@[go_sem] theorem beq_t (b : Bool) : (b == true) = b := by cases b <;> rfl
@[go_sem] theorem beq_f (b : Bool) : (b == false) = !b := by cases b <;> rfl
@[go_sem] theorem toD_data (H : Heap) (m : Nat) (d : D) : toD H m (.data d) = some d := by cases m <;> simp [toD]
@[go_sem] theorem mapOpt_data (H : Heap) (m : Nat) : ∀ l : List D, mapOpt (toD H m) (l.map .data) = some l
  | [] => rfl
  | d :: l => by simp only [List.map_cons, mapOpt, toD_data, mapOpt_data H m l]
theorem wrap_in {n : Int} (h : -9223372036854775808 ≤ n) (h' : n < 9223372036854775808) : IntKind.wrap .i64 n = n := by rw [IntKind.wrap_i64]; omega
end Go.Ab
namespace Go.Ab
open Go Go.RowKit
inductive Ty where
  | bool
  | int (k : IntKind)
  | str
  | slice (t : Ty)
  | struct (fs : List Ty)
  | arr (fs : List Ty)
mutual
def Ty.size : Ty → Nat
  | .struct fs => Ty.sizes fs
  | .arr fs => Ty.sizes fs
  | _ => 1
def Ty.sizes : List Ty → Nat
  | [] => 0
  | t :: r => t.size + Ty.sizes r
end
mutual
def Ty.fits (P : Program) : Ty → TypeId → Bool
  | .bool, t => match P.underlying t with
    | some .bool => true
    | _ => false
  | .int k, t => match P.underlying t with
    | some (.int k') => k' == k
    | _ => false
  | .str, t => match P.underlying t with
    | some .string => true
    | _ => false
  | .slice ty, t => match P.underlying t with
    | some (.slice e) => ty.fits P e && (P.cellsOf e == ty.size) && decide (0 < ty.size)
    | _ => false
  | .struct fs, t => match P.underlying t with
    | some (.struct fds) => Ty.fitsL P 0 fs fds.toList && (P.cellsOf t == Ty.sizes fs)
    | _ => false
  | .arr fs, t => match P.underlying t with
    | some (.array m e) => Ty.fitsA P e fs && (m == fs.length) && (P.cellsOf t == Ty.sizes fs)
    | _ => false
def Ty.fitsL (P : Program) : Nat → List Ty → List Field → Bool
  | _, [], [] => true
  | off, ty :: r, f :: fs => (f.offset == off) && (P.cellsOf f.type == ty.size) && ty.fits P f.type && Ty.fitsL P (off + ty.size) r fs
  | _, _, _ => false
def Ty.fitsA (P : Program) (e : TypeId) : List Ty → Bool
  | [] => true
  | ty :: r => (P.cellsOf e == ty.size) && ty.fits P e && Ty.fitsA P e r
end
def Ty.pack : Ty → List D → D
  | .struct _, cs => .agg cs
  | .arr _, cs => .agg cs
  | _, cs => cs.headD .nilp
mutual
def HasTy (n : Nat) : Ty → List D → Prop
  | .bool, cs => ∃ b, cs = [.bool b]
  | .int k, cs => ∃ x, (Lit.int k x).wf = true ∧ cs = [.int k x]
  | .str, cs => ∃ s, s.length ≤ n ∧ cs = [.str s]
  | .slice t, cs => ∃ ls : List (List D), ls.length ≤ n ∧ (∀ c ∈ ls, HasTy n t c) ∧ cs = [.list (ls.map t.pack)]
  | .struct fs, cs => HasTyL n fs cs
  | .arr fs, cs => HasTyL n fs cs
def HasTyL (n : Nat) : List Ty → List D → Prop
  | [], cs => cs = []
  | t :: r, cs => ∃ a b, HasTy n t a ∧ HasTyL n r b ∧ cs = a ++ b
end
mutual
theorem HasTy.spec {n : Nat} : ∀ (t : Ty) (cs : List D), HasTy n t cs → cs.length = t.size ∧ ∀ d ∈ cs, d.one = true
  | .bool, cs, h => by obtain ⟨b, rfl⟩ := h; simp [Ty.size, D.one]
  | .int k, cs, h => by obtain ⟨b, _, rfl⟩ := h; simp [Ty.size, D.one]
  | .str, cs, h => by obtain ⟨b, _, rfl⟩ := h; simp [Ty.size, D.one]
  | .slice t, cs, h => by obtain ⟨b, _, _, rfl⟩ := h; simp [Ty.size, D.one]
  | .struct fs, cs, h => HasTyL.spec fs cs h
  | .arr fs, cs, h => HasTyL.spec fs cs h
theorem HasTyL.spec {n : Nat} : ∀ (fs : List Ty) (cs : List D), HasTyL n fs cs → cs.length = Ty.sizes fs ∧ ∀ d ∈ cs, d.one = true
  | [], cs, h => by
    simp only [HasTyL] at h
    subst h
    simp [Ty.sizes]
  | t :: r, cs, h => by
    obtain ⟨a, b, h1, h2, rfl⟩ := h
    obtain ⟨i1, i2⟩ := HasTy.spec t a h1
    obtain ⟨j1, j2⟩ := HasTyL.spec r b h2
    refine ⟨by simp [Ty.sizes, i1, j1], fun d hd => ?_⟩
    rcases List.mem_append.1 hd with hd | hd
    · exact i2 d hd
    · exact j2 d hd
end
theorem pack_cells {n : Nat} {t : Ty} {cs : List D} (h : HasTy n t cs) : (t.pack cs).cells = cs := by
  cases t with
  | bool => obtain ⟨b, rfl⟩ := h; rfl
  | int k => obtain ⟨b, _, rfl⟩ := h; rfl
  | str => obtain ⟨b, _, rfl⟩ := h; rfl
  | slice t => obtain ⟨b, _, _, rfl⟩ := h; rfl
  | struct fs => rfl
  | arr fs => rfl
mutual
def bulk {H : Type} : DataW H → Nat
  | .lit (.string b) => b.length + 1
  | .ptr d => bulk d + 1
  | .slice elems spare => bulkAll elems + bulkAll spare + 1
  | .agg parts => bulkAll parts + 1
  | .iface _ d => bulk d + 1
  | _ => 1
def bulkAll {H : Type} : List (DataW H) → Nat
  | [] => 0
  | d :: r => bulk d + bulkAll r
end
theorem bulk_pos {H : Type} (d : DataW H) : 1 ≤ bulk d := by
  cases d with
  | lit l => cases l <;> simp [bulk]
  | _ => simp [bulk]
theorem bulk_mem {H : Type} {d : DataW H} : ∀ {l : List (DataW H)}, d ∈ l → bulk d ≤ bulkAll l
  | [], h => by cases h
  | x :: r, h => by
    simp only [bulkAll]
    rcases List.mem_cons.1 h with rfl | h
    · omega
    · have := bulk_mem h; omega
theorem bulk_len {H : Type} : ∀ l : List (DataW H), l.length ≤ bulkAll l
  | [] => Nat.le_refl _
  | x :: r => by
    have := bulk_pos x
    have := bulk_len r
    simp only [bulkAll, List.length_cons]
    omega
section
variable {H : Type} {enc : TypeId × Value → H} {P : Program} {w : World}
def belowSz (w : World) (b : Nat) : Prop := b < w.heap.size
def CellsR (w : World) (ds : List D) (cs : List Value) : Prop := cs.length = ds.length ∧ ∀ i (hi : i < ds.length) u, cs[i]? = some u → DR w (belowSz w) (ds[i]) u
theorem CellsR.append {a b : List D} {x y : List Value} (h : CellsR w a x) (k : CellsR w b y) : CellsR w (a ++ b) (x ++ y) := by
  refine ⟨by simp [h.1, k.1], fun i hi u hu => ?_⟩
  by_cases c1 : i < a.length
  · rw [List.getElem_append_left c1]
    rw [List.getElem?_append_left (by rw [h.1]; exact c1)] at hu
    exact h.2 i c1 u hu
  · rw [List.getElem_append_right (by omega)]
    rw [List.getElem?_append_right (by rw [h.1]; omega), h.1] at hu
    exact k.2 (i - a.length) (by rw [List.length_append] at hi; omega) u hu
theorem mapM_range {α : Type} {n : Nat} {f : Nat → Option α} {l : List α} (h : (List.range n).mapM f = some l) : l.length = n ∧ ∀ i (hi : i < n) (hl : i < l.length), f i = some l[i] := by
  have h1 := mapM_some_length h
  simp only [List.length_range] at h1
  refine ⟨h1, fun i hi hl => ?_⟩
  have := mapM_some_get h i i (by simp [hi])
  rw [this]
  simp [hl]
theorem slice_readsG {len cap sz : Nat} {a : Addr} {R : Nat → List D → Prop} {pk : List D → D} (hpk : ∀ i ds, R i ds → (pk ds).cells = ds ∧ ds.length = sz ∧ ∀ d ∈ ds, d.one = true) (hsz : 0 < sz) (hcap : len ≤ cap)
    (h : ∀ i, i < len → ∃ cs ds, w.cells? 0 (a.add (i * sz)) sz = some cs ∧ R i ds ∧ CellsR w ds cs) (hb : 0 < len → a.block < w.heap.size) :
    ∃ ls : List (List D), ls.length = len ∧ (∀ i (hi : i < ls.length), R i ls[i]) ∧ CellsR w [.list (ls.map pk)] [.slice (some a) len cap] := by
  have pick : ∃ ls : List (List D), ls.length = len ∧ ∀ i (hi : i < ls.length), R i ls[i] ∧ ∀ j (hj : j < sz), ∃ u, w.cell? (a.add (i * sz + j)) = some u ∧ ∃ hd : j < (ls[i]).length, DR w (belowSz w) ((ls[i])[j]) u := by
    have build : ∀ m, m ≤ len → ∃ ls : List (List D), ls.length = m ∧ ∀ i (hi : i < ls.length), R i ls[i] ∧ ∀ j (hj : j < sz), ∃ u, w.cell? (a.add (i * sz + j)) = some u ∧ ∃ hd : j < (ls[i]).length, DR w (belowSz w) ((ls[i])[j]) u := by
      intro m
      induction m with
      | zero => intro _; exact ⟨[], rfl, fun i hi => by simp at hi⟩
      | succ m ih =>
        intro hm
        obtain ⟨ls, h1, h2⟩ := ih (by omega)
        obtain ⟨cs, ds, h3, h4, h5⟩ := h m (by omega)
        obtain ⟨_, h6, h7⟩ := World.cells?_some h3
        refine ⟨ls ++ [ds], by simp [h1], fun i hi => ?_⟩
        by_cases c1 : i < ls.length
        · rw [List.getElem_append_left c1]
          exact h2 i c1
        · have hi' : i = m := by simp at hi; omega
          subst hi'
          have e : (ls ++ [ds])[i] = ds := by rw [List.getElem_append_right (by omega)]; simp
          rw [e]
          refine ⟨h4, fun j hj => ?_⟩
          have h8 := h7 j hj
          rw [add_add] at h8
          have hcj : cs[j]? = some (cs.getD j undef) := by simp [List.getD, show j < cs.length by omega]
          have hdj : j < ds.length := by rw [← h5.1]; omega
          exact ⟨_, by rw [h8]; exact hcj, hdj, h5.2 j hdj _ hcj⟩
    exact build len (Nat.le_refl _)
  obtain ⟨ls, hl, hls⟩ := pick
  have hall : ∀ d ∈ ls.map pk, d.cells.length = sz := fun d hd => by
    obtain ⟨c, hc, rfl⟩ := List.mem_map.1 hd
    obtain ⟨i, hi, rfl⟩ := List.mem_iff_getElem.1 hc
    obtain ⟨k1, k2, _⟩ := hpk i _ (hls i hi).1
    rw [k1, k2]
  refine ⟨ls, hl, fun i hi => (hls i hi).1, rfl, fun i hi u hu => ?_⟩
  have hi0 : i = 0 := by simp at hi; omega
  subst hi0
  simp only [List.getElem?_cons_zero, Option.some.injEq] at hu
  subst hu
  simp only [List.getElem_cons_zero]
  by_cases h0 : len = 0
  · subst h0
    have : ls = [] := List.eq_nil_of_length_eq_zero hl
    subst this
    exact .empty _ _
  · have hfl := flat_length hall
    have hget : ∀ k, k < (flat (ls.map pk)).length → ∃ u, w.cell? (a.add k) = some u ∧ ∀ hk : k < (flat (ls.map pk)).length, DR w (belowSz w) ((flat (ls.map pk))[k]) u := by
      intro k hk
      have hk2 : k < len * sz := by rw [hfl, List.length_map, hl] at hk; exact hk
      have hq : k / sz < ls.length := by rw [hl]; exact Nat.div_lt_of_lt_mul (by rw [Nat.mul_comm]; exact hk2)
      have hr : k % sz < sz := Nat.mod_lt _ hsz
      have hkk : k / sz * sz + k % sz = k := by rw [Nat.mul_comm]; exact Nat.div_add_mod _ _
      obtain ⟨u, h1, h2, h3⟩ := (hls _ hq).2 _ hr
      rw [hkk] at h1
      refine ⟨u, h1, fun hk => ?_⟩
      obtain ⟨g1, g2, g3⟩ := flat_getElem hall (i := k / sz) (j := k % sz) (d := pk ls[k / sz]) (by rw [List.getElem?_map, List.getElem?_eq_getElem hq]; rfl) hr
      simp only [hkk] at g3
      rw [g3]
      have e := (hpk _ _ (hls _ hq).1).1
      have : (pk ls[k / sz]).cells[k % sz] = ls[k / sz][k % sz] := by simp only [e]
      rw [this]
      exact h3
    have hone : ∀ d ∈ flat (ls.map pk), d.one = true := fun d hd => by
      unfold flat at hd
      obtain ⟨x, hx, hdx⟩ := List.mem_flatMap.1 hd
      obtain ⟨c, hc, rfl⟩ := List.mem_map.1 hx
      obtain ⟨i, hi, rfl⟩ := List.mem_iff_getElem.1 hc
      obtain ⟨k1, _, k3⟩ := hpk i _ (hls i hi).1
      rw [k1] at hdx
      exact k3 d hdx
    have key := DR.list (w := w) (B := belowSz w) (ls.map pk) a cap sz (fun k => (w.cell? (a.add k)).getD undef) (hb (by omega)) (by rw [List.length_map, hl]; exact hcap) hall hone
      (fun k hk => by obtain ⟨u, h1, _⟩ := hget k hk; rw [h1]; rfl) (fun k hk => by
        obtain ⟨u, h1, h2⟩ := hget k hk
        rw [h1]
        exact h2 hk)
    rw [List.length_map, hl] at key
    exact key
theorem slice_reads {ty : Ty} {n len cap sz : Nat} {a : Addr} {elems : List (DataW H × List MemPlace)} (hsz : 0 < sz) (hty : ty.size = sz) (hlen : len ≤ n) (hcap : len ≤ cap) (hel : elems.length = len)
    (h : ∀ i, i < len → ∃ cs ds, w.cells? 0 (a.add (i * sz)) sz = some cs ∧ HasTy n ty ds ∧ CellsR w ds cs) (hb : 0 < len → a.block < w.heap.size) :
    ∃ ds, HasTy n (.slice ty) ds ∧ CellsR w ds [.slice (some a) len cap] := by
  obtain ⟨ls, h1, h2, h3⟩ := slice_readsG (R := fun _ ds => HasTy n ty ds) (pk := ty.pack) (fun i ds hd => ⟨pack_cells hd, (HasTy.spec ty ds hd).1.trans hty, (HasTy.spec ty ds hd).2⟩) hsz hcap h hb
  refine ⟨[.list (ls.map ty.pack)], ⟨ls, by omega, fun c hc => ?_, rfl⟩, h3⟩
  obtain ⟨i, hi, rfl⟩ := List.mem_iff_getElem.1 hc
  exact h2 i hi
mutual
theorem trod_reads {n : Nat} : ∀ (ty : Ty) (fuel : Nat) (t : TypeId) (cs : List Value) (d : DataW H) (ps : List MemPlace), ty.fits P t = true → DataW.trod enc P w 0 (fun _ => true) true fuel t cs = some (d, ps) → bulk d ≤ n →
    ∃ ds, HasTy n ty ds ∧ CellsR w ds cs
  | ty, 0, t, cs, d, ps, hf, h, hb => by simp [DataW.trod] at h
  | .bool, fuel + 1, t, cs, d, ps, hf, h, hb => by
    simp only [Ty.fits] at hf
    split at hf
    · rename_i hu
      unfold DataW.trod at h
      rw [hu] at h
      split at h <;> first | (cases ‹some TypeDesc.bool = some _›; done) | skip
      · rename_i b h1
        refine ⟨[.bool b], ⟨b, rfl⟩, rfl, fun i hi u hu => ?_⟩
        have hi0 : i = 0 := by simp at hi; omega
        subst hi0
        simp at hu
        subst hu
        exact .bool b
      · cases h
    · cases hf
  | .int k, fuel + 1, t, cs, d, ps, hf, h, hb => by
    simp only [Ty.fits] at hf
    split at hf
    · rename_i k' hu
      simp only [beq_iff_eq] at hf
      subst hf
      unfold DataW.trod at h
      rw [hu] at h
      split at h <;> first | (cases ‹some (TypeDesc.int k') = some _›; done) | skip
      · rename_i k1 k2 x h1
        cases h1
        split at h
        · rename_i hc
          obtain ⟨rfl, hw⟩ := hc
          refine ⟨[.int k2 x], ⟨x, hw, rfl⟩, rfl, fun i hi u hu => ?_⟩
          have hi0 : i = 0 := by simp at hi; omega
          subst hi0
          simp at hu
          subst hu
          exact .int k2 x
        · cases h
      · cases h
    · cases hf
  | .str, fuel + 1, t, cs, d, ps, hf, h, hb => by
    simp only [Ty.fits] at hf
    split at hf
    · rename_i hu
      unfold DataW.trod at h
      rw [hu] at h
      split at h <;> first | (cases ‹some TypeDesc.string = some _›; done) | skip
      · rename_i s h1
        split at h
        · simp only [Option.some.injEq, Prod.mk.injEq] at h
          obtain ⟨rfl, rfl⟩ := h
          simp only [bulk] at hb
          refine ⟨[.str s.data.toList], ⟨_, by omega, rfl⟩, rfl, fun i hi u hu => ?_⟩
          have hi0 : i = 0 := by simp at hi; omega
          subst hi0
          simp at hu
          subst hu
          have := DR.str (w := w) (B := belowSz w) s.data.toList
          simpa using this
        · cases h
      · cases h
    · cases hf
  | .slice ty, fuel + 1, t, cs, d, ps, hf, h, hb => by
    simp only [Ty.fits] at hf
    split at hf
    · rename_i e hu
      simp only [Bool.and_eq_true, beq_iff_eq, decide_eq_true_eq] at hf
      obtain ⟨⟨hfe, hsz⟩, hpos⟩ := hf
      unfold DataW.trod at h
      rw [hu] at h
      split at h <;> first | (cases ‹some (TypeDesc.slice e) = some _›; done) | skip
      · refine ⟨[.list []], ⟨[], by simp, by simp, rfl⟩, rfl, fun i hi u hu => ?_⟩
        have hi0 : i = 0 := by simp at hi; omega
        subst hi0
        simp at hu
        subst hu
        exact .empty none 0
      · rename_i _ e1 a len cap h1
        cases h1
        split at h
        · rename_i hc
          simp only [Option.bind_eq_some_iff, Option.map_eq_some_iff] at h
          obtain ⟨elems, he, rest, hr, hdp⟩ := h
          simp only [Prod.mk.injEq] at hdp
          obtain ⟨rfl, rfl⟩ := hdp
          obtain ⟨hel, hget⟩ := mapM_range he
          simp only [bulk] at hb
          have hlen := bulk_len (elems.map (·.1))
          simp only [List.length_map] at hlen
          refine slice_reads (sz := P.cellsOf e) (elems := elems) (by omega) hsz.symm (by omega) hc.2.1 hel (fun i hi => ?_) (fun h0 => ?_)
          · have h2 := hget i hi (by omega)
            simp only [Option.bind_eq_some_iff] at h2
            obtain ⟨ci, h3, h4⟩ := h2
            have hbi : bulk elems[i].1 ≤ n := by
              have : elems[i].1 ∈ elems.map (·.1) := List.mem_map.2 ⟨elems[i], List.getElem_mem _, rfl⟩
              have := bulk_mem this
              omega
            obtain ⟨ds, h5, h6⟩ := trod_reads ty fuel e ci elems[i].1 elems[i].2 hfe h4 hbi
            exact ⟨ci, ds, h3, h5, h6⟩
          · have h2 := hget 0 h0 (by omega)
            simp only [Option.bind_eq_some_iff] at h2
            obtain ⟨ci, h3, _⟩ := h2
            have := World.cells?_block h3 (by omega)
            rw [block_add] at this
            exact this
        · cases h
      · cases h
    · cases hf
  | .struct fs, fuel + 1, t, cs, d, ps, hf, h, hb => by
    simp only [Ty.fits] at hf
    split at hf
    · rename_i fds hu
      simp only [Bool.and_eq_true, beq_iff_eq] at hf
      obtain ⟨hfl, hsz⟩ := hf
      unfold DataW.trod at h
      rw [hu] at h
      split at h <;> first | (cases ‹some (TypeDesc.struct fds) = some _›; done) | skip
      · rename_i fs' h1
        cases h1
        split at h
        · rename_i hc
          simp only [Option.map_eq_some_iff, Prod.mk.injEq] at h
          obtain ⟨xs, hx, rfl, rfl⟩ := h
          simp only [bulk] at hb
          obtain ⟨ds, h2, h3⟩ := trod_readsL (n := n) fs fuel 0 fds.toList _ xs hfl (by rw [hc, hsz]; omega) hx (fun x hx' => by
            have := bulk_mem (List.mem_map.2 ⟨x, hx', rfl⟩ : x.1 ∈ xs.map (·.1))
            omega)
          rw [List.drop_zero] at h3
          exact ⟨ds, h2, h3⟩
        · rename_i hc
          first | (cases h; done) | (rw [if_neg hc] at h; cases h; done)
      · exact absurd rfl (‹∀ (fs : Array Field), some (TypeDesc.struct fds) = some (TypeDesc.struct fs) → False› fds)
    · cases hf
  | .arr fs, fuel + 1, t, cs, d, ps, hf, h, hb => by
    simp only [Ty.fits] at hf
    split at hf
    · rename_i m e hu
      simp only [Bool.and_eq_true, beq_iff_eq] at hf
      obtain ⟨⟨hfl, hm⟩, hsz⟩ := hf
      unfold DataW.trod at h
      rw [hu] at h
      split at h <;> first | (cases ‹some (TypeDesc.array m e) = some _›; done) | skip
      · rename_i m' e' h1
        cases h1
        split at h
        · rename_i hc
          simp only [Option.map_eq_some_iff, Prod.mk.injEq] at h
          obtain ⟨xs, hx, rfl, rfl⟩ := h
          simp only [bulk] at hb
          rw [hm, List.range_eq_range'] at hx
          obtain ⟨ds, h2, h3⟩ := trod_readsA (n := n) fs fuel e 0 _ xs hfl (by rw [hc, hsz]; omega) hx (fun x hx' => by
            have := bulk_mem (List.mem_map.2 ⟨x, hx', rfl⟩ : x.1 ∈ xs.map (·.1))
            omega)
          rw [Nat.zero_mul, List.drop_zero] at h3
          exact ⟨ds, h2, h3⟩
        · rename_i hc
          first | (cases h; done) | (rw [if_neg hc] at h; cases h; done)
      · exact absurd rfl (‹∀ (n : Nat) (e_1 : TypeId), some (TypeDesc.array m e) = some (TypeDesc.array n e_1) → False› m e)
    · cases hf
theorem trod_readsL {n : Nat} : ∀ (fs : List Ty) (fuel : Nat) (off : Nat) (fds : List Field) (cs : List Value) (xs : List (DataW H × List MemPlace)), Ty.fitsL P off fs fds = true → cs.length = off + Ty.sizes fs →
    fds.mapM (fun f => DataW.trod enc P w 0 (fun _ => true) true fuel f.type ((cs.drop f.offset).take (P.cellsOf f.type))) = some xs → (∀ x ∈ xs, bulk x.1 ≤ n) → ∃ ds, HasTyL n fs ds ∧ CellsR w ds (cs.drop off)
  | [], fuel, off, fds, cs, xs, hf, hl, hx, hb => by
    refine ⟨[], rfl, ?_, fun i hi => by simp at hi⟩
    simp only [Ty.sizes] at hl
    simp [hl]
  | ty :: r, fuel, off, [], cs, xs, hf, hl, hx, hb => by simp [Ty.fitsL] at hf
  | ty :: r, fuel, off, f :: fds, cs, xs, hf, hl, hx, hb => by
    simp only [Ty.fitsL, Bool.and_eq_true, beq_iff_eq] at hf
    obtain ⟨⟨⟨ho, hz⟩, hfe⟩, hrest⟩ := hf
    simp only [List.mapM_cons, Option.bind_eq_bind, Option.bind_eq_some_iff, Option.pure_def, Option.some.injEq] at hx
    obtain ⟨y, hy, ys, hys, rfl⟩ := hx
    simp only [Ty.sizes] at hl
    obtain ⟨ds1, g1, g2⟩ := trod_reads ty fuel f.type _ y.1 y.2 hfe hy (hb y (by simp))
    obtain ⟨ds2, g3, g4⟩ := trod_readsL r fuel (off + ty.size) fds cs ys hrest (by omega) hys (fun x hx => hb x (by simp [hx]))
    refine ⟨ds1 ++ ds2, ⟨ds1, ds2, g1, g3, rfl⟩, ?_⟩
    have e : cs.drop off = (cs.drop f.offset).take (P.cellsOf f.type) ++ cs.drop (off + ty.size) := by
      rw [ho, hz, ← List.drop_drop, List.take_append_drop]
    rw [e]
    exact g2.append g4
theorem trod_readsA {n : Nat} : ∀ (fs : List Ty) (fuel : Nat) (e : TypeId) (i : Nat) (cs : List Value) (xs : List (DataW H × List MemPlace)), Ty.fitsA P e fs = true → cs.length = i * P.cellsOf e + Ty.sizes fs →
    (List.range' i fs.length).mapM (fun i => DataW.trod enc P w 0 (fun _ => true) true fuel e ((cs.drop (i * P.cellsOf e)).take (P.cellsOf e))) = some xs → (∀ x ∈ xs, bulk x.1 ≤ n) → ∃ ds, HasTyL n fs ds ∧ CellsR w ds (cs.drop (i * P.cellsOf e))
  | [], fuel, e, i, cs, xs, hf, hl, hx, hb => by
    refine ⟨[], rfl, ?_, fun i hi => by simp at hi⟩
    simp only [Ty.sizes] at hl
    simp [hl]
  | ty :: r, fuel, e, i, cs, xs, hf, hl, hx, hb => by
    simp only [Ty.fitsA, Bool.and_eq_true, beq_iff_eq] at hf
    obtain ⟨⟨hz, hfe⟩, hrest⟩ := hf
    simp only [List.length_cons, List.range'_succ, List.mapM_cons, Option.bind_eq_bind, Option.bind_eq_some_iff, Option.pure_def, Option.some.injEq] at hx
    obtain ⟨y, hy, ys, hys, rfl⟩ := hx
    simp only [Ty.sizes] at hl
    have e1 : (i + 1) * P.cellsOf e = i * P.cellsOf e + ty.size := by rw [Nat.add_mul, Nat.one_mul, hz]
    obtain ⟨ds1, g1, g2⟩ := trod_reads ty fuel e _ y.1 y.2 hfe hy (hb y (by simp))
    obtain ⟨ds2, g3, g4⟩ := trod_readsA r fuel e (i + 1) cs ys hrest (by omega) hys (fun x hx => hb x (by simp [hx]))
    refine ⟨ds1 ++ ds2, ⟨ds1, ds2, g1, g3, rfl⟩, ?_⟩
    have e2 : cs.drop (i * P.cellsOf e) = (cs.drop (i * P.cellsOf e)).take (P.cellsOf e) ++ cs.drop ((i + 1) * P.cellsOf e) := by
      rw [e1, hz, ← List.drop_drop, List.take_append_drop]
    rw [e2]
    exact g2.append g4
end
end
end Go.Ab
namespace Go.Ab
open Go Go.RowKit
section
variable {H : Type} {enc : TypeId × Value → H} {P : Program} {W W' : World}
theorem arg_read {n base : Nat} {ty : Ty} {t : TypeId} {v : Value} {d : DataW H} {ps : List MemPlace} (hf : ty.fits P t = true) (h : DataW.Trod enc P W 0 (fun _ => true) true t v d ps) (hv : Value.okWide P W .any base t v) (hb : bulk d ≤ n) :
    ∃ cs, HasTy n ty cs ∧ DR W (belowSz W) (ty.pack cs) v := by
  obtain ⟨fuel, h⟩ := h
  obtain ⟨cs, h1, h2⟩ := trod_reads ty fuel t _ d ps hf h hb
  refine ⟨cs, h1, ?_⟩
  have one : ∀ (x : D), cs = [x] → ty.pack cs = x → v.oneCell' = true → DR W (belowSz W) (ty.pack cs) v := by
    intro x hx hp ho
    subst hx
    rw [hp]
    have hvc : v.cells.toList = [v] := by cases v <;> simp_all [Value.cells, Value.oneCell']
    rw [hvc] at h2
    have := h2.2 0 (by simp) v rfl
    simpa using this
  cases ty with
  | bool =>
    obtain ⟨b, rfl⟩ := h1
    refine one _ rfl rfl ?_
    simp only [Ty.fits] at hf
    split at hf
    · rename_i hu
      simp only [Value.okWide, hu, Cell.okWide] at hv
      cases v <;> simp_all [Cell.ok, Value.oneCell']
    · cases hf
  | int k =>
    obtain ⟨b, _, rfl⟩ := h1
    refine one _ rfl rfl ?_
    simp only [Ty.fits] at hf
    split at hf
    · rename_i hu
      simp only [Value.okWide, hu, Cell.okWide] at hv
      cases v <;> simp_all [Cell.ok, Value.oneCell']
    · cases hf
  | str =>
    obtain ⟨b, _, rfl⟩ := h1
    refine one _ rfl rfl ?_
    simp only [Ty.fits] at hf
    split at hf
    · rename_i hu
      simp only [Value.okWide, hu, Cell.okWide] at hv
      cases v <;> simp_all [Cell.ok, Value.oneCell']
    · cases hf
  | slice ty =>
    obtain ⟨b, _, _, rfl⟩ := h1
    refine one _ rfl rfl ?_
    simp only [Ty.fits] at hf
    split at hf
    · rename_i hu
      simp only [Value.okWide, hu, Cell.okWide] at hv
      cases v <;> simp_all [Cell.ok, Value.oneCell']
    · cases hf
  | struct fs =>
    simp only [Ty.fits] at hf
    split at hf
    · rename_i hu
      simp only [Value.okWide, hu] at hv
      obtain ⟨vs, rfl, _⟩ := hv
      simp only [Value.cells] at h2
      refine .agg cs vs (fun i => vs.getD i undef) (by have := h2.1; simpa using this) (HasTyL.spec fs cs h1).2 (fun i hi => ?_) (fun i hi => ?_)
      · have : i < vs.size := by have := h2.1; simp at this; omega
        simp [this]
      · have : i < vs.size := by have := h2.1; simp at this; omega
        exact h2.2 i hi _ (by simp [this])
    · cases hf
  | arr fs =>
    simp only [Ty.fits] at hf
    split at hf
    · rename_i hu
      simp only [Value.okWide, hu] at hv
      obtain ⟨vs, rfl, _⟩ := hv
      simp only [Value.cells] at h2
      refine .agg cs vs (fun i => vs.getD i undef) (by have := h2.1; simpa using this) (HasTyL.spec fs cs h1).2 (fun i hi => ?_) (fun i hi => ?_)
      · have : i < vs.size := by have := h2.1; simp at this; omega
        simp [this]
      · have : i < vs.size := by have := h2.1; simp at this; omega
        exact h2.2 i hi _ (by simp [this])
    · cases hf
theorem args_stay (hl : laidOutB P = true) (hb : Below W.heap.size W W') : ∀ (ts : List TypeId) (vs : List Value) (ds : List (DataW H)) (ps : List MemPlace), ts.all (fun t => P.readableRec t && decide (t < P.types.size)) = true →
    DataW.TrodAll enc P W 0 (fun _ => true) true ts vs ds ps → (∀ x ∈ ps, x.block < W.heap.size) → DataW.TrodAll enc P W' 0 (fun b => decide (b < W.heap.size)) true ts vs ds ps
  | [], vs, ds, ps, hr, h, hlt => by
    obtain ⟨rfl, rfl, rfl⟩ := ChangeShapes.trodAll_nil h
    rfl
  | t :: ts, vs, ds, ps, hr, h, hlt => by
    obtain ⟨v, vs', d, ds', p, q, rfl, rfl, rfl, h1, h2⟩ := ChangeShapes.trodAll_cons h
    simp only [List.all_cons, Bool.and_eq_true, decide_eq_true_eq] at hr
    exact ⟨p, q, Below.trod hl hr.1.1 hr.1.2 h1 hb (fun x hx => hlt x (by simp [hx])), args_stay hl hb ts vs' ds' q hr.2 h2 (fun x hx => hlt x (by simp [hx])), rfl⟩
end
end Go.Ab
