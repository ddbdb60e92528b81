/-
  What the symbolic run of operations is reckoned by (own work).
-/
import Derived.Test.YtmcgfohokniepaaAbWeak
set_option linter.unusedVariables false
set_option linter.unusedSimpArgs false
namespace Go.Ab
open Go Go.RowKit
theorem getD_zero {α : Type} (x : α) (l : List α) (d : α) : (x :: l).getD 0 d = x := rfl
theorem getD_succ {α : Type} (x : α) (l : List α) (n : Nat) (d : α) : (x :: l).getD (n + 1) d = l.getD n d := rfl
theorem getE_zero {α : Type} (x : α) (l : List α) : (x :: l)[0]? = some x := rfl
theorem getE_succ {α : Type} (x : α) (l : List α) (n : Nat) : (x :: l)[n + 1]? = l[n]? := by simp
theorem obind_some {α β : Type} (x : α) (f : α → Option β) : (some x).bind f = f x := rfl
theorem omap_some {α β : Type} (x : α) (f : α → β) : (some x).map f = some (f x) := rfl
theorem omap_none {α β : Type} (f : α → β) : (none : Option α).map f = none := rfl
theorem arr_get {α : Type} (l : List α) (i : Nat) : (l.toArray)[i]? = l[i]? := by simp
@[go_sem] theorem nextK_le {k n : Nat} (tab : List (Nat × Obj)) (h : n ≤ k) : nextK k ⟨tab, n⟩ = k + 1 := by simp [nextK, h]
@[go_sem] theorem nextK_lt {k n : Nat} (tab : List (Nat × Obj)) (h : k < n) : nextK k ⟨tab, n⟩ = n := by simp [nextK, Nat.not_le.2 h]
attribute [go_sem] Value.oneCell' runOps runOp wantedA putA astep aev cav cav1 mkAgg allDat AV.dat1 D.one AV.cells D.cells loadD loadA aload takeN astore lay rebuild AV.plain plains afield afieldV aindex acmp scmp abin aun setCells abuild partsD abuildSlice amake boxOf bound cut cutS asList aslice
  asIndex aconvert aconvertS bytesOf aindexP aindexS tarr keyOK keySame keyFlds aggEq alookup amapUpdate mapOf isShift mapOpt toD AV.closed freeze acall callee alen srcList srcCells arrish appendD appendA aappend abuildArr partsA partsLoose zeroLoose AV.loose amakeArr arrRep abuiltin
  callLoc foot getAll nodupB idxOf ren rens renO backTo putAll enumO List.foldl_cons List.foldl_nil List.contains_nil List.contains_cons Bool.or_false Bool.false_or Bool.or_true Bool.true_or List.any_cons List.any_nil aextract amakeFunc Heap.get Heap.set Heap.bump look upd
  getD_zero getD_succ getE_zero getE_succ obind_some omap_some omap_none arr_get List.set_cons_zero List.set_cons_succ List.map_cons List.map_nil List.drop_zero List.drop_succ_cons List.drop_nil List.take_zero List.take_succ_cons List.take_nil List.length_cons List.length_nil
  qruns qval qstep calmB CSpec.fits
  Int.natCast_nonneg Int.ofNat_lt Int.toNat_natCast List.getElem?_map List.length_map List.getElem?_eq_getElem List.length_append List.length_replicate
  if_true if_false ite_true ite_false Bool.not_true Bool.not_false Bool.not_not Bool.true_and Bool.and_true Bool.false_and Bool.and_false Option.some_beq_some beq_self_eq_true true_and and_true List.isEmpty_cons List.isEmpty_nil List.all_cons List.all_nil
  List.cons_append List.nil_append List.toList_toArray List.size_toArray resA resOne resAll
theorem map_lit {α β : Type} (f : α → β) (l : List α) : List.map f (List.toArray l).toList = List.map f l := by simp
attribute [go_sem_proc] Nat.reduceAdd Nat.reduceSub Nat.reduceMul Nat.reduceEqDiff Nat.reduceLT Nat.reduceLeDiff reduceCtorEq reduceIte Nat.reduceBEq
/-- Places and sizes of a struct's fields. -/
def tstruct (P : Program) (t : TypeId) : Option (List (Nat × Nat)) := match P.underlying t with
  | some (.struct fs) => tplaces P fs.toList
  | _ => none
theorem abuild_of {P : Program} {t : TypeId} {z : Value} {cells : List AV} {pl : List (Nat × Nat)} (hz : tzero P t = some z) (hc : (cav z).cells = some cells) (hp : tstruct P t = some pl)
    {parts : List (Nat × AV)} : abuild P t parts = (setCells cells (pl[·]?) parts).map mkAgg := by
  unfold tstruct at hp
  unfold abuild
  split at hp
  · rename_i fs hu
    simp only [hu, hz, hc, hp]
    cases setCells cells (pl[·]?) parts <;> rfl
  · cases hp
section
variable {P : Program} {Γ : FuncId → Option CSpec} {c : Ctx} {sl sl1 sl' : List AV} {tab tab' : List (Nat × Obj)} {n n' m k : Nat} {ops : Array Oper} {Q : Exit → List AV → Heap → Prop} {id : Nat}
theorem awp_reg (hΓ : ∀ f s, Γ f = some s → SpecOK P f s) (h : runOps P Γ false ops n ops.toList sl ⟨tab, n⟩ = some (sl', ⟨tab', m⟩)) (hQ : Q .normal sl' ⟨tab', m⟩) : awp P c (.region id ops false) Q sl ⟨tab, n⟩ := awp_region hΓ h hQ
/-- Rows of whatever may change. -/
theorem awp_regN (hΓ : ∀ f s, Γ f = some s → SpecOK P f s) (h : runOps P Γ true ops n ops.toList sl ⟨tab, n⟩ = some (sl', ⟨tab', m⟩)) (hQ : Q .normal sl' ⟨tab', m⟩) : awp P c (.region id ops false) Q sl ⟨tab, n⟩ := awp_region hΓ h hQ
theorem awp_regd {nst : Bool} (n1 : Nat) (hmix : P.follows .mixedOrders = true) (hΓ : ∀ f s, Γ f = some s → SpecOK P f s) (hd : drawOK ops n1 = true) (h1 : qruns P Γ ops ⟨tab, n⟩ (ops.toList.take n1) sl = some sl1)
    (hk : n + n1 = k) (h2 : runOps P Γ nst ops k (ops.toList.drop n1) sl1 ⟨tab, n⟩ = some (sl', ⟨tab', m⟩)) (hQ : Q .normal sl' ⟨tab', m⟩) : awp P c (.region id ops true) Q sl ⟨tab, n⟩ := by
  subst hk
  exact awp_draw n1 hmix hΓ hd h1 h2 hQ
/-- All but the last operation are free. -/
theorem awp_regt {n1 : Nat} (hmix : P.follows .mixedOrders = true) (hΓ : ∀ f s, Γ f = some s → SpecOK P f s) (hs : ops.size = n1 + 1) (hd : drawOK ops n1 = true) (h1 : qruns P Γ ops ⟨tab, n⟩ (ops.toList.take n1) sl = some sl1)
    (hk : n + n1 = k) (h2 : runOps P Γ false ops k (ops.toList.drop n1) sl1 ⟨tab, n⟩ = some (sl', ⟨tab', m⟩)) (hQ : Q .normal sl' ⟨tab', m⟩) : awp P c (.region id ops true) Q sl ⟨tab, n⟩ :=
  awp_regd n1 hmix hΓ hd h1 hk h2 hQ
/-- The whole region is free. -/
theorem awp_regf (hmix : P.follows .mixedOrders = true) (hΓ : ∀ f s, Γ f = some s → SpecOK P f s) (hd : drawOK ops ops.size = true) (h1 : qruns P Γ ops ⟨tab, n⟩ ops.toList sl = some sl')
    (hn : n + ops.size = m) (hQ : Q .normal sl' ⟨tab, m⟩) : awp P c (.region id ops true) Q sl ⟨tab, n⟩ := by
  subst hn
  refine awp_draw (nst := false) ops.size hmix hΓ hd (sl1 := sl') ?_ (H' := ⟨tab, n + ops.size⟩) (sl' := sl') ?_ hQ
  · rw [← Array.length_toList, List.take_length]; exact h1
  · rw [← Array.length_toList, List.drop_length]; rfl
end
section
variable {P : Program} {Γ : FuncId → Option CSpec} {c : Ctx} {sl sl1 sl2 sl' : List AV} {tab tab2 tab' : List (Nat × Obj)} {n n2 m k k1 : Nat} {ops : Array Oper} {Q : Exit → List AV → Heap → Prop} {id : Nat} {om : Oper}
theorem same2_cons {H H1 : Heap} {m' i : Nat} {o : Oper} {l : List Oper} {sl : List AV} {x : AV} (h : beforeB ops 8 m' i = true ∨ qval P Γ ops H1 sl o = qval P Γ ops H sl o) (hx : qval P Γ ops H sl o = some x) (hr : same2 P Γ ops H H1 m' (i + 1) l (putA sl o.dst x)) : same2 P Γ ops H H1 m' i (o :: l) sl := by
  refine ⟨h, ?_⟩
  rw [hx]
  exact hr
theorem same2_nil {H H1 : Heap} {m' i : Nat} {sl : List AV} : same2 P Γ ops H H1 m' i [] sl := trivial
/-- The last of the free operations may change objects. -/
theorem awp_regm {nst nst' : Bool} (n0 : Nat) (hmix : P.follows .mixedOrders = true) (hΓ : ∀ f s, Γ f = some s → SpecOK P f s) (hd : drawOK ops (n0 + 1) = true) (h1 : qruns P Γ ops ⟨tab, n⟩ (ops.toList.take n0) sl = some sl1) (hom : ops[n0]? = some om)
    (hk : n + n0 = k) (hk1 : k + 1 = k1) (hm : runOp P Γ nst k ops om sl1 ⟨tab, n⟩ = some (sl2, ⟨tab2, n2⟩)) (hn2 : nextK k ⟨tab2, n2⟩ ≤ k1) (hs : same2 P Γ ops ⟨tab, n⟩ ⟨tab2, k1⟩ n0 0 (ops.toList.take n0) sl)
    (h2 : runOps P Γ nst' ops k1 (ops.toList.drop (n0 + 1)) sl2 ⟨tab2, k1⟩ = some (sl', ⟨tab', m⟩)) (hQ : Q .normal sl' ⟨tab', m⟩) : awp P c (.region id ops true) Q sl ⟨tab, n⟩ := by
  subst hk hk1
  exact awp_mix n0 hmix hΓ hd rfl h1 hom hm hn2 hs h2 hQ
end
/-- What a function answers, for typed arguments. -/
noncomputable def encSpec {X Y : Type} (enc : X → List D) (dom : X → Prop) (out : X → Y) (ds : List D) : Option Y :=
  open Classical in if h : ∃ x, enc x = ds ∧ dom x then some (out h.choose) else none
theorem encSpec_eq {X Y : Type} {enc : X → List D} {dom : X → Prop} {out : X → Y} {x : X} (hx : dom x) (inj : ∀ y, enc y = enc x → out y = out x) : encSpec enc dom out (enc x) = some (out x) := by
  have h : ∃ y, enc y = enc x ∧ dom y := ⟨x, rfl, hx⟩
  unfold encSpec
  rw [dif_pos h, inj _ h.choose_spec.1]
theorem encSpec_some {X Y : Type} {enc : X → List D} {dom : X → Prop} {out : X → Y} {ds : List D} {d : Y} (h : encSpec enc dom out ds = some d) : ∃ x, enc x = ds ∧ dom x ∧ out x = d := by
  unfold encSpec at h
  split at h
  · rename_i hh
    exact ⟨hh.choose, hh.choose_spec.1, hh.choose_spec.2, by simpa using h⟩
  · cases h
theorem pure_enc {P : Program} {X : Type} {enc : X → List D} {dom : X → Prop} {out : X → D} {f : FuncId} {fn : Func} {code : Code} {n : Nat} {rs : List ResultVar} {fl : Bool} (hf : P.funcs[f]? = some fn) (hname : (fn.name == "runtime.NumGoroutine") = false)
    (hb : fn.body = some code) (hn : fn.ntmps = n) (hrs : fn.results.toList = rs) (h : ∀ x, dom x → (fl = true → (out x).Flat) ∧ ∀ c : Ctx, c.base = 0 → awp P c code (RetD P rs (out x)) (start n (enc x)) emptyH) : PureOK P f fl (encSpec enc dom out) := by
  refine pure_of_awp hf hname hb hn hrs fun ds d hd => ?_
  obtain ⟨x, rfl, hx, rfl⟩ := encSpec_some hd
  exact h x hx
theorem own_enc {P : Program} {X : Type} {enc : X → List D} {dom : X → Prop} {out : X → TypeId × Nat × List D} {f : FuncId} {fn : Func} {code : Code} {n : Nat} {rs : List ResultVar} (hf : P.funcs[f]? = some fn) (hname : (fn.name == "runtime.NumGoroutine") = false)
    (hb : fn.body = some code) (hn : fn.ntmps = n) (hrs : fn.results.toList = rs) (h : ∀ x, dom x → (0 < (out x).2.1 ∧ elemsOK (out x).2.1 (out x).2.2 = true) ∧ ∀ c : Ctx, c.base = 0 → awp P c code (RetO P rs (out x).1 (out x).2.1 (out x).2.2) (start n (enc x)) emptyH) : OwnOK P f (encSpec enc dom out) := by
  refine own_of_awp hf hname hb hn hrs fun ds e sz l hd => ?_
  obtain ⟨x, rfl, hx, hxo⟩ := encSpec_some hd
  have := h x hx
  rw [hxo] at this
  exact this
theorem ret_e {P : Program} {sl : List AV} {H : Heap} {rs : List ResultVar} {d d' : D} {x : AV} (h : resA P rs sl H = some x) (hd : toD H 4 x = some d') (he : d' = d) : RetD P rs d .ret sl H := by subst he; exact ret_d h hd
theorem end_e {P : Program} {sl : List AV} {H : Heap} {rs : List ResultVar} {d d' : D} {x : AV} (h : resA P rs sl H = some x) (hd : toD H 4 x = some d') (he : d' = d) : RetD P rs d .normal sl H := by subst he; exact end_d h hd
@[go_sem] theorem elemsOK_nil (sz : Nat) : elemsOK sz [] = true := rfl
@[go_sem] theorem elemsOK_cons (sz : Nat) (d : D) (l : List D) : elemsOK sz (d :: l) = (((d.cells.length == sz) && d.cells.all D.one) && elemsOK sz l) := rfl
@[go_sem] theorem beq_t (b : Bool) : (b == true) = b := by cases b <;> rfl
@[go_sem] theorem beq_f (b : Bool) : (b == false) = !b := by cases b <;> rfl
@[go_sem] theorem toD_data (H : Heap) (m : Nat) (d : D) : toD H m (.data d) = some d := by cases m <;> simp [toD]
@[go_sem] theorem mapOpt_data (H : Heap) (m : Nat) : ∀ l : List D, mapOpt (toD H m) (l.map .data) = some l
  | [] => rfl
  | d :: l => by simp only [List.map_cons, mapOpt, toD_data, mapOpt_data H m l]
theorem wrap_in {n : Int} (h : -9223372036854775808 ≤ n) (h' : n < 9223372036854775808) : IntKind.wrap .i64 n = n := by rw [IntKind.wrap_i64]; omega
end Go.Ab
namespace Go.Ab
open Go Go.RowKit
def lookV : List (Nat × AV) → Nat → AV
  | [], _ => .junk
  | (k, x) :: r, i => if i = k then x else lookV r i
attribute [go_sem] lookV
/-- 'n' slots, of which the table says what they hold; the others hold whatever. -/
def frame (n : Nat) (t : List (Nat × AV)) : List AV := (List.range n).map (lookV t)
theorem frame_len (n : Nat) (t : List (Nat × AV)) : (frame n t).length = n := by simp [frame]
@[go_sem] theorem frame_at (n : Nat) (t : List (Nat × AV)) (i : Nat) : (frame n t)[i]? = if i < n then some (lookV t i) else none := by
  unfold frame
  rw [List.getElem?_map]
  by_cases h : i < n
  · rw [List.getElem?_range h, if_pos h]; rfl
  · rw [List.getElem?_eq_none (by simpa using h), if_neg h]; rfl
@[go_sem] theorem frame_get (n : Nat) (t : List (Nat × AV)) (i : Nat) : (frame n t).getD i .junk = if i < n then lookV t i else .junk := by
  rw [List.getD_eq_getElem?_getD, frame_at]
  split <;> rfl
@[go_sem] theorem frame_set (n : Nat) (t : List (Nat × AV)) (i : Nat) (x : AV) : (frame n t).set i x = if i < n then frame n ((i, x) :: t) else frame n t := by
  apply List.ext_getElem?
  intro j
  rw [List.getElem?_set, frame_len]
  split
  · rename_i h
    subst h
    split <;> simp [frame_at, lookV, *]
  · rename_i h
    by_cases h2 : i < n
    · have h3 : ¬ j = i := fun e => h e.symm
      rw [if_pos h2, frame_at, frame_at]
      simp [lookV, h3]
    · rw [if_neg h2]
def enumV : Nat → List D → List (Nat × AV)
  | _, [] => []
  | i, d :: r => (i, .data d) :: enumV (i + 1) r
theorem lookV_enum : ∀ (l : List D) (i j : Nat), lookV (enumV i l) j = if i ≤ j then (match l[j - i]? with | some d => .data d | none => .junk) else .junk
  | [], i, j => by simp [enumV, lookV]
  | d :: r, i, j => by
    simp only [enumV, lookV, lookV_enum r (i + 1) j]
    by_cases h : j = i
    · subst h; simp
    · rw [if_neg h]
      by_cases h2 : i ≤ j
      · rw [if_pos h2, if_pos (by omega), show j - i = (j - (i + 1)) + 1 from by omega, List.getElem?_cons_succ]
      · rw [if_neg h2, if_neg (by omega)]
theorem start_frame {n : Nat} {ds : List D} (h : ds.length ≤ n) : start n ds = frame n (enumV 0 ds) := by
  apply List.ext_getElem?
  intro j
  rw [frame_at, lookV_enum, if_pos (Nat.zero_le _), Nat.sub_zero, start]
  by_cases h1 : j < ds.length
  · rw [List.getElem?_append_left (by simpa using h1), if_pos (by omega), List.getElem?_map, List.getElem?_eq_getElem h1]
    rfl
  · rw [List.getElem?_append_right (by simpa using h1), List.getElem?_replicate, List.getElem?_eq_none (by omega)]
    simp only [List.length_map]
    by_cases h2 : j < n
    · rw [if_pos (by omega), if_pos h2]
    · rw [if_neg (by omega), if_neg h2]
def ConvF (H : Heap) (t : List (Nat × AV)) : List (Nat × AV) → Prop
  | [] => True
  | (i, x) :: r => Conv H (lookV t i) x ∧ ConvF H t r
theorem ConvF.at {H : Heap} {t : List (Nat × AV)} : ∀ {t' : List (Nat × AV)}, ConvF H t t' → ∀ i, Conv H (lookV t i) (lookV t' i)
  | [], _, i => trivial
  | (k, x) :: r, h, i => by
    simp only [lookV]
    split
    · rename_i hk; subst hk; exact h.1
    · exact ConvF.at h.2 i
theorem ConvL_map {H : Heap} {f g : Nat → AV} (h : ∀ i, Conv H (f i) (g i)) : ∀ l : List Nat, ConvL H (l.map f) (l.map g)
  | [] => trivial
  | i :: r => ⟨h i, ConvL_map h r⟩
def refsF (n : Nat) : List (Nat × AV) → Bool
  | [] => true
  | (_, x) :: r => x.refsOK n && refsF n r
theorem refsF_at {n : Nat} : ∀ {t : List (Nat × AV)}, refsF n t = true → ∀ i, (lookV t i).refsOK n = true
  | [], _, i => rfl
  | (k, x) :: r, h, i => by
    simp only [refsF, Bool.and_eq_true] at h
    simp only [lookV]
    split
    · exact h.1
    · exact refsF_at h.2 i
theorem refsOKs_map {n : Nat} {f : Nat → AV} (h : ∀ i, (f i).refsOK n = true) : ∀ l : List Nat, refsOKs n (l.map f) = true
  | [] => rfl
  | i :: r => by simp only [List.map_cons, refsOKs, h i, refsOKs_map h r, Bool.and_self]
theorem Weak.ofF {b m : Nat} {t t' : List (Nat × AV)} {tab tab' : List (Nat × Obj)} {n n' : Nat} (hb : b ≤ n') (h1 : ConvF ⟨tab, n⟩ t t') (h2 : TabSub n' tab tab') (h3 : refsF n' t' = true) : Weak b (frame m t) ⟨tab, n⟩ (frame m t') ⟨tab', n'⟩ :=
  Weak.of hb (ConvL_map h1.at _) h2 (refsOKs_map (refsF_at h3) _)
theorem Weak.nilrowF {b m i n : Nat} {t : List (Nat × AV)} {tab : List (Nat × Obj)} (e : TypeId) {sz : Nat} (hsz : 0 < sz) (him : i < m) (hi : lookV t i = .nils) : Weak b (frame m t) ⟨tab, n⟩ (frame m ((i, .row n 0) :: t)) ⟨upd tab n (.row e sz []), n + 1⟩ := by
  have h := Weak.nilrow (b := b) (sl := frame m t) (H := ⟨tab, n⟩) (i := i) e hsz (by rw [frame_at, if_pos him, hi])
  rw [frame_set, if_pos him] at h
  exact h
end Go.Ab
namespace Go.Ab
open Go Go.RowKit
theorem ConvL.at {H : Heap} : ∀ {l r : List AV}, ConvL H l r → r.length = l.length ∧ ∀ (i : Nat) (hi : i < r.length) (hj : i < l.length), Conv H (l[i]) (r[i])
  | [], [], _ => ⟨rfl, fun i hi => by simp at hi⟩
  | x :: l, y :: r, h => by
    obtain ⟨h1, h2⟩ := ConvL.at h.2
    refine ⟨by simp [h1], fun i hi hj => ?_⟩
    cases i with
    | zero => exact h.1
    | succ i => exact h2 i (by simpa using hi) (by simpa using hj)
  | [], _ :: _, h => h.elim
  | _ :: _, [], h => h.elim
theorem Weak.boxConv {b o : Nat} {sl : List AV} {H : Heap} {cs cs' : List AV} (hg : H.get o = some (.box cs)) (hc : ConvL H cs cs') : Weak b sl H sl (H.set o (.box cs')) := fun c θ w a hb hs => by
  obtain ⟨hlen, hat⟩ := hc.at
  have hT := hs.st.sim.turn (w' := w) (k := o) (x0 := .box cs) (x := .box cs') (val := θ o) hg rfl rfl (fun b _ _ => rfl) (Nat.le_refl _) (fun b hb => .inl hb) trivial (fun _ => rfl)
    (fun hvr => by
      obtain ⟨bk, e, vs, h1, h2, h3, h4, h5⟩ := hs.st.sim.objs o _ hg
      refine ⟨bk, e, vs, h1, h2, by rw [h3, hlen], h4, fun i hi u hu => ?_⟩
      have hi' : i < cs.length := by omega
      obtain ⟨h6, h7⟩ := h5 i hi' u hu
      exact ⟨hvr _ _ ((hat i hi hi').sound hs.st.sim h6), h7⟩)
  refine ⟨updθ θ o (θ o), ⟨⟨hT.1, hs.st.defers, hs.st.size, fun i y u h1 h2 => hT.2.1 y u (hs.st.vals i y u h1 h2)⟩, fun p hp => ?_, hs.base⟩, hT.2.2.evo (by rw [← hb]; exact hs.base)⟩
  rw [Heap.get_set] at hp
  by_cases h : p = o
  · subst h; exact hs.wf p (by rw [hg]; rfl)
  · rw [if_neg h] at hp; exact hs.wf p hp
/-! ### A region with one operation whose run is known by an equation -/
section
variable {P : Program} {Γ : FuncId → Option CSpec} {c : Ctx} {nst : Bool} {ops : Array Oper}
def runTill (P : Program) (Γ : FuncId → Option CSpec) (nst : Bool) (ops : Array Oper) : Nat → List Oper → List AV → Heap → Option (Nat × List AV × Heap)
  | k, [], sl, H => some (k, sl, H)
  | k, o :: l, sl, H => match runOp P Γ nst k ops o sl H with
    | some (sl', H') => runTill P Γ nst ops (nextK k H') l sl' H'
    | none => none
theorem runTill_split : ∀ {a b : List Oper} {k k1 : Nat} {sl sl1 : List AV} {H H1 : Heap}, runTill P Γ nst ops k a sl H = some (k1, sl1, H1) → runOps P Γ nst ops k (a ++ b) sl H = runOps P Γ nst ops k1 b sl1 H1
  | [], b, k, k1, sl, sl1, H, H1, h => by
    simp only [runTill, Option.some.injEq, Prod.mk.injEq] at h
    obtain ⟨rfl, rfl, rfl⟩ := h
    rfl
  | o :: a, b, k, k1, sl, sl1, H, H1, h => by
    simp only [runTill] at h
    simp only [List.cons_append, runOps]
    split at h
    · rename_i h1
      rw [h1]
      exact runTill_split h
    · cases h
theorem awp_reg_op {id n k1 m1 m2 m : Nat} (i : Nat) {o : Oper} {sl sl1 sl2 sl' : List AV} {tab tab1 tab2 tab' : List (Nat × Obj)} {Q : Exit → List AV → Heap → Prop}
    (hΓ : ∀ f s, Γ f = some s → SpecOK P f s) (ho : ops.toList = ops.toList.take i ++ o :: ops.toList.drop (i + 1))
    (h1 : runTill P Γ nst ops n (ops.toList.take i) sl ⟨tab, n⟩ = some (k1, sl1, ⟨tab1, m1⟩)) (h2 : runOp P Γ nst k1 ops o sl1 ⟨tab1, m1⟩ = some (sl2, ⟨tab2, m2⟩))
    (h3 : runOps P Γ nst ops (nextK k1 ⟨tab2, m2⟩) (ops.toList.drop (i + 1)) sl2 ⟨tab2, m2⟩ = some (sl', ⟨tab', m⟩)) (hQ : Q .normal sl' ⟨tab', m⟩) : awp P c (.region id ops false) Q sl ⟨tab, n⟩ := by
  refine awp_region (nst := nst) hΓ ?_ hQ
  rw [ho, runTill_split h1]
  simp only [runOps, h2]
  exact h3
end
end Go.Ab
