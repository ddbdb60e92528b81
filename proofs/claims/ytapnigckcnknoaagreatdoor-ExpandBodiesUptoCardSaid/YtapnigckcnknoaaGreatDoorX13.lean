/-
  One text of the proof (own work): contracts of functions of the program, by the abstract machine.
-/
import Derived.Test.YtapnigckcnknoaaGreatDoorX12
set_option linter.unusedVariables false
set_option linter.unusedSimpArgs false
namespace Go.Ab
open Go Go.RowKit
def resOne (P : Program) (sl : List AV) (H : Heap) : ResultVar → Option AV
  | .tmp t => some (sl.getD t .junk)
  | .cell a t => aload P H t (sl.getD a .junk)
def resAll (P : Program) (sl : List AV) (H : Heap) : List ResultVar → Option (List AV)
  | [] => some []
  | x :: r => match resOne P sl H x, resAll P sl H r with
    | some y, some l => some (y :: l)
    | _, _ => none
def resA (P : Program) (rs : List ResultVar) (sl : List AV) (H : Heap) : Option AV := match rs with
  | [x] => resOne P sl H x
  | l => match resAll P sl H l with
    | some ys => some (.tup ys)
    | none => none
def Exit.over : Exit → Bool
  | .normal => true
  | .ret => true
  | _ => false
def RetD (P : Program) (rs : List ResultVar) (d : D) (e : Exit) (sl : List AV) (H : Heap) : Prop := Exit.over e = true ∧ ∃ x, resA P rs sl H = some x ∧ toD H 4 x = some d
def RetO (P : Program) (rs : List ResultVar) (e : TypeId) (sz : Nat) (l : List D) (ex : Exit) (sl : List AV) (H : Heap) : Prop :=
  Exit.over ex = true ∧ ∃ o, resA P rs sl H = some (.row o l.length) ∧ H.get o = some (.row e sz l)
def emptyH : Heap := ⟨[], 0⟩
def start (n : Nat) (ds : List D) : List AV := ds.map .data ++ List.replicate (n - ds.length) .junk
def ctxOf (w : World) (B : Nat → Prop) : Ctx := ⟨w.heap.size, B, fun _ => False, fun _ _ h => h, 0⟩
section
variable {P : Program} {c : Ctx} {H H' : Heap} {θ θ' : Nat → Value} {w w' : World} {sl : List AV} {a : Act}
def resSem (tmps : Array Value) : ResultVar → Sem Value
  | .tmp t => pure (tmps.getD t undef)
  | .cell p t => do loadVar t (← asAddr (tmps.getD p undef))
theorem results_eq (fn : Func) (tmps : Array Value) : results fn tmps = (do let vs ← fn.results.mapM (resSem tmps); pure (if h : vs.size = 1 then vs[0] else .tuple vs)) := by
  unfold results
  congr 2
theorem resOne_sound (hs : St c H θ w sl a) {x : ResultVar} {y : AV} (h : resOne P sl H x = some y) :
    ∃ v, (resSem a.tmps x).run P w = .ok v w ∧ VR H θ w (vis c H θ w) y v := by
  cases x with
  | tmp t =>
    simp only [resOne, Option.some.injEq] at h
    subst h
    exact ⟨_, rfl, aev_sound hs (.tmp t)⟩
  | cell p t =>
    simp only [resOne] at h
    obtain ⟨u, hr, hv⟩ := aload_sound hs (aev_sound hs (.tmp p)) h
    refine ⟨u, ?_, hv⟩
    simp only [Act.eval] at hr
    generalize hq : a.tmps.getD p undef = q at hr
    cases q with
    | pointer ad =>
      cases ad with
      | some ad =>
        simp only [Instr.loadAt, Instr.sureAddr, Sem.run_bind, Sem.run_pure, Result.andThen_ok] at hr
        simp only [resSem, hq, asAddr, Sem.run_bind, Sem.run_pure, Result.andThen_ok]
        exact hr
      | none => simp [Instr.loadAt, Instr.sureAddr] at hr
    | _ => simp [Instr.loadAt, Instr.sureAddr] at hr
theorem resAll_sound (hs : St c H θ w sl a) : ∀ (l : List ResultVar) (ys : List AV), resAll P sl H l = some ys →
    ∃ vs : List Value, (l.mapM (resSem a.tmps)).run P w = .ok vs w ∧ vs.length = ys.length ∧ ∀ i (hi : i < ys.length) u, vs[i]? = some u → VR H θ w (vis c H θ w) (ys[i]) u
  | [], ys, h => by
    simp only [resAll, Option.some.injEq] at h
    subst h
    exact ⟨[], by simp, rfl, fun i hi => by simp at hi⟩
  | x :: l, ys, h => by
    simp only [resAll] at h
    split at h
    · rename_i y ys' h1 h2
      simp only [Option.some.injEq] at h
      subst h
      obtain ⟨v, hr, hv⟩ := resOne_sound hs h1
      obtain ⟨vs, hr2, hl, hvs⟩ := resAll_sound hs l ys' h2
      refine ⟨v :: vs, ?_, by simp [hl], fun i hi u hu => ?_⟩
      · simp only [List.mapM_cons, Sem.run_bind, hr, Result.andThen_ok, hr2, Sem.run_pure]
      · cases i with
        | zero => simp at hu; subst hu; exact hv
        | succ i => exact hvs i (by simpa using hi) u (by simpa using hu)
    · cases h
theorem resA_sound (hs : St c H θ w sl a) {fn : Func} {y : AV} (h : resA P fn.results.toList sl H = some y) : ∃ v, (results fn a.tmps).run P w = .ok v w ∧ VR H θ w (vis c H θ w) y v := by
  have hrun : ∀ vs : List Value, (fn.results.toList.mapM (resSem a.tmps)).run P w = .ok vs w →
      (results fn a.tmps).run P w = .ok (if h : vs.length = 1 then vs[0] else .tuple vs.toArray) w := by
    intro vs hvs
    have hm : (fn.results.mapM (resSem a.tmps)).run P w = .ok vs.toArray w := by
      rw [Array.mapM_eq_mapM_toList, Sem.run_map, hvs]
      rfl
    rw [results_eq, Sem.run_bind, hm]
    simp
  generalize hrs : fn.results.toList = rs at h hrun
  unfold resA at h
  split at h
  · rename_i x
    obtain ⟨v, hr, hv⟩ := resOne_sound hs h
    refine ⟨v, ?_, hv⟩
    have := hrun [v] (by simp only [List.mapM_cons, List.mapM_nil, Sem.run_bind, hr, Result.andThen_ok, Sem.run_pure])
    simpa using this
  · rename_i hne
    split at h
    · rename_i ys hys
      simp only [Option.some.injEq] at h
      subst h
      obtain ⟨vs, hr, hl, hvs⟩ := resAll_sound hs _ _ hys
      have hlen : ys.length = rs.length := by
        have : ∀ (l : List ResultVar) (ys : List AV), resAll P sl H l = some ys → ys.length = l.length := by
          intro l
          induction l with
          | nil => intro ys h; simp only [resAll, Option.some.injEq] at h; subst h; rfl
          | cons x l ih =>
            intro ys h
            simp only [resAll] at h
            split at h
            · rename_i y ys' _ h2
              simp only [Option.some.injEq] at h
              subst h
              simp [ih ys' h2]
            · cases h
        exact this _ _ hys
      have h1 : ¬ vs.length = 1 := by
        intro h1
        have h2 : rs.length = 1 := by omega
        obtain ⟨x, hx⟩ := List.length_eq_one_iff.1 h2
        exact hne x hx
      have := hrun vs hr
      rw [dif_neg h1] at this
      refine ⟨_, this, .tup ys _ (fun i => vs.getD i undef) (by simpa using hl) (fun i hi => ?_) (fun i hi => ?_)⟩
      · simp [show i < vs.length by omega]
      · exact hvs i hi _ (by simp [show i < vs.length by omega])
    · cases h
theorem start_st {fn : Func} {ds : List D} {B : Nat → Prop} {vs : Array Value} (hB : ∀ b, B b → b < w.heap.size) (hz : vs.size = ds.length) (hvs : ∀ i (hi : i < ds.length) u, vs[i]? = some u → DR w B (ds[i]) u) :
    StW (ctxOf w B) emptyH (fun _ => undef) w (start fn.ntmps ds) { tmps := vs ++ Array.replicate (fn.ntmps - vs.size) undef, defers := [] } := by
  have hno : ∀ o, emptyH.get o = none := fun o => rfl
  refine ⟨⟨⟨Nat.le_refl _, fun o x h => (by rw [hno] at h; cases h), fun o o' x x' h => (by rw [hno] at h; cases h)⟩, rfl, by simp [start, hz], fun i x v hx hv => ?_⟩, fun o h => (by rw [hno] at h; cases h), Nat.zero_le _⟩
  unfold start at hx
  by_cases hi : i < ds.length
  · rw [List.getElem?_append_left (by simpa using hi), List.getElem?_map, List.getElem?_eq_getElem hi] at hx
    simp only [Option.map_some, Option.some.injEq] at hx
    subst hx
    rw [Array.getElem?_append_left (by omega)] at hv
    refine .data _ _ ((hvs i hi v hv).mono fun b hb => ⟨⟨hB b hb, fun ⟨o, x, hg, _⟩ => (by rw [hno] at hg; cases hg), fun _ => .inl hb⟩, rfl⟩)
  · rw [List.getElem?_append_right (by simp; omega), List.getElem?_replicate] at hx
    split at hx
    · simp only [Option.some.injEq] at hx
      subst hx
      exact .junk v
    · cases hx
theorem kept_below {B : Nat → Prop} (h : Kept (ctxOf w B) w w') : Below w.heap.size w w' := ⟨h.os, h.tape, h.output, h.size, fun b hb => h.block b hb (fun hf => hf)⟩
theorem pure_of_awp {f : FuncId} {fn : Func} {code : Code} {n : Nat} {rs : List ResultVar} {fl : Bool} {g : List D → Option D} (hf : P.funcs[f]? = some fn) (hname : (fn.name == "runtime.NumGoroutine") = false) (hb : fn.body = some code) (hn : fn.ntmps = n) (hrs : fn.results.toList = rs)
    (h : ∀ ds d, g ds = some d → (fl = true → d.Flat) ∧ ∀ c : Ctx, c.base = 0 → awp P c code (RetD P rs d) (start n ds) emptyH) : PureOK P f fl g := by
  subst hn
  subst hrs
  intro ds d hd
  obtain ⟨hfl, hawp⟩ := h ds d hd
  refine ⟨hfl, fun w B vs hB hz hvs => ⟨⟨fn, hf, hname, by rw [hb]; rfl⟩, ?_⟩⟩
  refine calls_of_wp hf hb (Go.wp_mono (hawp (ctxOf w B) rfl _ w _ (start_st hB hz hvs)) ?_)
  rintro e a' w' ⟨sl', H', θ', ⟨hov, x, hx, hxd⟩, hst, hk, _⟩
  obtain ⟨v, hr, hv⟩ := resA_sound hst.st hx
  have hdr := toD_sound hst.st.sim 4 x v d hv hxd
  have hbel := kept_below hk
  have hdr' : DR w' (fun b => B b ∨ (w.heap.size ≤ b ∧ b < w'.heap.size)) d v := hdr.mono fun b hb => ⟨by
    rcases Nat.lt_or_ge b w.heap.size with h1 | h1
    · rcases hb.2 h1 with h2 | h2
      · exact .inl h2
      · exact h2.elim
    · exact .inr ⟨h1, hb.1⟩, rfl⟩
  cases e with
  | normal => exact ⟨hst.st.defers, v, hr, v, rfl, hdr', hbel⟩
  | ret => exact ⟨hst.st.defers, v, hr, v, rfl, hdr', hbel⟩
  | exit id => cases hov
  | goto l => cases hov
  | panic ch => cases hov
  | outgrown => cases hov
theorem own_of_awp {f : FuncId} {fn : Func} {code : Code} {n : Nat} {rs : List ResultVar} {g : List D → Option (TypeId × Nat × List D)} (hf : P.funcs[f]? = some fn) (hname : (fn.name == "runtime.NumGoroutine") = false) (hb : fn.body = some code) (hn : fn.ntmps = n) (hrs : fn.results.toList = rs)
    (h : ∀ ds e sz l, g ds = some (e, sz, l) → (0 < sz ∧ elemsOK sz l = true) ∧ ∀ c : Ctx, c.base = 0 → awp P c code (RetO P rs e sz l) (start n ds) emptyH) : OwnOK P f g := by
  subst hn
  subst hrs
  intro ds e sz l hd
  obtain ⟨⟨h0, hok⟩, hawp⟩ := h ds e sz l hd
  obtain ⟨hcl, hone⟩ := elemsOK_spec hok
  refine ⟨h0, hcl, hone, fun w B vs hB hz hvs => ⟨⟨fn, hf, hname, by rw [hb]; rfl⟩, ?_⟩⟩
  refine calls_of_wp hf hb (Go.wp_mono (hawp (ctxOf w B) rfl _ w _ (start_st hB hz hvs)) ?_)
  rintro ex a' w' ⟨sl', H', θ', ⟨hov, o, hx, hg⟩, hst, hk, _⟩
  obtain ⟨v, hr, hv⟩ := resA_sound hst.st hx
  have hbel := kept_below hk
  obtain ⟨hve, _⟩ := row_val hst.st.sim hv hg rfl
  obtain ⟨_, _, _, us, hown, hbl, hus⟩ := row_cells hst.st.sim hg
  rw [← hve] at hown hbl
  have hown' : ownsM w' w.heap.size e sz v l.length us := by
    refine ⟨hown.1, ?_⟩
    rcases hown.2 with h1 | ⟨gb, cap, cur, h1, _, h3⟩
    · exact .inl h1
    · refine .inr ⟨gb, cap, cur, h1, ?_, h3⟩
      rcases hbl gb (by rw [h1]; rfl) with h4 | h4
      · exact h4
      · exact h4.elim
  have hR : (∃ us, ownsM w' w.heap.size e sz v l.length us ∧ ∀ i (hi : i < (flat l).length) u, us[i]? = some u → DR w' (fun b => (B b ∨ (w.heap.size ≤ b ∧ b < w'.heap.size)) ∧ blk v ≠ some b) ((flat l)[i]) u) ∧ Below w.heap.size w w' := by
    refine ⟨⟨us, hown', fun i hi u hu => (hus i hi u hu).mono fun b hb => ⟨⟨?_, fun he => hb.2.1 ⟨o, _, hg, rfl, by rw [← hve]; exact he⟩⟩, rfl⟩⟩, hbel⟩
    rcases Nat.lt_or_ge b w.heap.size with h1 | h1
    · rcases hb.2.2 h1 with h2 | h2
      · exact .inl h2
      · exact h2.elim
    · exact .inr ⟨h1, hb.1⟩
  cases ex with
  | normal => exact ⟨hst.st.defers, v, hr, v, rfl, hR⟩
  | ret => exact ⟨hst.st.defers, v, hr, v, rfl, hR⟩
  | exit id => cases hov
  | goto l => cases hov
  | panic ch => cases hov
  | outgrown => cases hov
section
variable {Q : Exit → List AV → Heap → Prop} {K : List AV → Heap → Prop} {id id' : Nat}
theorem awp_cond {cond : Operand} {tc ec : Code} {b : Bool} (hc : aev sl cond = .data (.bool b)) (ht : b = true → awp P c tc Q sl H) (he : b = false → awp P c ec Q sl H) : awp P c (.cond cond tc ec) Q sl H := by
  intro θ w a hs
  have h := aev_sound hs.st cond
  rw [hc] at h
  refine wp_cond_split h.data_inv.bool_eq (fun hb => ht hb θ w a hs) (fun hb => he hb θ w a hs)
theorem awp_cond_t {cond : Operand} {tc ec : Code} (hc : aev sl cond = .data (.bool true)) (ht : awp P c tc Q sl H) : awp P c (.cond cond tc ec) Q sl H := awp_cond hc (fun _ => ht) (fun h => by cases h)
theorem awp_cond_f {cond : Operand} {tc ec : Code} (hc : aev sl cond = .data (.bool false)) (he : awp P c ec Q sl H) : awp P c (.cond cond tc ec) Q sl H := awp_cond hc (fun h => by cases h) (fun _ => he)
theorem then_normal (h : K sl H) : thenA K Q .normal sl H := h
theorem then_ret (h : Q .ret sl H) : thenA K Q .ret sl H := h
theorem then_exit (h : Q (.exit id) sl H) : thenA K Q (.exit id) sl H := h
theorem block_normal (h : Q .normal sl H) : inBlockA id Q .normal sl H := h
theorem block_ret (h : Q .ret sl H) : inBlockA id Q .ret sl H := h
theorem block_exit (h : Q .normal sl H) : inBlockA id Q (.exit id) sl H := by simp only [inBlockA, if_true]; exact h
theorem block_out (hne : (id' == id) = false) (h : Q (.exit id') sl H) : inBlockA id Q (.exit id') sl H := by
  simp only [inBlockA]
  rw [if_neg (by intro e; subst e; simp at hne)]
  exact h
end
end
end Go.Ab
