/-
  One text of the proof (own work): contracts of functions of the program, by the abstract machine.
-/
import Derived.Test.YtmcgfohokniepaaX25
import Derived.Test.YtmcgfohokniepaaX33
import Derived.Test.YtmcgfohokniepaaX24
import Derived.Test.YtmcgfohokniepaaX23
import Derived.Test.YtmcgfohokniepaaX31
set_option linter.unusedVariables false
set_option linter.unusedSimpArgs false
namespace Go.Ab
open Go Go.RowKit Go.Proofs
set_option maxRecDepth 4000
set_option maxHeartbeats 40000000
def EkOK (x : Now) : Prop := x.q ∈ [[108, 105, 99, 101, 110, 115, 101, 58, 97, 112, 112, 47, 97, 46, 115, 114, 99], [108, 105, 99, 101, 110, 115, 101, 58, 108, 105, 98, 47, 98, 46, 115, 114, 99], ([114, 101, 108, 97, 116, 105, 111, 110, 58, 97, 112, 112, 47, 97, 46, 115, 114, 99] : List UInt8)] ∧ x.s ∈ [[], ([97, 112, 112, 47] : List UInt8)]
def EvdG (d : D) : Prop := ∃ l : List Now, d = .list (l.map eN) ∧ l.length ≤ 14 ∧ ∀ x ∈ l, EkOK x
theorem pick2K {a : Int} (h : 0 ≤ a) (x y : List UInt8) : ∃ z, [D.str x, D.str y][(a.tmod 2).toNat]? = some (.str z) ∧ z ∈ [x, y] := by
  have := tm2 h
  rcases (show a.tmod 2 = 0 ∨ a.tmod 2 = 1 by omega) with h | h <;> rw [h]
  · exact ⟨x, rfl, by simp⟩
  · exact ⟨y, rfl, by simp⟩
theorem pick3K {a : Int} (h : 0 ≤ a) (x y z : List UInt8) : ∃ w, [D.str x, D.str y, D.str z][(a.tmod 3).toNat]? = some (.str w) ∧ w ∈ [x, y, z] := by
  have := tm3 h
  rcases (show a.tmod 3 = 0 ∨ a.tmod 3 = 1 ∨ a.tmod 3 = 2 by omega) with h | h | h <;> rw [h]
  · exact ⟨x, rfl, by simp⟩
  · exact ⟨y, rfl, by simp⟩
  · exact ⟨z, rfl, by simp⟩
noncomputable def Γ25p : FuncId → Option CSpec := fun f => if f = 36 then some (.pure true (g36)) else if f = 46 then some (.pure true (g46)) else none
theorem Γ25p_ok : ∀ f s, Γ25p f = some s → SpecOK Try.prog f s := by
  intro f s h
  unfold Γ25p at h
  split at h
  · rename_i hf; cases h; subst hf; exact f36_ok
  split at h
  · rename_i hf; cases h; subst hf; exact f46_ok
  · cases h
noncomputable def Γ25 : FuncId → Option CSpec := fun f => if f = 47 then some (.own g47) else Γ25p f
theorem Γ25_ok : ∀ f s, Γ25 f = some s → SpecOK Try.prog f s := by
  intro f s h
  unfold Γ25 at h
  split at h
  · rename_i hf; cases h; subst hf; exact f47_ok
  · exact Γ25p_ok f s h
theorem wrap_u8 {n : Int} (h : 0 ≤ n) (h2 : n < 256) : IntKind.wrap .u8 n = n := by
  show n % 256 = n
  omega
structure NsOK (l : List Int) : Prop where
  n : l.length ≤ 1099511627776
  b : ∀ n ∈ l, 0 ≤ n ∧ n < 256
theorem f25_ex : ∃ g, PureOK Try.prog 25 false g ∧ ∀ l : List Int, NsOK l → ∃ d, EvdG d ∧ g [.list (l.map u8)] = some d := by
  have hΓ := Γ25_ok
  refine pure_ex (enc := fun l : List Int => [.list (l.map u8)]) (dom := NsOK) (good := fun _ => EvdG) (n := 58) (rs := [.tmp 2]) Try.func25 (by kernel_rfl) rfl (by kernel_rfl) (by kernel_rfl) (fun a b h => by
    simp only [List.cons.injEq, and_true, D.list.injEq] at h
    exact dmap_inj (fun x y h => by simpa using h) h) ?_
  rintro ns ⟨hn, hb⟩
  refine ⟨fun h => (by cases h), ?_⟩
  rw [start_frame (by simp)]; simp only [enumV, go_sem, emptyH]
  (repeat (first | (refine axA ?_; first | (apply axR hΓ; (simp (disch := omega) only [go_sem, ↓reduceIte, dk] <;> with_reducible rfl); exact trivial) | refine axA ?_ | refine axB ?_) | refine axB ?_ | (apply axK; (focus ((with_reducible constructor) <;> rfl))) | ((first | apply axR hΓ | apply axG | apply ovX rfl | apply ovE rfl); (simp (disch := omega) only [go_sem, ↓reduceIte, dk] <;> with_reducible rfl); exact trivial) | rfl))
  refine axp_loop_at (X := Nat × List Now) (fun x => (frame 58 [(0, .data (.list (ns.map u8))), (3, .row 0 x.2.length), (4, .data (i64 x.1))])) (fun x => [(0, .row 39 3 (x.2.map eN))]) 1
    (fun x => x.1 ≤ ns.length ∧ x.1 ≤ 12 ∧ x.2.length ≤ x.1 ∧ ∀ y ∈ x.2, EkOK y) (fun x => ns.length - x.1) (0, []) ⟨Nat.zero_le _, by simp, by simp, by simp⟩ ((Weak.nilrowF (i := 3) 39 (sz := 3) (by omega) (by omega) rfl).trans (Weak.trans (s2 := (frame 58 [(0, .data (.list (ns.map u8))), (3, .row 3 0), (4, .data (i64 0))])) (H2 := ⟨[(3, .row 39 3 [])], 4⟩) (Weak.v (by (simp [ConvF, lookV, Conv, ints, upd]; done)) (by (simp (disch := omega) only [TabSub, look, if_pos, if_neg, Obj.refsOK, refsOKs, AV.refsOK, decide_eq_true_eq, Bool.and_true, Bool.and_self, upd] ) <;> ((repeat' apply And.intro) <;> first | exact True.intro | omega | (simp; done) | rfl))) (Weak.packed (os := [.row 39 3 (([] : List Now).map eN)]) (fp := [3]) rfl rfl (by simp) rfl rfl))) ?_
  rintro ⟨i, out⟩ ⟨h1, h2, h3, h4⟩
  dsimp only at h1 h2 h3 h4 ⊢
  by_cases hi : i < ns.length ∧ i < 12
  · obtain ⟨hi, h12⟩ := hi
    have hy := hb _ (List.getElem_mem hi)
    generalize hyy : ns[i] = n at hy
    obtain ⟨n0, n1⟩ := hy
    have d3 : n.tdiv 3 = n / 3 := Int.tdiv_eq_ediv_of_nonneg n0
    have d6 : n.tdiv 6 = n / 6 := Int.tdiv_eq_ediv_of_nonneg n0
    have w3 : IntKind.wrap .u8 (n.tdiv 3) = n.tdiv 3 := by rw [d3]; exact wrap_u8 (by omega) (by omega)
    have w6 : IntKind.wrap .u8 (n.tdiv 6) = n.tdiv 6 := by rw [d6]; exact wrap_u8 (by omega) (by omega)
    have t3 := tm3 n0
    have t2 := tm2 (show 0 ≤ n.tdiv 3 by omega)
    have t6 := tm3 (show 0 ≤ n.tdiv 6 by omega)
    have t32 : 0 ≤ n.tmod 32 ∧ n.tmod 32 < 32 := by rw [Int.tmod_eq_emod_of_nonneg n0]; omega
    obtain ⟨qs, hq, hqm⟩ := pick3K n0 [108, 105, 99, 101, 110, 115, 101, 58, 97, 112, 112, 47, 97, 46, 115, 114, 99] [108, 105, 99, 101, 110, 115, 101, 58, 108, 105, 98, 47, 98, 46, 115, 114, 99] [114, 101, 108, 97, 116, 105, 111, 110, 58, 97, 112, 112, 47, 97, 46, 115, 114, 99]
    obtain ⟨ps, hp, hpm⟩ := pick2K (show 0 ≤ n.tdiv 3 by omega) [] [97, 112, 112, 47]
    have e46 := g46_eq ((n.tdiv 6).tmod 3)
    have l46 := numB_len ((n.tdiv 6).tmod 3)
    generalize numB ((n.tdiv 6).tmod 3) = m at e46 l46
    have e36 := g36_2 (a := [101, 118, 105, 100, 101, 110, 99, 101]) (b := m) (by simp) (by omega)
    have hl := hsh_len [[101, 118, 105, 100, 101, 110, 99, 101], m]
    generalize hsh [[101, 118, 105, 100, 101, 110, 99, 101], m] = h at e36 hl
    (repeat (first | (refine axA ?_; first | (apply axR hΓ; (simp (disch := omega) only [go_sem, ↓reduceIte, dk, hyy] <;> with_reducible rfl); exact trivial) | refine axA ?_ | refine axB ?_) | refine axB ?_ | (apply axK; (focus ((with_reducible constructor) <;> rfl))) | ((first | apply axR hΓ | apply axG | apply ovX rfl | apply ovE rfl); (simp (disch := omega) only [go_sem, ↓reduceIte, dk, hyy] <;> with_reducible rfl); exact trivial) | rfl))
    refine axA ?_
    (apply axp_lane3 (nst := false) (nst' := false) [false, false, false, false, false, false, false, false, false, false, false, false, false, false, false, false, false, false, false, true] mixedOK hΓ (n1 := 20) (by kernel_rfl) (by kernel_rfl); (focus (dsimp only [List.take_succ_cons, List.take_zero, Array.toList]; (repeat (first | (apply lane3_loud; (focus rfl); (focus rfl); (simp (disch := omega) only [go_sem, ↓reduceIte, ↓lk, ↓ty_build39, dk, w3, w6, hq, hp, Γ25, Γ25p, e46, e36, look_upd] <;> with_reducible rfl); (focus (first | (simp (disch := omega) only [go_sem, ↓reduceIte, ↓lk, ↓ty_build39, dk, w3, w6, hq, hp, Γ25, Γ25p, e46, e36, look_upd]; done) | (simp (disch := omega) only [go_sem, ↓reduceIte, ↓lk, ↓ty_build39, dk, w3, w6, hq, hp, Γ25, Γ25p, e46, e36, look_upd]; omega)))) | (apply lane3_quiet; (simp (disch := omega) only [go_sem, ↓reduceIte, ↓lk, ↓ty_build39, dk, w3, w6, hq, hp, Γ25, Γ25p, e46, e36, look_upd] <;> with_reducible rfl)))); exact lane3_nil)); (focus ((repeat' (first | exact True.intro | refine And.intro ?_ ?_)); all_goals (first | (left; decide) | (left; rfl) | (right; simp (disch := omega) only [go_sem, ↓reduceIte, ↓lk, ↓ty_build39, dk, w3, w6, hq, hp, Γ25, Γ25p, e46, e36, look_upd]; try with_reducible rfl)))); (simp (disch := omega) only [go_sem, ↓reduceIte, ↓lk, ↓ty_build39, dk, w3, w6, hq, hp, Γ25, Γ25p, e46, e36, look_upd] <;> with_reducible rfl))
    by_cases h216 : 216 ≤ n
    · (repeat (first | (refine axA ?_; first | (apply axR hΓ; (simp (disch := omega) only [go_sem, ↓reduceIte, ↓lk, dk] <;> with_reducible rfl); exact trivial) | refine axA ?_ | refine axB ?_) | refine axB ?_ | (apply axK; (focus ((with_reducible constructor) <;> rfl))) | ((first | apply axR hΓ | apply axG | apply ovX rfl | apply ovE rfl); (simp (disch := omega) only [go_sem, ↓reduceIte, ↓lk, dk] <;> with_reducible rfl); exact trivial) | rfl))
      refine axA ?_
      (apply axp_lane3 (nst := false) (nst' := false) [false, false, false, false, false, false, false, false, false, false, false, true] mixedOK hΓ (n1 := 12) (by kernel_rfl) (by kernel_rfl); (focus (dsimp only [List.take_succ_cons, List.take_zero, Array.toList]; (repeat (first | (apply lane3_loud; (focus rfl); (focus rfl); (simp (disch := omega) only [go_sem, ↓reduceIte, ↓lk, ↓ty_build39, dk, hl, look_upd] <;> with_reducible rfl); (focus (first | (simp (disch := omega) only [go_sem, ↓reduceIte, ↓lk, ↓ty_build39, dk, hl, look_upd]; done) | (simp (disch := omega) only [go_sem, ↓reduceIte, ↓lk, ↓ty_build39, dk, hl, look_upd]; omega)))) | (apply lane3_quiet; (simp (disch := omega) only [go_sem, ↓reduceIte, ↓lk, ↓ty_build39, dk, hl, look_upd] <;> with_reducible rfl)))); exact lane3_nil)); (focus ((repeat' (first | exact True.intro | refine And.intro ?_ ?_)); all_goals (first | (left; decide) | (left; rfl) | (right; simp (disch := omega) only [go_sem, ↓reduceIte, ↓lk, ↓ty_build39, dk, hl, look_upd]; try with_reducible rfl)))); (simp (disch := omega) only [go_sem, ↓reduceIte, ↓lk, ↓ty_build39, dk, hl, look_upd] <;> with_reducible rfl))
      (repeat (first | (apply axJ; (focus ((with_reducible constructor) <;> rfl))) | ((first | apply axR hΓ | apply axG | apply ovX rfl | apply ovE rfl); (simp (disch := omega) only [go_sem, ↓reduceIte, dk] <;> with_reducible rfl); exact trivial) | rfl))
      refine ⟨out ++ [⟨qs, [], _⟩, ⟨qs, ps, h⟩], by rw [List.map_append]; rfl, by simp; omega, fun x hx => ?_⟩
      simp only [List.mem_append, List.mem_cons, List.not_mem_nil, or_false] at hx
      rcases hx with hx | rfl | rfl
      · exact h4 x hx
      · exact ⟨hqm, by simp⟩
      · exact ⟨hqm, hpm⟩
    · obtain ⟨out', e47, k1, k2⟩ := g47_eq (l := out) (x := ⟨qs, ps, h⟩) (by omega)
      (repeat (first | (apply axJ; (focus ((with_reducible constructor) <;> rfl))) | ((first | apply axR hΓ | apply axG | apply ovX rfl | apply ovE rfl); (simp (disch := omega) only [go_sem, ↓reduceIte, ↓lk, dk, Γ25, e47] <;> with_reducible rfl); exact trivial) | rfl))
      exact ⟨(i + 1, out'), ⟨by dsimp only; omega, by dsimp only; omega, by dsimp only; omega, fun y hy => (k2 y hy).elim (h4 y) fun h => by subst h; exact ⟨hqm, hpm⟩⟩, by dsimp only; omega, Weak.trans (s2 := (frame 58 [(0, .data (.list (ns.map u8))), (3, .row 39 out'.length), (4, .data (i64 (i + 1 : Nat)))])) (H2 := ⟨[(39, .row 39 3 (out'.map eN))], 40⟩) (Weak.w) (Weak.packed (os := [.row 39 3 (out'.map eN)]) (fp := [39]) rfl rfl (by simp) rfl rfl)⟩
  · by_cases ha : i < ns.length
    · have hb : ¬ i < 12 := fun h => hi ⟨ha, h⟩
      (repeat (first | (apply axJ; (focus ((with_reducible constructor) <;> rfl))) | ((first | apply axR hΓ | apply axG | apply ovX rfl | apply ovE rfl); (simp (disch := omega) only [go_sem, ↓reduceIte, dk] <;> with_reducible rfl); exact trivial) | rfl))
      exact ⟨out, rfl, by omega, h4⟩
    · (repeat (first | (apply axJ; (focus ((with_reducible constructor) <;> rfl))) | ((first | apply axR hΓ | apply axG | apply ovX rfl | apply ovE rfl); (simp (disch := omega) only [go_sem, ↓reduceIte, dk] <;> with_reducible rfl); exact trivial) | rfl))
      exact ⟨out, rfl, by omega, h4⟩
noncomputable def g25 := f25_ex.choose
theorem f25_ok : PureOK Try.prog 25 false g25 := f25_ex.choose_spec.1
theorem g25_eq {l : List Int} (h : NsOK l) : ∃ m : List Now, g25 [.list (l.map u8)] = some (.list (m.map eN)) ∧ m.length ≤ 14 ∧ ∀ x ∈ m, EkOK x := by
  obtain ⟨d, ⟨m, rfl, h3, h4⟩, h5⟩ := f25_ex.choose_spec.2 l h
  exact ⟨m, h5, h3, h4⟩
end Go.Ab
namespace Go.Ab
open Go Go.RowKit Go.Proofs
set_option maxRecDepth 4000
theorem wf_u8 {x : Int} (h : (Lit.int .u8 x).wf = true) : 0 ≤ x ∧ x ≤ 255 := by
  have : (decide (0 ≤ x) && decide (x ≤ 255)) = true := h
  simpa using this
theorem list_chooseP {α β γ : Type} {f : α → γ} {g : β → γ} {p : β → Prop} : ∀ (ls : List α), (∀ c ∈ ls, ∃ x, f c = g x ∧ p x) → ∃ l : List β, ls.map f = l.map g ∧ l.length = ls.length ∧ ∀ x ∈ l, p x
  | [], _ => ⟨[], rfl, rfl, fun x hx => by cases hx⟩
  | c :: ls, h => by
    obtain ⟨x, hx, hp⟩ := h c List.mem_cons_self
    obtain ⟨l, h1, h2, h3⟩ := list_chooseP ls fun c hc => h c (List.mem_cons_of_mem _ hc)
    exact ⟨x :: l, by simp [hx, h1], by simp [h2], fun y hy => by
      rcases List.mem_cons.1 hy with rfl | hy
      · exact hp
      · exact h3 y hy⟩
theorem has_u8s {n : Nat} {cs : List D} (h : HasTy n (.slice (.int .u8)) cs) (hn : n ≤ 1099511627776) : ∃ l : List Int, (Ty.slice (.int .u8)).pack cs = .list (l.map u8) ∧ NsOK l := by
  simp only [HasTy] at h
  obtain ⟨ls, hl, hs, rfl⟩ := h
  obtain ⟨m, e, k, hp⟩ := list_chooseP (f := (Ty.int .u8).pack) (g := fun x : Int => u8 x) (p := fun x => 0 ≤ x ∧ x < 256) ls fun c hc => by
    obtain ⟨x, hw, rfl⟩ := hs c hc
    have := wf_u8 hw
    exact ⟨x, rfl, this.1, by omega⟩
  exact ⟨m, by simp only [Ty.pack, List.headD_cons, e], ⟨by omega, hp⟩⟩
theorem has_nns {n : Nat} {xs : List D} (h : HasTys n [.slice (.int .u8), .slice (.int .u8), .str] xs) (hn : n ≤ 1099511627776) : ∃ (a b : List Int) (s : List UInt8), xs = [.list (a.map u8), .list (b.map u8), .str s] ∧ NsOK a ∧ NsOK b ∧ s.length ≤ 1099511627776 := by
  simp only [HasTys] at h
  obtain ⟨c1, _, h1, ⟨c2, _, h2, ⟨c3, _, h3, rfl, rfl⟩, rfl⟩, rfl⟩ := h
  obtain ⟨a, e1, b1⟩ := has_u8s h1 hn
  obtain ⟨b, e2, b2⟩ := has_u8s h2 hn
  obtain ⟨s, hs, e3⟩ := has_str h3
  exact ⟨a, b, s, by rw [e1, e2, e3], b1, b2, by omega⟩
end Go.Ab
namespace Go.Ab
open Go Go.RowKit Go.Proofs
set_option maxRecDepth 4000
set_option maxHeartbeats 4000000
def upgr (l : List Pk) (nm : List UInt8) : Int := match l.find? (fun p => p.name == nm) with
  | some p => p.up
  | none => 0
structure SzV (r : Rev) (l : List Now) : Prop where
  r : SzR r
  l : l.length ≤ 1099511627776
def ask (d : Dc) : Now := ⟨d.q, d.s, d.dig⟩
def first (r : Rev) (l : List Now) (d : Dc) : Int := if d.w then 2 else if d.o then 3 else if d.rp then 4 else if upgr r.pks (pkg d.q) > d.til then 5 else if has l (ask d) then 1 else 6
end Go.Ab
namespace Go.Ab
open Go Go.RowKit Go.Proofs
set_option maxRecDepth 4000
set_option maxHeartbeats 4000000
structure SzA (r : Rev) (l : List Now) : Prop where
  v : SzV r l
  q : ∀ d ∈ r.dcs, d.q.length ≤ 1099511627776
end Go.Ab
namespace Go.Ab
open Go Go.RowKit Go.Proofs
set_option maxRecDepth 4000
set_option maxHeartbeats 4000000
def mK (ks : List (List UInt8)) : List D := ks.map .str
@[go_sem] theorem keyKind_str (s : List UInt8) : keyKind Try.prog 9 (.str s) = true := by simp [keyKind, ty_und9]
@[go_sem] theorem mK_ok (ks : List (List UInt8)) : (mK ks).all (keyOK Try.prog 9) = true := by
  rw [List.all_eq_true]
  intro d hd
  obtain ⟨s, _, rfl⟩ := List.mem_map.1 hd
  simp [keyOK, keyKind, ty_und9]
@[go_sem] def cDc (d : Dc) : List D := [.str d.id, .str d.author, .str d.q, .str d.s, .str d.ans, .str d.dig, .int .i64 d.til, .bool d.w, .bool d.o, .bool d.rp]
end Go.Ab
namespace Go.Ab
open Go Go.RowKit Go.Proofs
set_option maxRecDepth 4000
set_option maxHeartbeats 4000000
structure Sd where
  id : List UInt8
  st : Int
@[go_sem] def eS (x : Sd) : D := .agg [.str x.id, i64 x.st]
end Go.Ab
namespace Go.Ab
open Go Go.RowKit Go.Proofs
set_option maxRecDepth 4000
set_option maxHeartbeats 4000000
theorem vld_01 (l : List Now) : vld l = 0 ∨ vld l = 1 := by
  unfold vld
  split
  · exact .inr rfl
  · split
    · exact .inl rfl
    · exact .inr rfl
noncomputable def g21 : List D → Option D := encSpec (fun l : List Now => [.list (l.map eN), .list (l.map eN)]) (fun l => l.length ≤ 1099511627776) (fun _ => .bool true)
theorem g21_eq {l : List Now} (h : l.length ≤ 1099511627776) : g21 [.list (l.map eN), .list (l.map eN)] = some (.bool true) := encSpec_eq (x := l) h fun y hy => rfl
theorem f21_ok : PureOK Try.prog 21 true g21 := by
  have hΓ := Γ0_ok
  refine pure_enc (n := 26) (rs := [.tmp 4]) Try.func21 (by kernel_rfl) rfl (by kernel_rfl) (by kernel_rfl) ?_
  intro l hl
  refine ⟨fun _ => .bool _, fun k hz0 => ?_⟩
  have hne : ((l.length : Int) != (l.length : Int)) = false := by simp
  rw [start_frame (by simp)]; simp only [enumV, go_sem, emptyH]
  repeat (first
    | (apply axJ; (focus ((with_reducible constructor) <;> rfl)))
    | (apply awT mixedOK hΓ (by kernel_rfl); (simp (disch := omega) only [go_sem, ↓reduceIte, dk, hne] <;> with_reducible rfl))
    | ((first | apply awR hΓ | apply awG | apply awH mixedOK hΓ rfl (by kernel_rfl) | apply ovE rfl); (simp (disch := omega) only [go_sem, ↓reduceIte, dk, hne] <;> with_reducible rfl); exact trivial)
    | rfl)
  refine awp_loop_at (X := Nat) (fun i => (frame 26 [(0, .data (.list (l.map eN))), (1, .data (.list (l.map eN))), (5, .data (i64 i))])) (fun _ => []) 0
    (fun i => i ≤ l.length) (fun i => l.length - i) 0 (Nat.zero_le _) (Weak.w) ?_
  intro i hi
  by_cases hi2 : i < l.length
  · have he := eq39 l[i] l[i]
    rw [decide_eq_true rfl] at he
    generalize hy : l[i] = y at he
    repeat (first
      | (apply axJ; (focus ((with_reducible constructor) <;> rfl)))
      | (apply awT mixedOK hΓ (by kernel_rfl); (simp (disch := omega) only [go_sem, ↓reduceIte, dk, eN, hy, ↓he] <;> with_reducible rfl))
      | ((first | apply awR hΓ | apply awG | apply awH mixedOK hΓ rfl (by kernel_rfl) | apply ovE rfl); (simp (disch := omega) only [go_sem, ↓reduceIte, dk, eN, hy, ↓he] <;> with_reducible rfl); exact trivial)
      | rfl)
    exact ⟨i + 1, by omega, by omega, Weak.w⟩
  · repeat (first
    | (apply axJ; (focus ((with_reducible constructor) <;> rfl)))
    | (apply awT mixedOK hΓ (by kernel_rfl); (simp (disch := omega) only [go_sem, ↓reduceIte, dk] <;> with_reducible rfl))
    | ((first | apply awR hΓ | apply awG | apply awH mixedOK hΓ rfl (by kernel_rfl) | apply ovE rfl); (simp (disch := omega) only [go_sem, ↓reduceIte, dk] <;> with_reducible rfl); exact trivial)
    | rfl)
end Go.Ab
namespace Go.Ab
open Go Go.RowKit Go.Proofs
set_option maxRecDepth 4000
set_option maxHeartbeats 4000000
end Go.Ab
namespace Go.Ab
open Go Go.RowKit Go.Proofs
set_option maxRecDepth 4000
set_option maxHeartbeats 4000000
end Go.Ab
namespace Go.Ab
open Go Go.RowKit Go.Proofs
set_option maxRecDepth 4000
set_option maxHeartbeats 4000000
abbrev Qs := List UInt8 × List UInt8
def eQ (k : Qs) : D := .agg [.str k.1, .str k.2]
def qK (ks : List Qs) : List D := ks.map eQ
theorem und77 : Program.underlying Try.prog 77 = some (.struct #[⟨"text", 9, 0, false, "", "licit/upgrade", 0⟩, ⟨"scope", 9, 1, false, "", "licit/upgrade", 16⟩]) := by kernel_rfl
@[go_sem] theorem keyOK_q (a b : List UInt8) : keyOK Try.prog 77 (.agg [.str a, .str b]) = true := by
  simp only [keyOK, und77]
  simp [keyFlds, keyKind, ty_und9, ty_agg9]
@[go_sem] theorem qK_ok (ks : List Qs) : (qK ks).all (keyOK Try.prog 77) = true := by
  rw [List.all_eq_true]
  intro d hd
  obtain ⟨s, _, rfl⟩ := List.mem_map.1 hd
  exact keyOK_q _ _
end Go.Ab
namespace Go.Ab
open Go Go.RowKit Go.Proofs
set_option maxRecDepth 100000
set_option maxHeartbeats 4000000
theorem eq_nil31 (ao : Option Addr) (n cap : Nat) (w : World) : (binOp BinOp.eql 31 (.slice ao n cap) (.slice none 0 0)).run Try.prog w = .ok (.bool ao.isNone) w := by
  have heq : ∀ k, (Op.equalIn (k + 1) 31 (.slice ao n cap) (.slice none 0 0)).run Try.prog w = .ok ao.isNone w := fun k => by
    simp only [Op.equalIn, Sem.run_bind, run_underlying ty_und31, Result.andThen_ok, Sem.run_pure]
    cases ao <;> simp
  have h2 : (Op.equal 31 (.slice ao n cap) (.slice none 0 0)).run Try.prog w = .ok ao.isNone w := heq 9999
  simp only [binOp, Sem.run_bind, h2, Result.andThen_ok, Sem.run_pure]
theorem call16 (ao : Option Addr) (cap : Nat) (w : World) :
    Calls Try.prog 16 #[.slice ao 0 cap] w fun e w' => ∃ a c, e = .returned (.slice a 0 c) ∧ Below w.heap.size w w' := by
  cases ao with
  | none =>
    go_enter Try.func16, Try.ntmps16
    go_wp2
    rw [eq_nil31]
    simp only [Result.andThen]
    rw [Oper.upon_value]
    go_wp2
    go_ret
    exact ⟨none, 0, rfl, Below.refl _ _⟩
  | some a =>
    go_enter Try.func16, Try.ntmps16
    go_wp2
    rw [eq_nil31]
    simp only [Result.andThen]
    rw [Oper.upon_value]
    go_wp2
    go_ret
    exact ⟨_, _, rfl, (Below.refl _ _).alloc (Nat.le_refl _) _⟩
noncomputable def g16n : List D → Option D := encSpec (fun l : List Now => [.list (l.map eN)]) (fun l => l.length ≤ 1099511627776 ∧ l ≠ []) (fun l => .list (l.map eN))
theorem f16n_ok : PureOK Try.prog 16 false g16n := by
  have hΓ := Γ0_ok
  refine pure_enc (n := 8) (rs := [.tmp 2]) Try.func16 (by kernel_rfl) rfl (by kernel_rfl) (by kernel_rfl) ?_
  rintro l ⟨hl, hne⟩
  refine ⟨fun h => (by cases h), fun k hz0 => ?_⟩
  obtain ⟨x, l, rfl⟩ := List.exists_cons_of_ne_nil hne
  rw [start_frame (by simp)]; simp only [enumV, go_sem, emptyH]
  have hem : elemsOK 3 (l.map eN) = true := elemsOK_map (f := eN) (sz := 3) (fun x => ⟨by simp [eN, D.cells], by simp [eN, D.cells, D.one]⟩) l
  generalize hm : l.map eN = m at hem
  have hml : m.length + 1 ≤ 1099511627776 := by subst hm; simpa using hl
  repeat (first
    | (apply axJ; (focus ((with_reducible constructor) <;> rfl)))
    | (apply awT mixedOK hΓ (by kernel_rfl); (simp (disch := omega) only [go_sem, ↓reduceIte, ↓lk, dk, hem] <;> with_reducible rfl))
    | ((first | apply awR hΓ | apply awG | apply awH mixedOK hΓ rfl (by kernel_rfl) | apply ovE rfl); (simp (disch := omega) only [go_sem, ↓reduceIte, ↓lk, dk, hem] <;> with_reducible rfl); exact trivial)
    | rfl)
noncomputable def g16 : List D → Option D := encSpec (fun l : List Now => [.list (l.map eN)]) (fun l => l.length ≤ 1099511627776) (fun l => .list (l.map eN))
theorem g16_eq {l : List Now} (h : l.length ≤ 1099511627776) : g16 [.list (l.map eN)] = some (.list (l.map eN)) := encSpec_eq (x := l) h fun y hy => by
  simp only [List.cons.injEq, and_true] at hy
  rw [hy]
theorem f16_ok : PureOK Try.prog 16 false g16 := by
  intro ds d hd
  obtain ⟨l, rfl, hl, rfl⟩ := encSpec_some hd
  cases l with
  | cons x l =>
    exact f16n_ok _ _ (encSpec_eq (x := x :: l) ⟨hl, by simp⟩ fun y hy => by
      simp only [List.cons.injEq, and_true] at hy
      rw [hy])
  | nil =>
    refine ⟨fun h => (by cases h), fun w B vs hB hz hvs => ⟨⟨_, Try.func16, rfl, rfl⟩, ?_⟩⟩
    obtain ⟨u, hu⟩ : ∃ u, vs[0]? = some u := ⟨_, Array.getElem?_eq_getElem (by simp at hz; omega)⟩
    obtain ⟨ao, cap, hv, _⟩ := (hvs 0 (by simp) u hu).list_inv
    have hvs2 : vs = #[.slice ao 0 cap] := by
      apply Array.ext_getElem?
      intro i
      match i with
      | 0 => rw [hu, hv]; rfl
      | i + 1 => rw [Array.getElem?_eq_none (by simp at hz; omega), Array.getElem?_eq_none (by simp)]
    rw [hvs2]
    refine (call16 ao cap w).mono ?_
    rintro e w' ⟨a, c, rfl, hb⟩
    exact ⟨_, rfl, .empty a c, hb⟩
noncomputable def g4 : List D → Option D := encSpec (fun x : Rev × List Now => [eR x.1, .list (x.2.map eN)]) (fun x => SzA x.1 x.2) (fun x => .bool true)
end Go.Ab
