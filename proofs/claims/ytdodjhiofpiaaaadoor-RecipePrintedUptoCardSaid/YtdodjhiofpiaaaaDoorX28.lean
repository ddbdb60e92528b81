/-
  One text of the proof (own work): contracts of functions of the program, by the abstract machine.
-/
import Derived.Shelf.Strings.FuncGrows
import Derived.Laws.RangeAny
import Derived.Test.YtdodjhiofpiaaaaDoorX19
import Derived.Test.YtdodjhiofpiaaaaDoorX27
set_option linter.unusedVariables false
set_option linter.unusedSimpArgs false
namespace Go.Ab
open Go Go.RowKit Go.Proofs Go.Shelf
set_option maxRecDepth 10000
set_option maxHeartbeats 8000000
theorem idxFrom (p : Nat → Bool) (hp : ∀ r, 128 ≤ r → p r = true) (s : Bs) : ∀ (f pos : Nat), pos ≤ s.length → s.length ≤ pos + f → (s.take pos).any (fun b => p b.toNat) = false →
    Lib.idxFuncFrom p true ⟨s.toArray⟩ f pos = idx (fun b => p b.toNat) s := by
  have hsz : (⟨s.toArray⟩ : ByteArray).size = s.length := by simp [ByteArray.size]
  intro f
  induction f with
  | zero =>
    intro pos h1 h2 h3
    have : pos = s.length := by omega
    subst this
    rw [List.take_length] at h3
    rw [idx_none h3]
    rfl
  | succ f ih =>
    intro pos h1 h2 h3
    rw [Lib.idxFuncFrom]
    by_cases hi : pos < s.length
    · have hi2 : pos < (⟨s.toArray⟩ : ByteArray).size := by rw [hsz]; exact hi
      rw [if_pos hi2]
      have hg : ((⟨s.toArray⟩ : ByteArray)[pos]'hi2) = s[pos] := rfl
      by_cases ha : s[pos].toNat < 128
      · rw [decode_ascii _ _ hi2 (by rw [hg]; exact ha), hg]
        dsimp only
        by_cases hq : p s[pos].toNat = true
        · rw [if_pos hq, idx_at hi hq h3]
        · rw [if_neg hq]
          exact ih (pos + 1) (by omega) (by omega) (any_next (p := fun b : UInt8 => p b.toNat) hi h3 (by simpa using hq))
      · have hd := decode_high _ _ hi2 (by rw [hg]; omega)
        rw [if_pos (hp _ hd.1), idx_at (p := fun b : UInt8 => p b.toNat) hi (hp _ (by omega)) h3]
    · have : pos = s.length := by omega
      subst this
      rw [List.take_length] at h3
      rw [if_neg (by rw [hsz]; omega), idx_none h3]
theorem idxFn (p : Nat → Bool) (hp : ∀ r, 128 ≤ r → p r = true) (s : Bs) : Lib.idxFunc p true ⟨s.toArray⟩ = idx (fun b => p b.toNat) s := by
  unfold Lib.idxFunc
  exact idxFrom p hp s _ 0 (Nat.zero_le _) (by simp [ByteArray.size]) rfl
theorem pred_grows {f : FuncId} {fl : Bool} {g : List D → Option D} {p : Nat → Bool} (hf : PureOK Tryd.prog f fl g) (hg : ∀ r : Nat, g [.int .i32 r] = some (.bool (p r))) (w : World) : PredGrows Tryd.prog f #[] p w := fun W x _ _ => by
  refine ((hf _ _ (hg x)).2 W (fun _ => False) #[encR x] (fun _ h => h.elim) rfl (fun i hi u hu => ?_)).2.mono ?_
  · have : i = 0 := by simp at hi; omega
    subst this
    cases (show some (encR x) = some u from hu)
    exact .int _ _
  · rintro e w' ⟨u, rfl, hu, hb⟩
    cases hu
    exact ⟨rfl, hb⟩
noncomputable def g_cf (f : FuncId) (q : UInt8 → Bool) : List D → Option D := encSpec (fun s : Bs => [.str s, .clo f []]) (fun s => s.length ≤ 1099511627776) (fun s => .bool (s.any q))
theorem g_cf_eq {f : FuncId} {q : UInt8 → Bool} {s : Bs} (h : s.length ≤ 1099511627776) : g_cf f q [.str s, .clo f []] = some (.bool (s.any q)) := encSpec_eq (x := s) h fun y hy => by
  simp only [List.cons.injEq, and_true, D.str.injEq] at hy
  rw [hy]
theorem f_cf_ok {f : FuncId} {fl : Bool} {g : List D → Option D} {p : Nat → Bool} (hf : PureOK Tryd.prog f fl g) (hg : ∀ r : Nat, g [.int .i32 r] = some (.bool (p r))) (hp : ∀ r, 128 ≤ r → p r = true)
    (eg : ∀ args w, (callFunc f args).run Tryd.prog w = .ok (.enter f args) w) : PureOK Tryd.prog 95 true (g_cf f fun b => p b.toNat) := by
  intro ds d hd
  obtain ⟨s, rfl, hx, rfl⟩ := encSpec_some hd
  refine ⟨fun _ => .bool _, fun w B vs hB hz hvs => ⟨⟨Tryd.f95, Tryd.func95, by kernel_rfl, by kernel_rfl⟩, ?_⟩⟩
  have hz2 : vs.size = 2 := hz
  have h0 : 0 < vs.size := by omega
  have h1 : 1 < vs.size := by omega
  have hv0 := hvs 0 (by simp) (vs[0]'h0) (Array.getElem?_eq_getElem h0)
  have hv1 := hvs 1 (by simp) (vs[1]'h1) (Array.getElem?_eq_getElem h1)
  have e : vs = #[vs[0]'h0, vs[1]'h1] := Array.ext hz2 fun i i1 i2 => by
    match i, i2 with
    | 0, _ => rfl
    | 1, _ => rfl
  have e0 : vs[0]'h0 = .string ⟨s.toArray⟩ := DR.str_eq hv0
  have e1 : vs[1]'h1 = .func (.func f) #[] #[] := by
    generalize vs[1]'h1 = v at hv1
    cases (show DR w B (.clo f []) v from hv1) with
    | clo _ _ us _ hz => rw [Array.eq_empty_of_size_eq_zero hz]
  rw [e, e0, e1]
  have hc := Any.strings_ContainsFunc_grows layG17 f #[] eg p ⟨s.toArray⟩ w (pred_grows hf hg w)
  refine Calls.mono hc fun e w' h => ?_
  refine ⟨_, h.1, ?_, h.2⟩
  rw [idxFn p hp, show decide (0 ≤ idx (fun b : UInt8 => p b.toNat) s) = s.any (fun b => p b.toNat) from idx_nonneg _ s]
  exact .bool _
def ptB (c : Int) : Bool := (decide (c ≥ 97) && decide (c ≤ 122)) || ((decide (c ≥ 48) && decide (c ≤ 57)) || (c == 46 || (c == 95 || c == 45)))
theorem ptB_eq (c : Int) : ptB c = pbI c := by
  unfold ptB pbI
  rw [Bool.eq_iff_iff]
  simp only [Bool.or_eq_true, Bool.and_eq_true, decide_eq_true_eq, beq_iff_eq, Bool.not_eq_true', Bool.and_eq_false_iff, Bool.or_eq_false_iff, decide_eq_false_iff_not, bne_eq_false_iff_eq]
  omega
noncomputable def g_treeC1 : List D → Option D := encSpec (fun x : Int => [.int .i32 x]) (fun x : Int => True) (fun x : Int => .bool (!ptB x))
theorem g_treeC1_eq {r : Int} (hd : True) : g_treeC1 [.int .i32 r] = some (.bool (!ptB r)) := encSpec_eq (x := r) hd fun y hy => by
    simp only [List.cons.injEq, and_true, true_and, D.str.injEq, D.int.injEq, D.list.injEq, D.bool.injEq, D.agg.injEq, D.clo.injEq, Int.natCast_inj, inj_ie] at hy
    rw [hy]
theorem f_treeC1_ok : PureOK Tryd.prog 96 true g_treeC1 := by
  have hΓ := Γ0_ok
  refine pure_enc (n := 30) (rs := [.tmp 2]) Tryd.func96 (by kernel_rfl) rfl (by kernel_rfl) (by kernel_rfl) ?_
  rintro r hd
  (try dsimp only at hd ⊢)
  refine ⟨fun _ => by (repeat (first | exact .int _ _ | exact .bool _ | exact .str _ | (refine .tup _ (fun d hd => ?_); simp only [List.mem_cons, List.not_mem_nil, or_false] at hd; rcases hd with rfl | hd))), fun k hz0 => ?_⟩
  unfold ptB
  rw [start_frame (by simp)]; simp only [enumV, go_sem, emptyH]
  generalize h1 : decide (r ≥ 97) = a1
  generalize h2 : decide (r ≤ 122) = a2
  generalize h3 : decide (r ≥ 48) = b1
  generalize h4 : decide (r ≤ 57) = b2
  generalize h5 : (r == 46) = c1
  generalize h6 : (r == 95) = c2
  generalize h7 : (r == 45) = c3
  (cases a1; (focus (cases b1; (focus (cases c1; (focus (cases c2; (focus (cases c3; (focus ((repeat (first | (apply axJ; (focus ((with_reducible constructor) <;> rfl))) | (apply awT mixedOK hΓ (by kernel_rfl); (simp (disch := omega) only [go_sem, ↓reduceIte, dk, h1, h2, h3, h4, h5, h6, h7] <;> with_reducible rfl)) | ((first | apply awR hΓ | apply awG | apply awH mixedOK hΓ rfl (by kernel_rfl) | apply ovE rfl); (simp (disch := omega) only [go_sem, ↓reduceIte, dk, h1, h2, h3, h4, h5, h6, h7] <;> with_reducible rfl); exact trivial) | rfl)); (first | done | rfl))); (focus ((repeat (first | (apply axJ; (focus ((with_reducible constructor) <;> rfl))) | (apply awT mixedOK hΓ (by kernel_rfl); (simp (disch := omega) only [go_sem, ↓reduceIte, dk, h1, h2, h3, h4, h5, h6, h7] <;> with_reducible rfl)) | ((first | apply awR hΓ | apply awG | apply awH mixedOK hΓ rfl (by kernel_rfl) | apply ovE rfl); (simp (disch := omega) only [go_sem, ↓reduceIte, dk, h1, h2, h3, h4, h5, h6, h7] <;> with_reducible rfl); exact trivial) | rfl)); (first | done | rfl))))); (focus ((repeat (first | (apply axJ; (focus ((with_reducible constructor) <;> rfl))) | (apply awT mixedOK hΓ (by kernel_rfl); (simp (disch := omega) only [go_sem, ↓reduceIte, dk, h1, h2, h3, h4, h5, h6, h7] <;> with_reducible rfl)) | ((first | apply awR hΓ | apply awG | apply awH mixedOK hΓ rfl (by kernel_rfl) | apply ovE rfl); (simp (disch := omega) only [go_sem, ↓reduceIte, dk, h1, h2, h3, h4, h5, h6, h7] <;> with_reducible rfl); exact trivial) | rfl)); (first | done | rfl))))); (focus ((repeat (first | (apply axJ; (focus ((with_reducible constructor) <;> rfl))) | (apply awT mixedOK hΓ (by kernel_rfl); (simp (disch := omega) only [go_sem, ↓reduceIte, dk, h1, h2, h3, h4, h5, h6, h7] <;> with_reducible rfl)) | ((first | apply awR hΓ | apply awG | apply awH mixedOK hΓ rfl (by kernel_rfl) | apply ovE rfl); (simp (disch := omega) only [go_sem, ↓reduceIte, dk, h1, h2, h3, h4, h5, h6, h7] <;> with_reducible rfl); exact trivial) | rfl)); (first | done | rfl))))); (focus (cases b2; (focus (cases c1; (focus (cases c2; (focus (cases c3; (focus ((repeat (first | (apply axJ; (focus ((with_reducible constructor) <;> rfl))) | (apply awT mixedOK hΓ (by kernel_rfl); (simp (disch := omega) only [go_sem, ↓reduceIte, dk, h1, h2, h3, h4, h5, h6, h7] <;> with_reducible rfl)) | ((first | apply awR hΓ | apply awG | apply awH mixedOK hΓ rfl (by kernel_rfl) | apply ovE rfl); (simp (disch := omega) only [go_sem, ↓reduceIte, dk, h1, h2, h3, h4, h5, h6, h7] <;> with_reducible rfl); exact trivial) | rfl)); (first | done | rfl))); (focus ((repeat (first | (apply axJ; (focus ((with_reducible constructor) <;> rfl))) | (apply awT mixedOK hΓ (by kernel_rfl); (simp (disch := omega) only [go_sem, ↓reduceIte, dk, h1, h2, h3, h4, h5, h6, h7] <;> with_reducible rfl)) | ((first | apply awR hΓ | apply awG | apply awH mixedOK hΓ rfl (by kernel_rfl) | apply ovE rfl); (simp (disch := omega) only [go_sem, ↓reduceIte, dk, h1, h2, h3, h4, h5, h6, h7] <;> with_reducible rfl); exact trivial) | rfl)); (first | done | rfl))))); (focus ((repeat (first | (apply axJ; (focus ((with_reducible constructor) <;> rfl))) | (apply awT mixedOK hΓ (by kernel_rfl); (simp (disch := omega) only [go_sem, ↓reduceIte, dk, h1, h2, h3, h4, h5, h6, h7] <;> with_reducible rfl)) | ((first | apply awR hΓ | apply awG | apply awH mixedOK hΓ rfl (by kernel_rfl) | apply ovE rfl); (simp (disch := omega) only [go_sem, ↓reduceIte, dk, h1, h2, h3, h4, h5, h6, h7] <;> with_reducible rfl); exact trivial) | rfl)); (first | done | rfl))))); (focus ((repeat (first | (apply axJ; (focus ((with_reducible constructor) <;> rfl))) | (apply awT mixedOK hΓ (by kernel_rfl); (simp (disch := omega) only [go_sem, ↓reduceIte, dk, h1, h2, h3, h4, h5, h6, h7] <;> with_reducible rfl)) | ((first | apply awR hΓ | apply awG | apply awH mixedOK hΓ rfl (by kernel_rfl) | apply ovE rfl); (simp (disch := omega) only [go_sem, ↓reduceIte, dk, h1, h2, h3, h4, h5, h6, h7] <;> with_reducible rfl); exact trivial) | rfl)); (first | done | rfl))))); (focus ((repeat (first | (apply axJ; (focus ((with_reducible constructor) <;> rfl))) | (apply awT mixedOK hΓ (by kernel_rfl); (simp (disch := omega) only [go_sem, ↓reduceIte, dk, h1, h2, h3, h4, h5, h6, h7] <;> with_reducible rfl)) | ((first | apply awR hΓ | apply awG | apply awH mixedOK hΓ rfl (by kernel_rfl) | apply ovE rfl); (simp (disch := omega) only [go_sem, ↓reduceIte, dk, h1, h2, h3, h4, h5, h6, h7] <;> with_reducible rfl); exact trivial) | rfl)); (first | done | rfl))))))); (focus (cases a2; (focus (cases b1; (focus (cases c1; (focus (cases c2; (focus (cases c3; (focus ((repeat (first | (apply axJ; (focus ((with_reducible constructor) <;> rfl))) | (apply awT mixedOK hΓ (by kernel_rfl); (simp (disch := omega) only [go_sem, ↓reduceIte, dk, h1, h2, h3, h4, h5, h6, h7] <;> with_reducible rfl)) | ((first | apply awR hΓ | apply awG | apply awH mixedOK hΓ rfl (by kernel_rfl) | apply ovE rfl); (simp (disch := omega) only [go_sem, ↓reduceIte, dk, h1, h2, h3, h4, h5, h6, h7] <;> with_reducible rfl); exact trivial) | rfl)); (first | done | rfl))); (focus ((repeat (first | (apply axJ; (focus ((with_reducible constructor) <;> rfl))) | (apply awT mixedOK hΓ (by kernel_rfl); (simp (disch := omega) only [go_sem, ↓reduceIte, dk, h1, h2, h3, h4, h5, h6, h7] <;> with_reducible rfl)) | ((first | apply awR hΓ | apply awG | apply awH mixedOK hΓ rfl (by kernel_rfl) | apply ovE rfl); (simp (disch := omega) only [go_sem, ↓reduceIte, dk, h1, h2, h3, h4, h5, h6, h7] <;> with_reducible rfl); exact trivial) | rfl)); (first | done | rfl))))); (focus ((repeat (first | (apply axJ; (focus ((with_reducible constructor) <;> rfl))) | (apply awT mixedOK hΓ (by kernel_rfl); (simp (disch := omega) only [go_sem, ↓reduceIte, dk, h1, h2, h3, h4, h5, h6, h7] <;> with_reducible rfl)) | ((first | apply awR hΓ | apply awG | apply awH mixedOK hΓ rfl (by kernel_rfl) | apply ovE rfl); (simp (disch := omega) only [go_sem, ↓reduceIte, dk, h1, h2, h3, h4, h5, h6, h7] <;> with_reducible rfl); exact trivial) | rfl)); (first | done | rfl))))); (focus ((repeat (first | (apply axJ; (focus ((with_reducible constructor) <;> rfl))) | (apply awT mixedOK hΓ (by kernel_rfl); (simp (disch := omega) only [go_sem, ↓reduceIte, dk, h1, h2, h3, h4, h5, h6, h7] <;> with_reducible rfl)) | ((first | apply awR hΓ | apply awG | apply awH mixedOK hΓ rfl (by kernel_rfl) | apply ovE rfl); (simp (disch := omega) only [go_sem, ↓reduceIte, dk, h1, h2, h3, h4, h5, h6, h7] <;> with_reducible rfl); exact trivial) | rfl)); (first | done | rfl))))); (focus (cases b2; (focus (cases c1; (focus (cases c2; (focus (cases c3; (focus ((repeat (first | (apply axJ; (focus ((with_reducible constructor) <;> rfl))) | (apply awT mixedOK hΓ (by kernel_rfl); (simp (disch := omega) only [go_sem, ↓reduceIte, dk, h1, h2, h3, h4, h5, h6, h7] <;> with_reducible rfl)) | ((first | apply awR hΓ | apply awG | apply awH mixedOK hΓ rfl (by kernel_rfl) | apply ovE rfl); (simp (disch := omega) only [go_sem, ↓reduceIte, dk, h1, h2, h3, h4, h5, h6, h7] <;> with_reducible rfl); exact trivial) | rfl)); (first | done | rfl))); (focus ((repeat (first | (apply axJ; (focus ((with_reducible constructor) <;> rfl))) | (apply awT mixedOK hΓ (by kernel_rfl); (simp (disch := omega) only [go_sem, ↓reduceIte, dk, h1, h2, h3, h4, h5, h6, h7] <;> with_reducible rfl)) | ((first | apply awR hΓ | apply awG | apply awH mixedOK hΓ rfl (by kernel_rfl) | apply ovE rfl); (simp (disch := omega) only [go_sem, ↓reduceIte, dk, h1, h2, h3, h4, h5, h6, h7] <;> with_reducible rfl); exact trivial) | rfl)); (first | done | rfl))))); (focus ((repeat (first | (apply axJ; (focus ((with_reducible constructor) <;> rfl))) | (apply awT mixedOK hΓ (by kernel_rfl); (simp (disch := omega) only [go_sem, ↓reduceIte, dk, h1, h2, h3, h4, h5, h6, h7] <;> with_reducible rfl)) | ((first | apply awR hΓ | apply awG | apply awH mixedOK hΓ rfl (by kernel_rfl) | apply ovE rfl); (simp (disch := omega) only [go_sem, ↓reduceIte, dk, h1, h2, h3, h4, h5, h6, h7] <;> with_reducible rfl); exact trivial) | rfl)); (first | done | rfl))))); (focus ((repeat (first | (apply axJ; (focus ((with_reducible constructor) <;> rfl))) | (apply awT mixedOK hΓ (by kernel_rfl); (simp (disch := omega) only [go_sem, ↓reduceIte, dk, h1, h2, h3, h4, h5, h6, h7] <;> with_reducible rfl)) | ((first | apply awR hΓ | apply awG | apply awH mixedOK hΓ rfl (by kernel_rfl) | apply ovE rfl); (simp (disch := omega) only [go_sem, ↓reduceIte, dk, h1, h2, h3, h4, h5, h6, h7] <;> with_reducible rfl); exact trivial) | rfl)); (first | done | rfl))))); (focus ((repeat (first | (apply axJ; (focus ((with_reducible constructor) <;> rfl))) | (apply awT mixedOK hΓ (by kernel_rfl); (simp (disch := omega) only [go_sem, ↓reduceIte, dk, h1, h2, h3, h4, h5, h6, h7] <;> with_reducible rfl)) | ((first | apply awR hΓ | apply awG | apply awH mixedOK hΓ rfl (by kernel_rfl) | apply ovE rfl); (simp (disch := omega) only [go_sem, ↓reduceIte, dk, h1, h2, h3, h4, h5, h6, h7] <;> with_reducible rfl); exact trivial) | rfl)); (first | done | rfl))))))); (focus ((repeat (first | (apply axJ; (focus ((with_reducible constructor) <;> rfl))) | (apply awT mixedOK hΓ (by kernel_rfl); (simp (disch := omega) only [go_sem, ↓reduceIte, dk, h1, h2, h3, h4, h5, h6, h7] <;> with_reducible rfl)) | ((first | apply awR hΓ | apply awG | apply awH mixedOK hΓ rfl (by kernel_rfl) | apply ovE rfl); (simp (disch := omega) only [go_sem, ↓reduceIte, dk, h1, h2, h3, h4, h5, h6, h7] <;> with_reducible rfl); exact trivial) | rfl)); (first | done | rfl))))))
end Go.Ab
namespace Go.Ab
open Go Go.RowKit Go.Proofs Go.Shelf
set_option maxRecDepth 10000
set_option maxHeartbeats 8000000
def qT (r : Nat) : Bool := !ptB (r : Int)
theorem qT_hi (r : Nat) (h : 128 ≤ r) : qT r = true := by
  unfold qT
  rw [ptB_eq, pbI, Bool.not_not]
  simp only [Bool.or_eq_true, Bool.and_eq_true, decide_eq_true_eq, bne_iff_ne]
  omega
theorem f_cfT_ok : PureOK Tryd.prog 95 true (g_cf 96 fun b => qT b.toNat) :=
  f_cf_ok f_treeC1_ok (fun r => g_treeC1_eq (r := (r : Int)) trivial) qT_hi (enters_of Tryd.func96 (by kernel_rfl) rfl)
theorem all_pb (s : Bs) : (s.any fun b => qT b.toNat) = !(s.all pb) := by
  rw [Bool.eq_iff_iff]
  simp only [List.any_eq_true, Bool.not_eq_true', List.all_eq_false]
  constructor
  · rintro ⟨b, h1, h2⟩
    exact ⟨b, h1, by unfold qT at h2; unfold pb; rw [← ptB_eq]; simpa using h2⟩
  · rintro ⟨b, h1, h2⟩
    exact ⟨b, h1, by unfold pb at h2; unfold qT; rw [ptB_eq]; simpa using h2⟩
noncomputable def g_partP : List D → Option D := encSpec (fun x : Bs => [.str x]) (fun x : Bs => x.length ≤ 1099511627776) (fun x : Bs => .bool (partB x))
theorem g_partP_eq {s : Bs} (hd : s.length ≤ 1099511627776) : g_partP [.str s] = some (.bool (partB s)) := encSpec_eq (x := s) hd fun y hy => by
    simp only [List.cons.injEq, and_true, true_and, D.str.injEq, D.int.injEq, D.list.injEq, D.bool.injEq, D.agg.injEq, D.clo.injEq, Int.natCast_inj, inj_ie] at hy
    rw [hy]
theorem f_partP_ok : PureOK Tryd.prog 85 true g_partP := by
  have hΓ := Γp f_cfT_ok (Γn)
  refine pure_enc (n := 23) (rs := [.tmp 2]) Tryd.func85 (by kernel_rfl) rfl (by kernel_rfl) (by kernel_rfl) ?_
  rintro s hd
  (try dsimp only at hd ⊢)
  refine ⟨fun _ => by (repeat (first | exact .int _ _ | exact .bool _ | exact .str _ | (refine .tup _ (fun d hd => ?_); simp only [List.mem_cons, List.not_mem_nil, or_false] at hd; rcases hd with rfl | hd))), fun k hz0 => ?_⟩
  rw [start_frame (by simp)]; simp only [enumV, go_sem, emptyH]
  cases s with
  | nil =>
    have h0 : (([] : List UInt8) == []) = true := rfl
    repeat (first
      | (apply axJ; (focus ((with_reducible constructor) <;> rfl)))
      | (apply awT mixedOK hΓ (by kernel_rfl); (simp (disch := omega) only [go_sem, ↓reduceIte, dk, ↓lk, h0] <;> with_reducible rfl))
      | ((first | apply awR hΓ | apply awG | apply awH mixedOK hΓ rfl (by kernel_rfl) | apply ovE rfl); (simp (disch := omega) only [go_sem, ↓reduceIte, dk, ↓lk, h0] <;> with_reducible rfl); exact trivial)
      | rfl)
    try rfl
  | cons b r =>
    have hdef : partB (b :: r) = (!(decide (((b :: r).length : Int) > 32)) && (!((b.toNat : Int) == 46) && (!((b.toNat : Int) == 45) && (b :: r).all pb))) := rfl
    rw [hdef]
    have hne : (b :: r == []) = false := rfl
    have hlen : 1 ≤ (b :: r).length := by simp
    have hb0 : (b :: r)[0]? = some b := rfl
    generalize b :: r = s at *
    have hb1 : ∀ h : 0 < s.length, s[0]'h = b := fun h => by rw [List.getElem?_eq_getElem h] at hb0; simpa using hb0
    have e1 := g_cf_eq (f := 96) (q := fun b => qT b.toNat) hd
    rw [all_pb] at e1
    generalize s.all pb = c3 at *
    generalize hc0 : decide ((s.length : Int) > 32) = c0
    generalize hc1 : ((b.toNat : Int) == 46) = c1
    generalize hc2 : ((b.toNat : Int) == 45) = c2
    cases c0
    rotate_left
    · repeat (first
      | (apply axJ; (focus ((with_reducible constructor) <;> rfl)))
      | (apply awT mixedOK hΓ (by kernel_rfl); (simp (disch := omega) only [go_sem, ↓reduceIte, dk, ↓lk, Int.reduceToNat, hne, hb1, hc0] <;> with_reducible rfl))
      | ((first | apply awR hΓ | apply awG | apply awH mixedOK hΓ rfl (by kernel_rfl) | apply ovE rfl); (simp (disch := omega) only [go_sem, ↓reduceIte, dk, ↓lk, Int.reduceToNat, hne, hb1, hc0] <;> with_reducible rfl); exact trivial)
      | rfl)
      try rfl
    cases c1
    rotate_left
    · repeat (first
      | (apply axJ; (focus ((with_reducible constructor) <;> rfl)))
      | (apply awT mixedOK hΓ (by kernel_rfl); (simp (disch := omega) only [go_sem, ↓reduceIte, dk, ↓lk, Int.reduceToNat, hne, hb1, hc0, hc1] <;> with_reducible rfl))
      | ((first | apply awR hΓ | apply awG | apply awH mixedOK hΓ rfl (by kernel_rfl) | apply ovE rfl); (simp (disch := omega) only [go_sem, ↓reduceIte, dk, ↓lk, Int.reduceToNat, hne, hb1, hc0, hc1] <;> with_reducible rfl); exact trivial)
      | rfl)
      try rfl
    cases c2
    rotate_left
    · repeat (first
      | (apply axJ; (focus ((with_reducible constructor) <;> rfl)))
      | (apply awT mixedOK hΓ (by kernel_rfl); (simp (disch := omega) only [go_sem, ↓reduceIte, dk, ↓lk, Int.reduceToNat, hne, hb1, hc0, hc1, hc2] <;> with_reducible rfl))
      | ((first | apply awR hΓ | apply awG | apply awH mixedOK hΓ rfl (by kernel_rfl) | apply ovE rfl); (simp (disch := omega) only [go_sem, ↓reduceIte, dk, ↓lk, Int.reduceToNat, hne, hb1, hc0, hc1, hc2] <;> with_reducible rfl); exact trivial)
      | rfl)
      try rfl
    cases c3
    · repeat (first
      | (apply axJ; (focus ((with_reducible constructor) <;> rfl)))
      | (apply awT mixedOK hΓ (by kernel_rfl); (simp (disch := omega) only [go_sem, ↓reduceIte, dk, ↓lk, Int.reduceToNat, hne, hb1, hc0, hc1, hc2, e1] <;> with_reducible rfl))
      | ((first | apply awR hΓ | apply awG | apply awH mixedOK hΓ rfl (by kernel_rfl) | apply ovE rfl); (simp (disch := omega) only [go_sem, ↓reduceIte, dk, ↓lk, Int.reduceToNat, hne, hb1, hc0, hc1, hc2, e1] <;> with_reducible rfl); exact trivial)
      | rfl)
      try rfl
    · repeat (first
      | (apply axJ; (focus ((with_reducible constructor) <;> rfl)))
      | (apply awT mixedOK hΓ (by kernel_rfl); (simp (disch := omega) only [go_sem, ↓reduceIte, dk, ↓lk, Int.reduceToNat, hne, hb1, hc0, hc1, hc2, e1] <;> with_reducible rfl))
      | ((first | apply awR hΓ | apply awG | apply awH mixedOK hΓ rfl (by kernel_rfl) | apply ovE rfl); (simp (disch := omega) only [go_sem, ↓reduceIte, dk, ↓lk, Int.reduceToNat, hne, hb1, hc0, hc1, hc2, e1] <;> with_reducible rfl); exact trivial)
      | rfl)
      try rfl
noncomputable def g_pathC1 : List D → Option D := encSpec (fun x : Bs => [.str x]) (fun x : Bs => x.length ≤ 1099511627776) (fun x : Bs => .bool (!partB x))
theorem g_pathC1_eq {s : Bs} (hd : s.length ≤ 1099511627776) : g_pathC1 [.str s] = some (.bool (!partB s)) := encSpec_eq (x := s) hd fun y hy => by
    simp only [List.cons.injEq, and_true, true_and, D.str.injEq, D.int.injEq, D.list.injEq, D.bool.injEq, D.agg.injEq, D.clo.injEq, Int.natCast_inj, inj_ie] at hy
    rw [hy]
theorem f_pathC1_ok : PureOK Tryd.prog 84 true g_pathC1 := by
  have hΓ := Γp f_partP_ok (Γn)
  refine pure_enc (n := 6) (rs := [.tmp 2]) Tryd.func84 (by kernel_rfl) rfl (by kernel_rfl) (by kernel_rfl) ?_
  rintro s hd
  (try dsimp only at hd ⊢)
  refine ⟨fun _ => by (repeat (first | exact .int _ _ | exact .bool _ | exact .str _ | (refine .tup _ (fun d hd => ?_); simp only [List.mem_cons, List.not_mem_nil, or_false] at hd; rcases hd with rfl | hd))), fun k hz0 => ?_⟩
  have e1 := g_partP_eq hd
  generalize partB s = c at *
  rw [start_frame (by simp)]; simp only [enumV, go_sem, emptyH]
  cases c
  · repeat (first
    | (apply axJ; (focus ((with_reducible constructor) <;> rfl)))
    | (apply awT mixedOK hΓ (by kernel_rfl); (simp (disch := omega) only [go_sem, ↓reduceIte, dk, ↓lk, e1] <;> with_reducible rfl))
    | ((first | apply awR hΓ | apply awG | apply awH mixedOK hΓ rfl (by kernel_rfl) | apply ovE rfl); (simp (disch := omega) only [go_sem, ↓reduceIte, dk, ↓lk, e1] <;> with_reducible rfl); exact trivial)
    | rfl)
    try rfl
  · repeat (first
    | (apply axJ; (focus ((with_reducible constructor) <;> rfl)))
    | (apply awT mixedOK hΓ (by kernel_rfl); (simp (disch := omega) only [go_sem, ↓reduceIte, dk, ↓lk, e1] <;> with_reducible rfl))
    | ((first | apply awR hΓ | apply awG | apply awH mixedOK hΓ rfl (by kernel_rfl) | apply ovE rfl); (simp (disch := omega) only [go_sem, ↓reduceIte, dk, ↓lk, e1] <;> with_reducible rfl); exact trivial)
    | rfl)
    try rfl
theorem f_anyP_ok : PureOK Tryd.prog 39 true (gAnyD D.str (fun s : Bs => s.length ≤ 1099511627776) 84 [] fun s => !partB s) :=
  f_anyS_ok f_pathC1_ok fun _ h => g_pathC1_eq h
noncomputable def g_pathP : List D → Option D := encSpec (fun x : Bs => [.str x]) (fun x : Bs => x.length ≤ 1099511627776) (fun x : Bs => i64 (pathE x))
theorem g_pathP_eq {s : Bs} (hd : s.length ≤ 1099511627776) : g_pathP [.str s] = some (i64 (pathE s)) := encSpec_eq (x := s) hd fun y hy => by
    simp only [List.cons.injEq, and_true, true_and, D.str.injEq, D.int.injEq, D.list.injEq, D.bool.injEq, D.agg.injEq, D.clo.injEq, Int.natCast_inj, inj_ie] at hy
    rw [hy]
theorem f_pathP_ok : PureOK Tryd.prog 71 false g_pathP := by
  have hΓ := Γp f_split_ok (Γp f_anyP_ok (Γn))
  refine pure_enc (n := 18) (rs := [.tmp 2]) Tryd.func71 (by kernel_rfl) rfl (by kernel_rfl) (by kernel_rfl) ?_
  rintro s hd
  (try dsimp only at hd ⊢)
  refine ⟨fun h => (by cases h), fun k hz0 => ?_⟩
  have e1 := g_split_eq (c := 47) hd
  have h1 := splitB_len 47 s
  have h2 : ∀ w ∈ splitB 47 s, w.length ≤ 1099511627776 := fun w hw => Nat.le_trans (splitB_mem_len 47 s w hw) hd
  unfold pathE
  generalize splitB 47 s = l at *
  generalize hc1 : decide ((s.length : Int) > 128) = c1
  generalize hc2 : decide ((l.length : Int) > 8) = c2
  have h3 : c2 = false → l.length ≤ 8 := fun h => by rw [h] at hc2; have := of_decide_eq_false hc2; omega
  have e2 := fun h : l.length ≤ 1099511627776 => gAnyD_eq (e := D.str) (dm := fun s : Bs => s.length ≤ 1099511627776) str_inj' (f := 84) (caps := []) (p := fun s => !partB s) h h2
  have h4 : (l.any fun s => !partB s) = !(l.all partB) := by rw [List.not_all_eq_any_not]
  rw [h4] at e2
  generalize l.all partB = c3 at *
  rw [start_frame (by simp)]; simp only [enumV, go_sem, emptyH]
  cases c1
  rotate_left
  · repeat (first
    | (apply axJ; (focus ((with_reducible constructor) <;> rfl)))
    | (apply awT mixedOK hΓ (by kernel_rfl); (simp (disch := omega) only [go_sem, ↓reduceIte, dk, ↓lk, e1, hc1] <;> with_reducible rfl))
    | ((first | apply awR hΓ | apply awG | apply awH mixedOK hΓ rfl (by kernel_rfl) | apply ovE rfl); (simp (disch := omega) only [go_sem, ↓reduceIte, dk, ↓lk, e1, hc1] <;> with_reducible rfl); exact trivial)
    | rfl)
    try rfl
  cases c2
  rotate_left
  · repeat (first
    | (apply axJ; (focus ((with_reducible constructor) <;> rfl)))
    | (apply awT mixedOK hΓ (by kernel_rfl); (simp (disch := omega) only [go_sem, ↓reduceIte, dk, ↓lk, e1, hc1, hc2] <;> with_reducible rfl))
    | ((first | apply awR hΓ | apply awG | apply awH mixedOK hΓ rfl (by kernel_rfl) | apply ovE rfl); (simp (disch := omega) only [go_sem, ↓reduceIte, dk, ↓lk, e1, hc1, hc2] <;> with_reducible rfl); exact trivial)
    | rfl)
    try rfl
  have e2 := e2 (by have := h3 rfl; omega)
  cases c3
  · repeat (first
    | (apply axJ; (focus ((with_reducible constructor) <;> rfl)))
    | (apply awT mixedOK hΓ (by kernel_rfl); (simp (disch := omega) only [go_sem, ↓reduceIte, dk, ↓lk, e1, hc1, hc2, e2] <;> with_reducible rfl))
    | ((first | apply awR hΓ | apply awG | apply awH mixedOK hΓ rfl (by kernel_rfl) | apply ovE rfl); (simp (disch := omega) only [go_sem, ↓reduceIte, dk, ↓lk, e1, hc1, hc2, e2] <;> with_reducible rfl); exact trivial)
    | rfl)
    try rfl
  · repeat (first
    | (apply axJ; (focus ((with_reducible constructor) <;> rfl)))
    | (apply awT mixedOK hΓ (by kernel_rfl); (simp (disch := omega) only [go_sem, ↓reduceIte, dk, ↓lk, e1, hc1, hc2, e2] <;> with_reducible rfl))
    | ((first | apply awR hΓ | apply awG | apply awH mixedOK hΓ rfl (by kernel_rfl) | apply ovE rfl); (simp (disch := omega) only [go_sem, ↓reduceIte, dk, ↓lk, e1, hc1, hc2, e2] <;> with_reducible rfl); exact trivial)
    | rfl)
    try rfl
end Go.Ab
