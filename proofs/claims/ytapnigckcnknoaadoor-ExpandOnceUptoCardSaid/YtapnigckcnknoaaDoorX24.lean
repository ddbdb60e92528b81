/-
  One text of the proof (own work): contracts of functions of the program, by the abstract machine.
-/
import Derived.Laws.Runes
import Derived.WalkKit
import Derived.Test.YtapnigckcnknoaaDoorX23
import Derived.Test.YtapnigckcnknoaaDoorX15
import Derived.Test.YtapnigckcnknoaaDoorX14
import Derived.Test.YtapnigckcnknoaaDoorX21
import Derived.Test.YtapnigckcnknoaaDoorX11
import Derived.Test.YtapnigckcnknoaaDoorX22
import Derived.Test.YtapnigckcnknoaaDoorX12
set_option linter.unusedVariables false
set_option linter.unusedSimpArgs false
namespace Go.Ab
open Go Go.RowKit Go.Proofs
set_option maxRecDepth 10000
set_option maxHeartbeats 16000000
theorem enc_nmO : ∀ i, i < 20 → (Utf8.encode ((97 : Int) + (i : Nat))).data = #[UInt8.ofNat (97 + i)] := by decide +kernel
theorem wrapI32 {n : Int} (h : 0 ≤ n) (h' : n < 2147483648) : IntKind.wrap .i32 n = n := by
  have hm : n % 4294967296 = n := by omega
  unfold IntKind.wrap
  simp [IntKind.bits, IntKind.signed, hm]
  omega
theorem call_nmZ (n : Int) (c : UInt8) (h0 : 0 ≤ n) (h1 : n < 20) (hw1 : IntKind.i64.wrap (97 + n) = 97 + n) (hw2 : IntKind.i32.wrap (97 + n) = 97 + n) (he : Utf8.encode (97 + n) = ⟨#[c]⟩) (w : World) : Calls Tryd.prog 5 #[.int .i64 n] w fun e w' => e = .returned (.string ⟨#[109, c]⟩) ∧ w' = w := by
  go_enter Tryd.func5, Tryd.ntmps5
  repeat (first | go_values | go_skip | go_guarded | go_step)
  go_ret
  refine ⟨?_, rfl⟩
  have e : (⟨#[109]⟩ ++ ⟨#[c]⟩ : ByteArray) = ⟨#[109, c]⟩ := by
    apply ByteArray.ext
    rw [ByteArray.data_append]
    rfl
  exact congrArg (fun b => Ending.returned (Value.string b)) e
noncomputable def g_nmO : List D → Option D := encSpec (fun i : Nat => [i64 i]) (fun i => i < 20) (fun i => .str (nmO i))
theorem f_nmO_ok : PureOK Tryd.prog 5 true g_nmO := pure_calls Tryd.func5 (by kernel_rfl) (by kernel_rfl) (fun _ => ⟨rfl, rfl⟩) fun i hi w => by
  have he : Utf8.encode (97 + (i : Int)) = ⟨#[UInt8.ofNat (97 + i)]⟩ := ByteArray.ext (enc_nmO i hi)
  refine (call_nmZ (i : Int) _ (by omega) (by omega) (wrap_in (n := 97 + (i : Int)) (by omega) (by omega)) (wrapI32 (n := 97 + (i : Int)) (by omega) (by omega)) he w).mono fun e w' h => ?_
  exact ⟨h.1, h.2 ▸ Below.refl _ _⟩
theorem g_nmO_eq {i : Nat} (h : i < 20) : g_nmO [.int .i64 i] = some (.str (nmO i)) := encSpec_eq (x := i) h fun y hy => by
  simp only [List.cons.injEq, and_true, D.int.injEq, true_and, Int.natCast_inj] at hy
  rw [hy]
end Go.Ab
namespace Go.Ab
open Go Go.RowKit
section
variable {P : Program} {c : Ctx} {Γ : FuncId → Option CSpec}
end
end Go.Ab
namespace Go.Ab
open Go Go.RowKit
end Go.Ab
namespace Go.Ab
open Go Go.RowKit
theorem Weak.boxarr {b o i : Nat} {sl : List AV} {H : Heap} {cs : List AV} (e : TypeId) {sz : Nat} (hsz : 0 < sz) (hg : H.get o = some (.box cs)) (hi : cs[i]? = some .nils) :
    Weak b sl H sl ⟨upd (upd H.tab H.next (.arr e sz 0 [])) o (.box (cs.set i (.row H.next 0))), H.next + 1⟩ := fun c θ w a hb hs => by
  have hk := hs.fresh
  have hne : o ≠ H.next := fun h => hk (.inr (by rw [← h, hg]; rfl))
  have hrow : ownsM w w.heap.size e sz (.slice none 0 0) 0 [] := ⟨by simp, .inl ⟨rfl, rfl⟩⟩
  obtain ⟨s1, m1, l1⟩ := hs.st.sim.add (w' := w) (k := H.next) (x := .arr e sz 0 []) (val := .slice none 0 0) hk (fun _ _ => rfl) (Nat.le_refl _) (fun b hb => by simp [blk] at hb)
    (fun hvr => ⟨hsz, by simp, [], ownsRow_base hrow (Nat.zero_le _), fun b hb => by simp [blk] at hb, fun i hi => by simp at hi⟩)
  have hg1 : (H.set H.next (.arr e sz 0 [])).get o = some (.box cs) := by rw [Heap.get_set, if_neg hne]; exact hg
  obtain ⟨hlt, hii⟩ := List.getElem?_eq_some_iff.1 hi
  obtain ⟨s2, m2, l2⟩ := s1.turn (w' := w) (k := o) (x0 := .box cs) (x := .box (cs.set i (.row H.next 0))) (val := updθ θ H.next (.slice none 0 0) o) hg1 rfl rfl (fun b _ _ => rfl) (Nat.le_refl _) (fun b hb => .inl hb) trivial (fun _ => rfl)
    (fun hvr => by
      obtain ⟨bk, e2, vs, h1, h2, h3, h4, h5⟩ := s1.objs o _ hg1
      refine ⟨bk, e2, vs, h1, h2, by rw [h3]; simp, h4, fun j hj u hu => ?_⟩
      have hj' : j < cs.length := by simpa using hj
      obtain ⟨h6, h7⟩ := h5 j hj' u hu
      by_cases hji : i = j
      · subst hji
        rw [hii] at h6
        cases h6
        rw [List.getElem_set_self]
        refine ⟨.row _ _ _ rfl (.inr ?_) (fun x' m' hx' hm' => ?_), rfl⟩
        · rw [Heap.get_set, if_neg (Ne.symm hne), Heap.get_set, if_pos rfl]; rfl
        · rw [Heap.get_set, if_neg (Ne.symm hne), Heap.get_set, if_pos rfl] at hx'
          cases hx'
          cases hm'
          exact ⟨Nat.le_refl _, fun _ => by simp [updθ, Ne.symm hne]⟩
      · rw [List.getElem_set_ne hji]
        exact ⟨hvr _ _ h6, h7⟩)
  have hbase := hs.base
  have hst : St c ((H.set H.next (.arr e sz 0 [])).set o (.box (cs.set i (.row H.next 0)))) (updθ (updθ θ H.next (.slice none 0 0)) o (updθ θ H.next (.slice none 0 0) o)) w sl a :=
    ⟨s2, hs.st.defers, hs.st.size, fun j y u h1 h2 => m2 y u (m1 y u (hs.st.vals j y u h1 h2))⟩
  refine ⟨_, ⟨hst.bump (n := H.next + 1) (by simp [Heap.set]), fun p hp => ?_, Nat.le_succ_of_le hbase⟩, ((l1.trans l2).trans (HLe.bump (n := H.next + 1) (by simp [Heap.set]))).evo (by rw [← hb]; exact hbase)⟩
  have hp' : (((H.set H.next (.arr e sz 0 [])).set o (.box (cs.set i (.row H.next 0)))).get p).isSome := hp
  rw [Heap.get_set] at hp'
  by_cases h : p = o
  · subst h
    exact Nat.lt_succ_of_lt (hs.wf p (by rw [hg]; rfl))
  · rw [if_neg h, Heap.get_set] at hp'
    by_cases h2 : p = H.next
    · subst h2; exact Nat.lt_succ_self _
    · rw [if_neg h2] at hp'
      exact Nat.lt_succ_of_lt (hs.wf p hp')
end Go.Ab
namespace Go.Ab
open Go Go.RowKit Go.Proofs
set_option maxRecDepth 100000
set_option maxHeartbeats 40000000
def kO (S : List Nat) : List D := S.map fun x : Nat => i64 x
def vO (S : List Nat) : List D := S.map fun _ => .bool true
theorem kO_len (S : List Nat) : (kO S).length = S.length := by simp [kO]
theorem key_i (n : Int) : keyOK Tryd.prog 3 (.int .i64 n) = true := by kernel_rfl
theorem key_k (n : Int) : keyKind Tryd.prog 3 (.int .i64 n) = true := by kernel_rfl
theorem keys_i (S : List Nat) : (kO S).all (keyOK Tryd.prog 3) = true := by
  unfold kO
  rw [List.all_map, List.all_eq_true]
  exact fun x _ => key_i x
theorem find_i (a : Nat) : ∀ (S : List Nat) (i : Nat), mfind Tryd.prog 3 (.int .i64 (a : Int)) (kO S) i = some (if a ∈ S then some (i + S.idxOf a) else none)
  | [], i => by simp [kO, mfind]
  | x :: S, i => by
    have ih := find_i a S (i + 1)
    show (match keySame Tryd.prog 3 (.int .i64 (a : Int)) (.int .i64 (x : Int)) with
      | some true => some (some i)
      | some false => mfind Tryd.prog 3 (.int .i64 (a : Int)) (kO S) (i + 1)
      | none => none) = _
    have hk : keySame Tryd.prog 3 (.int .i64 (a : Int)) (.int .i64 (x : Int)) = some ((a : Int) == (x : Int)) := rfl
    rw [hk]
    by_cases h : a = x
    · subst h
      simp
    · have h2 : ((a : Int) == (x : Int)) = false := by rw [beq_eq_false_iff_ne]; omega
      rw [h2]
      dsimp only
      rw [ih]
      have h3 : ¬ x = a := fun e => h e.symm
      by_cases hm : a ∈ S
      · have h4 : (x == a) = false := by simpa using h3
        rw [if_pos hm, if_pos (by simp [hm]), List.idxOf_cons, h4]
        simp only [cond_false, Option.some.injEq]
        omega
      · simp [hm, h]
theorem get_i (a : Nat) (S : List Nat) : mget Tryd.prog 3 (kO S) (vO S) (.int .i64 (a : Int)) = some (if a ∈ S then some (.bool true) else none) := by
  unfold mget
  rw [find_i]
  by_cases hm : a ∈ S
  · rw [if_pos hm, if_pos hm]
    have h1 : S.idxOf a < S.length := List.idxOf_lt_length_of_mem hm
    have h2 : (vO S)[0 + S.idxOf a]? = some (.bool true) := by
      unfold vO
      rw [List.getElem?_map, Nat.zero_add, List.getElem?_eq_getElem h1]
      rfl
    dsimp only
    rw [h2]
  · rw [if_neg hm, if_neg hm]
theorem put_i {a : Nat} {S : List Nat} (h : a ∉ S) : mput Tryd.prog 3 (kO S) (vO S) (.int .i64 (a : Int)) (.bool true) = some (kO (S ++ [a]), vO (S ++ [a])) := by
  unfold mput
  rw [find_i, if_neg h]
  simp [kO, vO]
def bD (b : UInt8) : D := .int .u8 b.toNat
@[go_sem] theorem bD_eq (b : UInt8) : bD b = .int .u8 b.toNat := rfl
theorem rem_i (a b : Nat) : Int.tmod (a : Int) (b : Int) = ((a % b : Nat) : Int) := Int.ofNat_tmod a b
theorem rows_at {l : List UInt8} {i : Nat} (h : i < (rowsO l).length) : (rowsO l)[i] = nmO (nxO l i) := by simp [rowsO]
theorem nx_at {l : List UInt8} {i : Nat} (h : i < l.length) : nxO l i = l[i].toNat % l.length := by
  unfold nxO
  rw [List.getD_eq_getElem?_getD, List.getElem?_eq_getElem h]
  rfl
theorem joinW_take {L : List Bs} {i : Nat} (hi : i < L.length) : joinW (L.take (i + 1)) = (if i = 0 then [] else joinW (L.take i) ++ [10]) ++ L[i] := by
  cases L with
  | nil => simp at hi
  | cons w r =>
    cases i with
    | zero => simp [joinW, joinT]
    | succ i =>
      have hi2 : i < r.length := by simpa using hi
      rw [if_neg (by omega), List.take_succ_cons, List.take_succ_cons]
      show w ++ joinT (r.take (i + 1)) = _
      rw [joinT_step hi2]
      show _ = (w ++ joinT (r.take i) ++ [10]) ++ (w :: r)[i + 1]
      simp
theorem joinW_len {L : List Bs} {m : Nat} (h : ∀ w ∈ L, w.length ≤ m) : (joinW L).length ≤ L.length * (m + 1) := by
  cases L with
  | nil => simp [joinW]
  | cons w r =>
    have h1 := joinT_bd m r (fun x hx => h x (by simp [hx]))
    have h2 := h w (by simp)
    show (w ++ joinT r).length ≤ (r.length + 1) * (m + 1)
    rw [List.length_append, Nat.succ_mul, Nat.mul_comm r.length]
    omega
def cO (i : Nat) : List AV := (List.range i).flatMap fun j => [.data (.str (nmO j)), .nils, .data (.str [112, 47, 113]), .data (i64 j), .data (i64 ((j : Int) + 1))]
theorem cO_succ (i : Nat) : cO (i + 1) = cO i ++ [.data (.str (nmO i)), .nils, .data (.str [112, 47, 113]), .data (i64 i), .data (i64 ((i : Int) + 1))] := by
  unfold cO
  rw [List.range_succ, List.flatMap_append]
  simp
theorem cO_len : ∀ i, (cO i).length = i * 5
  | 0 => rfl
  | i + 1 => by
    rw [cO_succ, List.length_append, cO_len i, Nat.succ_mul]
    rfl
theorem refs_all (n : Nat) : ∀ l : List AV, refsOKs n l = l.all (fun x => x.refsOK n)
  | [] => rfl
  | x :: l => by rw [refsOKs, refs_all n l]; rfl
theorem cO_refs (n i : Nat) : refsOKs n (cO i) = true := by
  rw [refs_all, List.all_eq_true]
  intro x hx
  unfold cO at hx
  obtain ⟨j, _, hx⟩ := List.mem_flatMap.1 hx
  simp only [List.mem_cons, List.not_mem_nil, or_false] at hx
  rcases hx with rfl | rfl | rfl | rfl | rfl <;> rfl
theorem convL_app {H : Heap} : ∀ {a b c d : List AV}, ConvL H a b → ConvL H c d → ConvL H (a ++ c) (b ++ d)
  | [], [], _, _, _, h => h
  | x :: a, y :: b, _, _, h, k => ⟨h.1, convL_app h.2 k⟩
  | [], _ :: _, _, _, h, _ => h.elim
  | _ :: _, [], _, _, h, _ => h.elim
theorem conv_cO (H : Heap) (l : List UInt8) : ConvL H (cO l.length) ((flat ((usO l).map eMc)).map .data) := by
  have key : ∀ r : List Nat, ConvL H (r.flatMap fun j => [.data (.str (nmO j)), .nils, .data (.str [112, 47, 113]), .data (i64 j), .data (i64 ((j : Int) + 1))]) ((flat ((r.map mcO).map eMc)).map .data) := by
    intro r
    induction r with
    | nil => trivial
    | cons j r ih =>
      rw [List.flatMap_cons, List.map_cons, List.map_cons, flat_cons, List.map_append]
      exact convL_app ⟨rfl, .inr (.inl ⟨rfl, rfl⟩), rfl, rfl, rfl, trivial⟩ ih
  exact key _
noncomputable def g_law7o : List D → Option D := encSpec (fun x : (List UInt8) × UInt8 => [.list (x.1.map bD), u8 x.2.toNat]) (fun x : (List UInt8) × UInt8 => x.1.length ≤ 1099511627776) (fun x : (List UInt8) × UInt8 => .bool true)
theorem f_law7o_ok : PureOK Tryd.prog 3 true g_law7o := by
  have hΓ := Γp f_wk07_ok (Γp f_nmO_ok (Γp f_lineP7_ok (Γn)))
  refine pure_enc (n := 135) (rs := [.tmp 4]) Tryd.func3 (by kernel_rfl) rfl (by kernel_rfl) (by kernel_rfl) ?_
  rintro ⟨nx, fi⟩ hd
  (try dsimp only at hd ⊢)
  refine ⟨fun _ => by (repeat (first | exact .int _ _ | exact .bool _ | exact .str _ | (refine .tup _ (fun d hd => ?_); simp only [List.mem_cons, List.not_mem_nil, or_false] at hd; rcases hd with rfl | hd))), fun k hz0 => ?_⟩
  have e0 := g_wk07_eq
  rw [start_frame (by simp)]; simp only [enumV, go_sem, emptyH]
  by_cases hz : nx.length = 0
  · have h1 : ((nx.length : Int) == 0) = true := by rw [hz]; rfl
    repeat (first
      | (apply axJ; (focus ((with_reducible constructor) <;> rfl)))
      | (apply awT mixedOK hΓ (by kernel_rfl); (simp (disch := omega) only [go_sem, ↓reduceIte, dk, ↓lk, Int.reduceBEq, Int.reduceBNe, Bool.true_bne, Bool.false_bne, Bool.not_true, Bool.not_false, e0, h1] <;> with_reducible rfl))
      | ((first | apply awR hΓ | apply awG | apply awH mixedOK hΓ rfl (by kernel_rfl) | apply ovE rfl); (simp (disch := omega) only [go_sem, ↓reduceIte, dk, ↓lk, Int.reduceBEq, Int.reduceBNe, Bool.true_bne, Bool.false_bne, Bool.not_true, Bool.not_false, e0, h1] <;> with_reducible rfl); exact trivial)
      | rfl)
    try rfl
  have h1 : ((nx.length : Int) == 0) = false := by rw [beq_eq_false_iff_ne]; omega
  cases h2 : decide ((nx.length : Int) > 20)
  case true =>
    repeat (first
      | (apply axJ; (focus ((with_reducible constructor) <;> rfl)))
      | (apply awT mixedOK hΓ (by kernel_rfl); (simp (disch := omega) only [go_sem, ↓reduceIte, dk, ↓lk, Int.reduceBEq, Int.reduceBNe, Bool.true_bne, Bool.false_bne, Bool.not_true, Bool.not_false, e0, h1, h2] <;> with_reducible rfl))
      | ((first | apply awR hΓ | apply awG | apply awH mixedOK hΓ rfl (by kernel_rfl) | apply ovE rfl); (simp (disch := omega) only [go_sem, ↓reduceIte, dk, ↓lk, Int.reduceBEq, Int.reduceBNe, Bool.true_bne, Bool.false_bne, Bool.not_true, Bool.not_false, e0, h1, h2] <;> with_reducible rfl); exact trivial)
      | rfl)
    try rfl
  have hn0 : 0 < nx.length := by omega
  have hn : nx.length ≤ 20 := by have := of_decide_eq_false h2; omega
  have hlt := fun i => nx_lt hn0 i
  have hrl : (rowsO nx).length = nx.length := by simp [rowsO]
  have hrm : ∀ w ∈ rowsO nx, w.length ≤ 2 := fun w hw => by
    obtain ⟨i, _, rfl⟩ := List.mem_map.1 hw
    exact Nat.le_refl _
  repeat (first
    | (apply axJ; (focus ((with_reducible constructor) <;> rfl)))
    | (apply awT mixedOK hΓ (by kernel_rfl); (simp (disch := omega) only [go_sem, ↓reduceIte, dk, ↓lk, Int.reduceBEq, Int.reduceBNe, Bool.true_bne, Bool.false_bne, Bool.not_true, Bool.not_false, e0, h1, h2] <;> with_reducible rfl))
    | ((first | apply awR hΓ | apply awG | apply awH mixedOK hΓ rfl (by kernel_rfl) | apply ovE rfl); (simp (disch := omega) only [go_sem, ↓reduceIte, dk, ↓lk, Int.reduceBEq, Int.reduceBNe, Bool.true_bne, Bool.false_bne, Bool.not_true, Bool.not_false, e0, h1, h2] <;> with_reducible rfl); exact trivial)
    | rfl)
  refine awp_weak (Weak.boxarr (o := 13) (i := 2) 35 (sz := 5) (by omega) rfl rfl) ?_
  refine awp_loop_at (X := Nat) (fun i => (frame 135 [(0, .data (.list (nx.map bD))), (1, .data (.int .u8 fi.toNat)), (5, .data (i64 nx.length)), (6, .data (.str (joinW ((rowsO nx).take i)))), (7, .ptr 13 0), (8, .data (.clo 5 [])), (31, .data (.list (nx.map bD))), (32, .data (i64 nx.length)), (33, .data (i64 i))])) (fun i => [(13, .box [.data (.str []), .nils, .row 18 i, .nils, .nils, .nils]), (18, .arr 35 5 i (cO i))]) 19
    (fun i => i ≤ nx.length) (fun i => nx.length - i) 0 (Nat.zero_le _) (Weak.v (by (simp [ConvF, lookV, Conv, ints, upd, List.take_zero, joinW]; done)) (by (simp (disch := omega) only [TabSub, look, if_pos, if_neg, Obj.refsOK, refsOKs, AV.refsOK, decide_eq_true_eq, Bool.and_true, Bool.and_self, upd, List.take_zero, joinW] ) <;> ((repeat' apply And.intro) <;> first | exact True.intro | omega | (simp; done) | rfl))) ?_
  rintro i hi
  (try dsimp only at hi ⊢)
  by_cases hi2 : i < nx.length
  · have e1 := g_nmO_eq (i := nxO nx i) (by have := hlt i; omega)
    have e2 := g_nmO_eq (i := i) (by omega)
    rw [nx_at hi2] at e1
    have hst := joinW_take (L := rowsO nx) (i := i) (by omega)
    rw [rows_at (by omega), nx_at hi2] at hst
    have hcs := cO_succ i
    have hcl := cO_len i
    have hrf := cO_refs 19 (i + 1)
    rw [hcs] at hrf
    have hjl := joinW_len (L := (rowsO nx).take i) (m := 2) (fun w hw => hrm w (List.mem_of_mem_take hw))
    have hjt : ((rowsO nx).take i).length ≤ 20 := by rw [List.length_take]; omega
    generalize hy : nx[i] = y at *
    have hyl := y.toNat_lt
    have hrm2 := rem_i y.toNat nx.length
    generalize hA : joinW ((rowsO nx).take i) = A at *
    generalize cO i = U at *
    have hnl : ∀ k, (nmO k).length = 2 := fun _ => rfl
    have hq1 : (A ++ [10]).length ≤ 1099511627776 := by rw [List.length_append]; simp only [List.length_cons, List.length_nil]; omega
    have hq2 : (A ++ [10] ++ nmO (y.toNat % nx.length)).length ≤ 1099511627776 := by simp only [List.length_append, hnl, List.length_cons, List.length_nil]; omega
    by_cases h0 : i = 0
    · have hc : decide ((i : Int) > 0) = false := decide_eq_false (by omega)
      rw [if_pos h0] at hst
      have hA0 : A = [] := by rw [← hA, h0]; rfl
      subst hA0
      repeat (first
        | (apply axJ; (focus ((with_reducible constructor) <;> rfl)))
        | (apply awT mixedOK hΓ (by kernel_rfl); (simp (disch := omega) only [go_sem, ↓reduceIte, dk, ↓lk, Int.reduceBEq, Int.reduceBNe, Bool.true_bne, Bool.false_bne, Bool.not_true, Bool.not_false, hy, hc, hrm2, e1, hnl, List.nil_append, List.length_nil, Nat.zero_add] <;> with_reducible rfl))
        | ((first | apply awR hΓ | apply awG | apply awH mixedOK hΓ rfl (by kernel_rfl) | apply ovE rfl); (simp (disch := omega) only [go_sem, ↓reduceIte, dk, ↓lk, Int.reduceBEq, Int.reduceBNe, Bool.true_bne, Bool.false_bne, Bool.not_true, Bool.not_false, hy, hc, hrm2, e1, hnl, List.nil_append, List.length_nil, Nat.zero_add] <;> with_reducible rfl); exact trivial)
        | rfl)
      (apply awp_lane3 (nst := true) (nst' := false) [false, false, false, false, false, false, false, false, false, false, true, true, false, true] mixedOK hΓ (n1 := 14) (by kernel_rfl) (by kernel_rfl); (focus (dsimp only [List.take_succ_cons, List.take_zero, Array.toList]; (repeat (first | (apply lane3_loud; (focus rfl); (focus rfl); (simp (disch := omega) only [go_sem, ↓reduceIte, ↓lk, dk, e2, ↓ty_build35, ↓ty_build33, hcl, zeroLoose, partsLoose, arrRep, look_upd] <;> with_reducible rfl); (focus (first | (simp (disch := omega) only [go_sem, ↓reduceIte, ↓lk, dk, e2, ↓ty_build35, ↓ty_build33, hcl, zeroLoose, partsLoose, arrRep, look_upd]; done) | (simp (disch := omega) only [go_sem, ↓reduceIte, ↓lk, dk, e2, ↓ty_build35, ↓ty_build33, hcl, zeroLoose, partsLoose, arrRep, look_upd]; omega)))) | (apply lane3_quiet; (simp (disch := omega) only [go_sem, ↓reduceIte, ↓lk, dk, e2, ↓ty_build35, ↓ty_build33, hcl, zeroLoose, partsLoose, arrRep, look_upd] <;> with_reducible rfl)))); exact lane3_nil)); (focus ((repeat' (first | exact True.intro | refine And.intro ?_ ?_)); all_goals (first | (left; decide) | (left; rfl) | (right; simp (disch := omega) only [go_sem, ↓reduceIte, ↓lk, dk, e2, ↓ty_build35, ↓ty_build33, hcl, zeroLoose, partsLoose, arrRep, look_upd]; try with_reducible rfl)))); (simp (disch := omega) only [go_sem, ↓reduceIte, ↓lk, dk, e2, ↓ty_build35, ↓ty_build33, hcl, zeroLoose, partsLoose, arrRep, look_upd] <;> with_reducible rfl))
      repeat (first
        | (apply axJ; (focus ((with_reducible constructor) <;> rfl)))
        | (apply awT mixedOK hΓ (by kernel_rfl); (simp (disch := omega) only [go_sem, ↓reduceIte, dk, ↓lk, Int.reduceBEq, Int.reduceBNe, Bool.true_bne, Bool.false_bne, Bool.not_true, Bool.not_false] <;> with_reducible rfl))
        | ((first | apply awR hΓ | apply awG | apply awH mixedOK hΓ rfl (by kernel_rfl) | apply ovE rfl); (simp (disch := omega) only [go_sem, ↓reduceIte, dk, ↓lk, Int.reduceBEq, Int.reduceBNe, Bool.true_bne, Bool.false_bne, Bool.not_true, Bool.not_false] <;> with_reducible rfl); exact trivial)
        | rfl)
      refine ⟨i + 1, by omega, by omega, ?_⟩
      rw [hst, hcs]
      exact Weak.v (by (simp [ConvF, lookV, Conv, ints, hrf]; done)) (by (simp (disch := omega) only [TabSub, look, if_pos, if_neg, Obj.refsOK, refsOKs, AV.refsOK, decide_eq_true_eq, Bool.and_true, Bool.and_self, hrf] ) <;> ((repeat' apply And.intro) <;> first | exact True.intro | omega | (simp; done) | rfl))
    · have hc : decide ((i : Int) > 0) = true := decide_eq_true (by omega)
      rw [if_neg h0] at hst
      repeat (first
        | (apply axJ; (focus ((with_reducible constructor) <;> rfl)))
        | (apply awT mixedOK hΓ (by kernel_rfl); (simp (disch := omega) only [go_sem, ↓reduceIte, dk, ↓lk, Int.reduceBEq, Int.reduceBNe, Bool.true_bne, Bool.false_bne, Bool.not_true, Bool.not_false, hy, hc, hrm2, e1, hnl] <;> with_reducible rfl))
        | ((first | apply awR hΓ | apply awG | apply awH mixedOK hΓ rfl (by kernel_rfl) | apply ovE rfl); (simp (disch := omega) only [go_sem, ↓reduceIte, dk, ↓lk, Int.reduceBEq, Int.reduceBNe, Bool.true_bne, Bool.false_bne, Bool.not_true, Bool.not_false, hy, hc, hrm2, e1, hnl] <;> with_reducible rfl); exact trivial)
        | rfl)
      (apply awp_lane3 (nst := true) (nst' := false) [false, false, false, false, false, false, false, false, false, false, true, true, false, true] mixedOK hΓ (n1 := 14) (by kernel_rfl) (by kernel_rfl); (focus (dsimp only [List.take_succ_cons, List.take_zero, Array.toList]; (repeat (first | (apply lane3_loud; (focus rfl); (focus rfl); (simp (disch := omega) only [go_sem, ↓reduceIte, ↓lk, dk, e2, ↓ty_build35, ↓ty_build33, hcl, zeroLoose, partsLoose, arrRep, look_upd] <;> with_reducible rfl); (focus (first | (simp (disch := omega) only [go_sem, ↓reduceIte, ↓lk, dk, e2, ↓ty_build35, ↓ty_build33, hcl, zeroLoose, partsLoose, arrRep, look_upd]; done) | (simp (disch := omega) only [go_sem, ↓reduceIte, ↓lk, dk, e2, ↓ty_build35, ↓ty_build33, hcl, zeroLoose, partsLoose, arrRep, look_upd]; omega)))) | (apply lane3_quiet; (simp (disch := omega) only [go_sem, ↓reduceIte, ↓lk, dk, e2, ↓ty_build35, ↓ty_build33, hcl, zeroLoose, partsLoose, arrRep, look_upd] <;> with_reducible rfl)))); exact lane3_nil)); (focus ((repeat' (first | exact True.intro | refine And.intro ?_ ?_)); all_goals (first | (left; decide) | (left; rfl) | (right; simp (disch := omega) only [go_sem, ↓reduceIte, ↓lk, dk, e2, ↓ty_build35, ↓ty_build33, hcl, zeroLoose, partsLoose, arrRep, look_upd]; try with_reducible rfl)))); (simp (disch := omega) only [go_sem, ↓reduceIte, ↓lk, dk, e2, ↓ty_build35, ↓ty_build33, hcl, zeroLoose, partsLoose, arrRep, look_upd] <;> with_reducible rfl))
      repeat (first
        | (apply axJ; (focus ((with_reducible constructor) <;> rfl)))
        | (apply awT mixedOK hΓ (by kernel_rfl); (simp (disch := omega) only [go_sem, ↓reduceIte, dk, ↓lk, Int.reduceBEq, Int.reduceBNe, Bool.true_bne, Bool.false_bne, Bool.not_true, Bool.not_false] <;> with_reducible rfl))
        | ((first | apply awR hΓ | apply awG | apply awH mixedOK hΓ rfl (by kernel_rfl) | apply ovE rfl); (simp (disch := omega) only [go_sem, ↓reduceIte, dk, ↓lk, Int.reduceBEq, Int.reduceBNe, Bool.true_bne, Bool.false_bne, Bool.not_true, Bool.not_false] <;> with_reducible rfl); exact trivial)
        | rfl)
      refine ⟨i + 1, by omega, by omega, ?_⟩
      rw [hst, hcs]
      exact Weak.v (by (simp [ConvF, lookV, Conv, ints, hrf]; done)) (by (simp (disch := omega) only [TabSub, look, if_pos, if_neg, Obj.refsOK, refsOKs, AV.refsOK, decide_eq_true_eq, Bool.and_true, Bool.and_self, hrf] ) <;> ((repeat' apply And.intro) <;> first | exact True.intro | omega | (simp; done) | rfl))
  have hi3 : i = nx.length := by omega
  subst hi3
  have htk : (rowsO nx).take nx.length = rowsO nx := List.take_of_length_le (by omega)
  rw [htk]
  have hul : ((usO nx).map eMc).length = nx.length := by simp [usO]
  have hrm3 := rem_i fi.toNat nx.length
  have hfl := fi.toNat_lt
  have ha0 : fi.toNat % nx.length < nx.length := Nat.mod_lt _ hn0
  have hR : ∀ S b, chO nx (nx.length + 1) (fi.toNat % nx.length) [] = (S, b) → b ∈ S → lineG [(pQ, dataO nx)] (usO nx) [(1, nmO (fi.toNat % nx.length))] = (([(1, nmO b)], setG (S.map unO)), 0) := fun S b h hm => line_once hn0 hn ha0 (by omega) h hm
  generalize fi.toNat % nx.length = a0 at *
  have e1 := g_nmO_eq (i := a0) (by omega)
  repeat (first
    | (apply axJ; (focus ((with_reducible constructor) <;> rfl)))
    | (apply awT mixedOK hΓ (by kernel_rfl); (simp (disch := omega) only [go_sem, ↓reduceIte, dk, ↓lk, Int.reduceBEq, Int.reduceBNe, Bool.true_bne, Bool.false_bne, Bool.not_true, Bool.not_false, hrm3] <;> with_reducible rfl))
    | ((first | apply awR hΓ | apply awG | apply awH mixedOK hΓ rfl (by kernel_rfl) | apply ovE rfl); (simp (disch := omega) only [go_sem, ↓reduceIte, dk, ↓lk, Int.reduceBEq, Int.reduceBNe, Bool.true_bne, Bool.false_bne, Bool.not_true, Bool.not_false, hrm3] <;> with_reducible rfl); exact trivial)
    | rfl)
  refine awp_weak (Weak.trans (Weak.arrRow (o := 18) (l := (usO nx).map eMc) rfl (conv_cO _ nx) hul mc_cells7.1 mc_cells7.2) (Weak.trans (Weak.freeze (o := 18) rfl) (Weak.trans (Weak.boxConv (o := 13) (cs' := [.data (.str []), .data (.list []), .data (.list ((usO nx).map eMc)), .data (.list []), .data (.list []), .data (.list [])]) rfl ⟨rfl, .inr (.inl ⟨rfl, rfl⟩), .inr (.inr ⟨18, nx.length, rfl, rfl, hul⟩), .inr (.inl ⟨rfl, rfl⟩), .inr (.inl ⟨rfl, rfl⟩), .inr (.inl ⟨rfl, rfl⟩), trivial⟩) (show Weak _ _ _ ((frame 135 [(0, .data (.list (nx.map bD))), (5, .data (i64 nx.length)), (6, .data (.str (dataO nx))), (7, .ptr 13 0), (8, .data (.clo 5 [])), (11, .data (i64 a0))])) ⟨[(13, .box [.data (.str []), .data (.list []), .data (.list ((usO nx).map eMc)), .data (.list []), .data (.list []), .data (.list [])])], 20⟩ from Weak.v (by (simp [ConvF, lookV, Conv, ints, upd, Heap.set, Heap.get, look, dataO]; done)) (by (simp (disch := omega) only [TabSub, look, if_pos, if_neg, Obj.refsOK, refsOKs, AV.refsOK, decide_eq_true_eq, Bool.and_true, Bool.and_self, upd, Heap.set, Heap.get, look, dataO] ) <;> ((repeat' apply And.intro) <;> first | exact True.intro | omega | (simp; done) | rfl)))))) ?_
  repeat (first
    | (apply axJ; (focus ((with_reducible constructor) <;> rfl)))
    | (apply awT mixedOK hΓ (by kernel_rfl); (simp (disch := omega) only [go_sem, ↓reduceIte, dk, ↓lk, Int.reduceBEq, Int.reduceBNe, Bool.true_bne, Bool.false_bne, Bool.not_true, Bool.not_false, e1] <;> with_reducible rfl))
    | ((first | apply awR hΓ | apply awG | apply awH mixedOK hΓ rfl (by kernel_rfl) | apply ovE rfl); (simp (disch := omega) only [go_sem, ↓reduceIte, dk, ↓lk, Int.reduceBEq, Int.reduceBNe, Bool.true_bne, Bool.false_bne, Bool.not_true, Bool.not_false, e1] <;> with_reducible rfl); exact trivial)
    | rfl)
  refine awp_loop_at (X := List Nat × Nat) (fun y => (frame 135 [(0, .data (.list (nx.map bD))), (5, .data (i64 nx.length)), (6, .data (.str (dataO nx))), (7, .ptr 13 0), (8, .data (.clo 5 [])), (11, .data (i64 y.2)), (12, .data (.str (nmO a0))), (13, .mref 24)])) (fun y => [(13, .box [.data (.str []), .data (.list []), .data (.list ((usO nx).map eMc)), .data (.list []), .data (.list []), .data (.list [])]), (24, .map (kO y.1) (vO y.1))]) 31
    (fun y => chO nx (nx.length + 1) a0 [] = chO nx (nx.length + 1 - y.1.length) y.2 y.1 ∧ y.2 < nx.length ∧ y.1.Nodup ∧ ∀ x ∈ y.1, x < nx.length) (fun y => nx.length - y.1.length) ([], a0) ⟨rfl, ha0, .nil, fun x hx => by cases hx⟩ (Weak.v (by (simp [ConvF, lookV, Conv, ints, kO, vO, List.map_nil]; done)) (by (simp (disch := omega) only [TabSub, look, if_pos, if_neg, Obj.refsOK, refsOKs, AV.refsOK, decide_eq_true_eq, Bool.and_true, Bool.and_self, kO, vO, List.map_nil] ) <;> ((repeat' apply And.intro) <;> first | exact True.intro | omega | (simp; done) | rfl))) ?_
  rintro ⟨S, a⟩ ⟨hch, ha, hnd, hSl⟩
  (try dsimp only at hch ha hnd hSl ⊢)
  have hSn : S.length ≤ nx.length := by
    have := nd_len S (List.range nx.length) hnd (fun x hx => List.mem_range.2 (hSl x hx))
    rwa [List.length_range] at this
  have hg := get_i a S
  by_cases hm : a ∈ S
  case neg =>
    rw [if_neg hm] at hg
    have hp := put_i hm
    have hnd2 : (S ++ [a]).Nodup := List.nodup_append.2 ⟨hnd, by simp, fun y hy z hz e => by
      simp only [List.mem_singleton] at hz
      subst hz e
      exact hm hy⟩
    have hS2 : S.length + 1 ≤ nx.length := by
      have := nd_len (S ++ [a]) (List.range nx.length) hnd2 (fun x hx => List.mem_range.2 (by
        rcases List.mem_append.1 hx with hx | hx
        · exact hSl x hx
        · simp only [List.mem_singleton] at hx
          rw [hx]; exact ha))
      rw [List.length_range, List.length_append] at this
      simpa using this
    obtain ⟨q, hq⟩ : ∃ q, nx.length + 1 - S.length = q + 1 := ⟨nx.length - S.length, by omega⟩
    have hch2 : chO nx (q + 1) a S = chO nx q (nxO nx a) (S ++ [a]) := by rw [chO, if_neg (by simpa using hm)]
    rw [hq, hch2, nx_at ha] at hch
    have hlt2 := hlt a
    rw [nx_at ha] at hlt2
    generalize hy : nx[a] = y at *
    have hyl := y.toNat_lt
    have hrm4 := rem_i y.toNat nx.length
    have hks := keys_i S
    repeat (first
      | (apply axJ; (focus ((with_reducible constructor) <;> rfl)))
      | (apply awT mixedOK hΓ (by kernel_rfl); (simp (disch := omega) only [go_sem, ↓reduceIte, dk, ↓lk, Int.reduceBEq, Int.reduceBNe, Bool.true_bne, Bool.false_bne, Bool.not_true, Bool.not_false, hks, key_k, hg, hp, Bool.and_self, hy, hrm4] <;> with_reducible rfl))
      | ((first | apply awR hΓ | apply awG | apply awH mixedOK hΓ rfl (by kernel_rfl) | apply ovE rfl); (simp (disch := omega) only [go_sem, ↓reduceIte, dk, ↓lk, Int.reduceBEq, Int.reduceBNe, Bool.true_bne, Bool.false_bne, Bool.not_true, Bool.not_false, hks, key_k, hg, hp, Bool.and_self, hy, hrm4] <;> with_reducible rfl); exact trivial)
      | rfl)
    refine ⟨(S ++ [a], y.toNat % nx.length), ⟨?_, hlt2, hnd2, fun x hx => ?_⟩, by dsimp only; rw [List.length_append]; simp only [List.length_cons, List.length_nil]; omega, Weak.w⟩
    · dsimp only
      rw [hch]
      congr 1
      rw [List.length_append]
      simp only [List.length_cons, List.length_nil]
      omega
    · rcases List.mem_append.1 hx with hx | hx
      · exact hSl x hx
      · simp only [List.mem_singleton] at hx
        rw [hx]; exact ha
  rw [if_pos hm] at hg
  have hks := keys_i S
  obtain ⟨q, hq⟩ : ∃ q, nx.length + 1 - S.length = q + 1 := ⟨nx.length - S.length, by omega⟩
  have hch2 : chO nx (q + 1) a S = (S, a) := by rw [chO, if_pos (by simpa using hm)]
  rw [hq, hch2] at hch
  have hL := hR S a hch hm
  have hsum := sum_units S.length S rfl hnd
  have hcn := (setG_ok (S.map unO)).1
  have hsl := setG_len (S.map unO)
  rw [List.length_map] at hsl
  have e2 := g_nmO_eq (i := a) (by omega)
  have hdl : (dataO nx).length ≤ 100 := by
    have := joinW_len hrm
    unfold dataO
    omega
  have e3 := g_lineP7_eq (fs := [(pQ, dataO nx)]) (us := usO nx) (l := [(1, nmO a0)]) ⟨⟨⟨by simp, fun f hf => by simp only [List.mem_singleton] at hf; subst hf; dsimp only; omega⟩, by simp [usO]; omega, fun m hm => by
    obtain ⟨j, _, rfl⟩ := List.mem_map.1 hm
    exact ⟨by simp [mcO], by simp [mcO, nmO]⟩⟩, by simp, fun t ht => by simp only [List.mem_singleton] at ht; subst ht; exact (by decide : 2 ≤ 1000000000)⟩
  rw [hL, eU_eq] at e3
  unfold eLR at e3
  dsimp only at e3
  generalize setG (S.map unO) = R at *
  replace e3 : g_lineP7 [.list [.agg [.str [112, 47, 113], .str (dataO nx)]], .agg [.str [], .list [], .list ((usO nx).map eMc), .list [], .list [], .list []], .list [.agg [.int .i64 1, .str (nmO a0)]]] = some (.tup [.list [.agg [.int .i64 1, .str (nmO a)]], .list (R.map eSp), .int .i64 0]) := e3
  repeat (first
    | (apply axJ; (focus ((with_reducible constructor) <;> rfl)))
    | (apply awT mixedOK hΓ (by kernel_rfl); (simp (disch := omega) only [go_sem, ↓reduceIte, dk, ↓lk, Int.reduceBEq, Int.reduceBNe, Bool.true_bne, Bool.false_bne, Bool.not_true, Bool.not_false, hks, key_k, hg, Bool.and_self, e2, e3, ↓ty_build42, ↓ty_build46] <;> with_reducible rfl))
    | ((first | apply awR hΓ | apply awG | apply awH mixedOK hΓ rfl (by kernel_rfl) | apply ovE rfl); (simp (disch := omega) only [go_sem, ↓reduceIte, dk, ↓lk, Int.reduceBEq, Int.reduceBNe, Bool.true_bne, Bool.false_bne, Bool.not_true, Bool.not_false, hks, key_k, hg, Bool.and_self, e2, e3, ↓ty_build42, ↓ty_build46] <;> with_reducible rfl); exact trivial)
    | rfl)
  have hsle := sum_le hcn.ne
  refine awp_loop_at (X := Nat) (fun i => (frame 135 [(13, .mref 24), (14, .data (.str (nmO a))), (15, .data (.list [.agg [.int .i64 1, .str (nmO a)]])), (17, .data (i64 0)), (18, .data (i64 (sumI (R.take i)))), (100, .data (.list (R.map eSp))), (101, .data (i64 R.length)), (102, .data (i64 i))])) (fun _ => [(24, .map (kO S) (vO S))]) 80
    (fun i => i ≤ R.length) (fun i => R.length - i) 0 (Nat.zero_le _) (Weak.v (by (simp [ConvF, lookV, Conv, ints, List.take_zero, sumI]; done)) (by (simp (disch := omega) only [TabSub, look, if_pos, if_neg, Obj.refsOK, refsOKs, AV.refsOK, decide_eq_true_eq, Bool.and_true, Bool.and_self, List.take_zero, sumI] ) <;> ((repeat' apply And.intro) <;> first | exact True.intro | omega | (simp; done) | rfl))) ?_
  rintro i hi
  (try dsimp only at hi ⊢)
  by_cases hi2 : i < R.length
  · have hst := sum_take hi2
    have hs1 := hsle i
    have hs2 := hsle (i + 1)
    rw [hst] at hs2
    have hne := hcn.ne R[i] (List.getElem_mem hi2)
    generalize hA : sumI (R.take i) = A at *
    generalize hy : R[i] = y at *
    obtain ⟨y1, y2, y3⟩ := y
    dsimp only at hst hs2 hne
    repeat (first
      | (apply axJ; (focus ((with_reducible constructor) <;> rfl)))
      | (apply awT mixedOK hΓ (by kernel_rfl); (simp (disch := omega) only [go_sem, ↓reduceIte, dk, ↓lk, Int.reduceBEq, Int.reduceBNe, Bool.true_bne, Bool.false_bne, Bool.not_true, Bool.not_false, hy] <;> with_reducible rfl))
      | ((first | apply awR hΓ | apply awG | apply awH mixedOK hΓ rfl (by kernel_rfl) | apply ovE rfl); (simp (disch := omega) only [go_sem, ↓reduceIte, dk, ↓lk, Int.reduceBEq, Int.reduceBNe, Bool.true_bne, Bool.false_bne, Bool.not_true, Bool.not_false, hy] <;> with_reducible rfl); exact trivial)
      | rfl)
    exact ⟨i + 1, by omega, by omega, by rw [hst]; exact Weak.w⟩
  have hi3 : i = R.length := by omega
  subst hi3
  rw [List.take_length]
  have hfin : (sumI R == (S.length : Int)) = true := by rw [hsum]; exact beq_self_eq_true _
  repeat (first
    | (apply axJ; (focus ((with_reducible constructor) <;> rfl)))
    | (apply awT mixedOK hΓ (by kernel_rfl); (simp (disch := omega) only [go_sem, ↓reduceIte, dk, ↓lk, Int.reduceBEq, Int.reduceBNe, Bool.true_bne, Bool.false_bne, Bool.not_true, Bool.not_false, Int.reduceToNat, List.getElem?_cons_zero, List.getElem?_cons_succ, BEq.rfl, kO_len, hfin, List.length_cons, List.length_nil, show ((1 : Nat) : Int) = 1 from rfl] <;> with_reducible rfl))
    | ((first | apply awR hΓ | apply awG | apply awH mixedOK hΓ rfl (by kernel_rfl) | apply ovE rfl); (simp (disch := omega) only [go_sem, ↓reduceIte, dk, ↓lk, Int.reduceBEq, Int.reduceBNe, Bool.true_bne, Bool.false_bne, Bool.not_true, Bool.not_false, Int.reduceToNat, List.getElem?_cons_zero, List.getElem?_cons_succ, BEq.rfl, kO_len, hfin, List.length_cons, List.length_nil, show ((1 : Nat) : Int) = 1 from rfl] <;> with_reducible rfl); exact trivial)
    | rfl)
  try rfl
end Go.Ab
