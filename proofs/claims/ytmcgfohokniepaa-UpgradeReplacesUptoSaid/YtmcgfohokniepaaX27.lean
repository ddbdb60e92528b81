/-
  One text of the proof (own work): contracts of functions of the program, by the abstract machine.
-/
import Derived.Test.YtmcgfohokniepaaX25
import Derived.Test.YtmcgfohokniepaaX26
set_option linter.unusedVariables false
set_option linter.unusedSimpArgs false
namespace Go.Ab
open Go Go.RowKit Go.Proofs
set_option maxRecDepth 4000
set_option maxHeartbeats 4000000
def permTo (s : List Int) (k : Nat) : List Int := (List.range k).foldl (fun s i => round s (constAt i)) s
theorem permTo_zero (s : List Int) : permTo s 0 = s := rfl
theorem permTo_succ (s : List Int) (k : Nat) : permTo s (k + 1) = round (permTo s k) (constAt k) := by simp [permTo, List.range_succ]
theorem permTo_len {s : List Int} (h : s.length = 25) (k : Nat) : (permTo s k).length = 25 := by
  cases k with
  | zero => exact h
  | succ k => rw [permTo_succ, round_len]
noncomputable def g82 : List D → Option D := encSpec (fun s : List Int => [.agg (s.map u64)]) (fun s => s.length = 25) (fun s => .agg ((permTo s 24).map u64))
theorem g82_eq {s : List Int} (h : s.length = 25) : g82 [.agg (s.map u64)] = some (.agg ((permTo s 24).map u64)) := encSpec_eq (x := s) h fun y hy => by
  simp only [List.cons.injEq, and_true, D.agg.injEq] at hy
  rw [u64_map_inj hy]
noncomputable def Γm : FuncId → Option CSpec := fun f => if f = 108 then some (.pure true g108) else if f = 107 then some (.pure true g107) else none
theorem Γm_ok : ∀ f s, Γm f = some s → SpecOK Try.prog f s := by
  intro f s h
  unfold Γm at h
  split at h
  · rename_i hf; cases h; subst hf; exact f108_ok
  split at h
  · rename_i hf; cases h; subst hf; exact f107_ok
  · cases h
theorem f82_ok : PureOK Try.prog 82 true g82 := by
  have hΓ := Γm_ok
  refine pure_enc (n := 13) (rs := [.cell 2 135]) Try.func82 (by kernel_rfl) rfl (by kernel_rfl) (by kernel_rfl) ?_
  intro s hs
  refine ⟨fun _ => flatU _, fun c hz0 => ?_⟩
  have hz25 : (zer 25).length = 25 := rfl
  rw [start_frame (by simp)]; simp only [enumV, go_sem, emptyH]
  repeat (first
    | (apply axJ; (focus ((with_reducible constructor) <;> rfl)))
    | (apply awT mixedOK hΓ (by kernel_rfl); (simp (disch := omega) only [go_sem, ↓reduceIte, ↓lk, dk, ↓cells_arr] <;> with_reducible rfl))
    | ((first | apply awR hΓ | apply awG | apply awH mixedOK hΓ rfl (by kernel_rfl) | apply ovE rfl); (simp (disch := omega) only [go_sem, ↓reduceIte, ↓lk, dk, ↓cells_arr] <;> with_reducible rfl); exact trivial)
    | rfl)
  refine awp_loop_at (X := Nat) (fun x => (frame 13 [(1, .ptr 0 0), (2, .ptr 1 0), (3, .data (i64 x))]))
    (fun x => [(0, .box ((permTo s x).map U)), (1, .box ((zer 25).map U))]) 2
    (fun x => x ≤ 24) (fun x => 24 - x) 0 (Nat.zero_le _) (Weak.v (by (simp [ConvF, lookV, Conv, ints, refsU, U_data, zer25, permTo_zero]; done)) (by (simp (disch := omega) only [TabSub, look, if_pos, if_neg, Obj.refsOK, refsOKs, AV.refsOK, decide_eq_true_eq, Bool.and_true, Bool.and_self, refsU, U_data, zer25, permTo_zero] ) <;> ((repeat' apply And.intro) <;> first | exact True.intro | omega | (simp; done) | rfl))) ?_
  intro x hx
  have hpl := permTo_len hs x
  by_cases hx5 : x < 24
  · have e108 := g108_eq hx5
    have e107 := g107_eq (c := constAt x) hpl
    rw [← permTo_succ] at e107
    have hpl2 := permTo_len hs (x + 1)
    repeat (first
      | (apply axJ; (focus ((with_reducible constructor) <;> rfl)))
      | (apply awT mixedOK hΓ (by kernel_rfl); (simp (disch := omega) only [go_sem, ↓reduceIte, dk, Γm, ↓load_arr, lay_arr, U_data, e108, e107] <;> with_reducible rfl))
      | ((first | apply awR hΓ | apply awG | apply awH mixedOK hΓ rfl (by kernel_rfl) | apply ovE rfl); (simp (disch := omega) only [go_sem, ↓reduceIte, dk, Γm, ↓load_arr, lay_arr, U_data, e108, e107] <;> with_reducible rfl); exact trivial)
      | rfl)
    exact ⟨x + 1, by omega, by omega, Weak.v (by (simp [ConvF, lookV, Conv, ints, refsU]; done)) (by (simp (disch := omega) only [TabSub, look, if_pos, if_neg, Obj.refsOK, refsOKs, AV.refsOK, decide_eq_true_eq, Bool.and_true, Bool.and_self, refsU] ) <;> ((repeat' apply And.intro) <;> first | exact True.intro | omega | (simp; done) | rfl))⟩
  have hx6 : x = 24 := by omega
  subst hx6
  repeat (first
    | (apply axJ; (focus ((with_reducible constructor) <;> rfl)))
    | (apply awT mixedOK hΓ (by kernel_rfl); (simp (disch := omega) only [go_sem, ↓reduceIte, dk, ↓load_arr, lay_arr, U_data] <;> with_reducible rfl))
    | ((first | apply awR hΓ | apply awG | apply awH mixedOK hΓ rfl (by kernel_rfl) | apply ovE rfl); (simp (disch := omega) only [go_sem, ↓reduceIte, dk, ↓load_arr, lay_arr, U_data] <;> with_reducible rfl); exact trivial)
    | rfl)
end Go.Ab
namespace Go.Ab
open Go Go.RowKit Go.Proofs
set_option maxRecDepth 4000
set_option maxHeartbeats 4000000
def or8 (a b : Int) : Int := IntKind.u8.wrap (BitVec.ofInt IntKind.u8.bits a ||| BitVec.ofInt IntKind.u8.bits b).toNat
@[go_sem] theorem abits_or8 (a b : Int) : abits .or .u8 a b = some (or8 a b) := rfl
def bs (s : List UInt8) : List Int := s.map fun b => (b.toNat : Int)
theorem bytesD_eq (s : List UInt8) : bytesD s = (bs s).map u8 := by simp [bytesD, bs]
theorem bs_len (s : List UInt8) : (bs s).length = s.length := by simp [bs]
def padB (s : List UInt8) (j : Nat) : List Int := bs s ++ [6] ++ List.replicate j 0
theorem padB_len (s : List UInt8) (j : Nat) : (padB s j).length = s.length + 1 + j := by simp [padB, bs]; omega
theorem pad_first (s : List UInt8) : (bs s).map u8 ++ [.int .u8 6] = (padB s 0).map u8 := by simp [padB]
theorem pad_more (s : List UInt8) (j : Nat) : (padB s j).map u8 ++ [.int .u8 0] = (padB s (j + 1)).map u8 := by simp [padB, List.replicate_succ']
def padN (s : List UInt8) : Nat := (136 - (s.length + 1) % 136) % 136
def len8 (s : List UInt8) : Nat := s.length + 1 + padN s
def fin (s : List UInt8) : List Int := (padB s (padN s)).set (len8 s - 1) (or8 ((padB s (padN s)).getD (len8 s - 1) 0) 128)
theorem fin_len (s : List UInt8) : (fin s).length = len8 s := by simp [fin, padB_len, len8]
def abStep (B : List Int) (a : Nat) (L : List Int) (i : Nat) : List Int := L.set (i / 8) (xr (L.getD (i / 8) 0) (sl (IntKind.wrap .u64 (B.getD (a + i) 0)) (8 * (i % 8 : Nat))))
def absorb (B : List Int) (a : Nat) (L : List Int) (k : Nat) : List Int := (List.range k).foldl (abStep B a) L
theorem absorb_zero (B : List Int) (a : Nat) (L : List Int) : absorb B a L 0 = L := rfl
theorem absorb_succ (B : List Int) (a : Nat) (L : List Int) (k : Nat) : absorb B a L (k + 1) = abStep B a (absorb B a L k) k := by simp [absorb, List.range_succ]
theorem absorb_len (B : List Int) (a : Nat) (L : List Int) (k : Nat) : (absorb B a L k).length = L.length := by unfold absorb; rw [foldl_len (fun L x => by simp [abStep])]
def blocks (B : List Int) (k : Nat) : List Int := (List.range k).foldl (fun L k => permTo (absorb B (136 * k) L 136) 24) (zer 25)
theorem blocks_zero (B : List Int) : blocks B 0 = zer 25 := rfl
theorem blocks_succ (B : List Int) (k : Nat) : blocks B (k + 1) = permTo (absorb B (136 * k) (blocks B k) 136) 24 := by simp [blocks, List.range_succ]
theorem blocks_len (B : List Int) : ∀ k : Nat, (blocks B k).length = 25
  | 0 => rfl
  | k + 1 => by rw [blocks_succ]; exact permTo_len (by rw [absorb_len]; exact blocks_len B k) _
def byt (S : List Int) (i : Nat) : Int := IntKind.wrap .u8 (sr (S.getD (i / 8) 0) (8 * (i % 8 : Nat)))
def outTo (S : List Int) (k : Nat) : List Int := (List.range k).foldl (fun L i => L.set i (byt S i)) (zer 32)
theorem outTo_zero (S : List Int) : outTo S 0 = zer 32 := rfl
theorem outTo_succ (S : List Int) (k : Nat) : outTo S (k + 1) = (outTo S k).set k (byt S k) := by simp [outTo, List.range_succ]
theorem outTo_len (S : List Int) (k : Nat) : (outTo S k).length = 32 := by unfold outTo; rw [foldl_len (fun L x => by simp)]; rfl
def strOf (L : List Int) : List UInt8 := L.map fun n => UInt8.ofNat n.toNat
theorem bytesOf_map (L : List Int) : bytesOf (L.map u8) = some (strOf L) := by
  induction L with
  | nil => rfl
  | cons x L ih => simp only [List.map_cons, bytesOf, ih]; rfl
def sum3 (s : List UInt8) : List UInt8 := strOf (outTo (blocks (fin s) (len8 s / 136)) 32)
theorem sum3_len (s : List UInt8) : (sum3 s).length = 32 := by simp [sum3, strOf, outTo_len]
theorem tmodN {m : Nat} {n : Nat} {x : Int} (h : x = n) : Int.tmod x m = (n % m : Nat) := by subst h; rfl
theorem tdivN {m : Nat} {n : Nat} {x : Int} (h : x = n) : Int.tdiv x m = (n / m : Nat) := by subst h; rfl
theorem row8 {L : List Int} {k : Nat} (h : k < L.length) : (L.map u8)[k]? = some (.int .u8 (L.getD k 0)) := by simp [h]
theorem set8 (L : List Int) (k : Nat) (v : Int) : (L.map u8).set k (.int .u8 v) = (L.set k v).map u8 := by rw [List.map_set]
noncomputable def g57 : List D → Option D := encSpec (fun s : List UInt8 => [.str s]) (fun s => s.length ≤ 1099511627776) (fun s => .str (sum3 s))
theorem g57_eq {s : List UInt8} (h : s.length ≤ 1099511627776) : g57 [.str s] = some (.str (sum3 s)) := encSpec_eq (x := s) h fun y hy => by
  simp only [List.cons.injEq, and_true, D.str.injEq] at hy
  rw [hy]
noncomputable def Γs : FuncId → Option CSpec := fun f => if f = 82 then some (.pure true g82) else none
theorem Γs_ok : ∀ f s, Γs f = some s → SpecOK Try.prog f s := by
  intro f s h
  unfold Γs at h
  split at h
  · rename_i hf; cases h; subst hf; exact f82_ok
  · cases h
theorem f57_ok : PureOK Try.prog 57 true g57 := by
  have hΓ := Γs_ok
  refine pure_enc (n := 85) (rs := [.tmp 2]) Try.func57 (by kernel_rfl) rfl (by kernel_rfl) (by kernel_rfl) ?_
  intro s hs
  refine ⟨fun _ => .str _, fun c hz0 => ?_⟩
  have hpN : padN s < 136 := Nat.mod_lt _ (by omega)
  have hpd : padN s = (136 - (s.length + 1) % 136) % 136 := rfl
  have hl8 : len8 s = s.length + 1 + padN s := rfl
  have hdv : len8 s % 136 = 0 := by omega
  rw [start_frame (by simp)]; simp only [enumV, go_sem, emptyH]
  repeat (first
    | (apply axJ; (focus ((with_reducible constructor) <;> rfl)))
    | (apply awT mixedOK hΓ (by kernel_rfl); (simp (disch := omega) only [go_sem, ↓reduceIte, ↓lk, dk, bytesD_eq, bs_len, pad_first] <;> with_reducible rfl))
    | ((first | apply awR hΓ | apply awG | apply awH mixedOK hΓ rfl (by kernel_rfl) | apply ovE rfl); (simp (disch := omega) only [go_sem, ↓reduceIte, ↓lk, dk, bytesD_eq, bs_len, pad_first] <;> with_reducible rfl); exact trivial)
    | rfl)
  refine awp_loop_at (X := Nat) (fun j => (frame 85 [(3, .row 2 (s.length + 1 + j))]))
    (fun j => [(2, .row 5 1 ((padB s j).map u8))]) 3
    (fun j => j ≤ padN s) (fun j => padN s - j) 0 (Nat.zero_le _) (Weak.w) ?_
  intro j hj
  have hpl := padB_len s j
  have tm : Int.tmod ((s.length + 1 + j : Nat) : Int) 136 = ((s.length + 1 + j) % 136 : Nat) := tmodN (m := 136) rfl
  by_cases hj2 : j < padN s
  · have hne : ((((s.length + 1 + j) % 136 : Nat) : Int) != 0) = true := by simp; omega
    repeat (first
      | (apply axJ; (focus ((with_reducible constructor) <;> rfl)))
      | (apply awT mixedOK hΓ (by kernel_rfl); (simp (disch := omega) only [go_sem, ↓reduceIte, ↓lk, dk, hpl, tm, hne, pad_more] <;> with_reducible rfl))
      | ((first | apply awR hΓ | apply awG | apply awH mixedOK hΓ rfl (by kernel_rfl) | apply ovE rfl); (simp (disch := omega) only [go_sem, ↓reduceIte, ↓lk, dk, hpl, tm, hne, pad_more] <;> with_reducible rfl); exact trivial)
      | rfl)
    exact ⟨j + 1, by omega, by omega, Weak.v (by (simp [ConvF, lookV, Conv, ints, Nat.add_assoc]; done)) (by (simp (disch := omega) only [TabSub, look, if_pos, if_neg, Obj.refsOK, refsOKs, AV.refsOK, decide_eq_true_eq, Bool.and_true, Bool.and_self, Nat.add_assoc] ) <;> ((repeat' apply And.intro) <;> first | exact True.intro | omega | (simp; done) | rfl))⟩
  have hj3 : j = padN s := by omega
  have hne : ((((s.length + 1 + j) % 136 : Nat) : Int) != 0) = false := by
    have : (s.length + 1 + j) % 136 = 0 := by rw [hj3]; exact hdv
    simp [this]
  have hr : ((padB s j).map u8)[(((s.length + 1 + j : Nat) : Int) - 1).toNat]? = some (.int .u8 ((padB s j).getD (len8 s - 1) 0)) := by
    rw [show (((s.length + 1 + j : Nat) : Int) - 1).toNat = len8 s - 1 by omega]
    exact row8 (by omega)
  have hset : ∀ v, ((padB s j).map u8).set (((s.length + 1 + j : Nat) : Int) - 1).toNat (.int .u8 v) = ((padB s j).set (len8 s - 1) v).map u8 := fun v => by
    rw [show (((s.length + 1 + j : Nat) : Int) - 1).toNat = len8 s - 1 by omega, set8]
  have hfin : (padB s j).set (len8 s - 1) (or8 ((padB s j).getD (len8 s - 1) 0) 128) = fin s := by rw [hj3]; rfl
  repeat (first
    | (apply axJ; (focus ((with_reducible constructor) <;> rfl)))
    | (apply awT mixedOK hΓ (by kernel_rfl); (simp (disch := omega) only [go_sem, ↓reduceIte, ↓lk, dk, hpl, tm, hne, ↓hr, hset, hfin] <;> with_reducible rfl))
    | ((first | apply awR hΓ | apply awG | apply awH mixedOK hΓ rfl (by kernel_rfl) | apply ovE rfl); (simp (disch := omega) only [go_sem, ↓reduceIte, ↓lk, dk, hpl, tm, hne, ↓hr, hset, hfin] <;> with_reducible rfl); exact trivial)
    | rfl)
  have hz25 : (zer 25).length = 25 := rfl
  have hfl := fin_len s
  generalize hB : fin s = B at hfl
  refine awp_loop_at (X := Nat) (fun k => (frame 85 [(3, .row 2 (len8 s)), (4, .ptr 20 0), (5, .data (i64 (136 * k : Nat)))]))
    (fun k => [(2, .row 5 1 (B.map u8)), (20, .box ((blocks B k).map U))]) 21
    (fun k => k ≤ len8 s / 136) (fun k => len8 s / 136 - k) 0 (Nat.zero_le _) (Weak.v (by (simp [ConvF, lookV, Conv, ints, refsU, U_data, zer25, blocks_zero, hj3, hl8]; done)) (by (simp (disch := omega) only [TabSub, look, if_pos, if_neg, Obj.refsOK, refsOKs, AV.refsOK, decide_eq_true_eq, Bool.and_true, Bool.and_self, refsU, U_data, zer25, blocks_zero, hj3, hl8] ) <;> ((repeat' apply And.intro) <;> first | exact True.intro | omega | (simp; done) | rfl))) ?_
  clear hr hset hfin hne tm hpl
  intro k hk
  have hbl := blocks_len B k
  by_cases hk2 : k < len8 s / 136
  · have hk3 : 136 * k + 136 ≤ len8 s := by omega
    repeat (first
      | (apply axJ; (focus ((with_reducible constructor) <;> rfl)))
      | (apply awT mixedOK hΓ (by kernel_rfl); (simp (disch := omega) only [go_sem, ↓reduceIte, dk, hfl] <;> with_reducible rfl))
      | ((first | apply awR hΓ | apply awG | apply awH mixedOK hΓ rfl (by kernel_rfl) | apply ovE rfl); (simp (disch := omega) only [go_sem, ↓reduceIte, dk, hfl] <;> with_reducible rfl); exact trivial)
      | rfl)
    refine awp_loop_at (X := Nat) (fun i => (frame 85 [(3, .row 2 (len8 s)), (4, .ptr 20 0), (5, .data (i64 (136 * k : Nat))), (6, .data (i64 i))]))
      (fun i => [(2, .row 5 1 (B.map u8)), (20, .box ((absorb B (136 * k) (blocks B k) i).map U))]) 21
      (fun i => i ≤ 136) (fun i => 136 - i) 0 (Nat.zero_le _) (Weak.v (by (simp [ConvF, lookV, Conv, ints, refsU, absorb_zero]; done)) (by (simp (disch := omega) only [TabSub, look, if_pos, if_neg, Obj.refsOK, refsOKs, AV.refsOK, decide_eq_true_eq, Bool.and_true, Bool.and_self, refsU, absorb_zero] ) <;> ((repeat' apply And.intro) <;> first | exact True.intro | omega | (simp; done) | rfl))) ?_
    intro i hi
    have hal := absorb_len B (136 * k) (blocks B k) i
    by_cases hi2 : i < 136
    · have q8 : Int.tdiv (i : Int) 8 = (i / 8 : Nat) := tdivN (m := 8) rfl
      have r8 : Int.tmod (i : Int) 8 = (i % 8 : Nat) := tmodN (m := 8) rfl
      have d8 : i / 8 < 25 := by omega
      have m8 : i % 8 < 8 := by omega
      have hr : (B.map u8)[(((136 * k : Nat) : Int) + (i : Int)).toNat]? = some (.int .u8 (B.getD (136 * k + i) 0)) := by
        rw [show (((136 * k : Nat) : Int) + (i : Int)).toNat = 136 * k + i by omega]
        exact row8 (by omega)
      have hset : (absorb B (136 * k) (blocks B k) i).set (i / 8) (xr ((absorb B (136 * k) (blocks B k) i).getD (i / 8) 0) (sl (IntKind.wrap .u64 (B.getD (136 * k + i) 0)) (8 * (i % 8 : Nat)))) = absorb B (136 * k) (blocks B k) (i + 1) := by rw [absorb_succ]; rfl
      generalize hq : i / 8 = q at q8 d8 hset
      generalize hm : i % 8 = m at r8 m8 hset
      repeat (first
        | (apply axJ; (focus ((with_reducible constructor) <;> rfl)))
        | (apply awT mixedOK hΓ (by kernel_rfl); (simp (disch := omega) only [go_sem, ↓reduceIte, dk, hfl, wrapu_in, ↓load_word, ↓lay_word, q8, r8, ↓hr, Nat.zero_add, Nat.mul_one, shl_in, hset] <;> with_reducible rfl))
        | ((first | apply awR hΓ | apply awG | apply awH mixedOK hΓ rfl (by kernel_rfl) | apply ovE rfl); (simp (disch := omega) only [go_sem, ↓reduceIte, dk, hfl, wrapu_in, ↓load_word, ↓lay_word, q8, r8, ↓hr, Nat.zero_add, Nat.mul_one, shl_in, hset] <;> with_reducible rfl); exact trivial)
        | rfl)
      exact ⟨i + 1, by omega, by omega, Weak.v (by (simp [ConvF, lookV, Conv, ints, refsU]; done)) (by (simp (disch := omega) only [TabSub, look, if_pos, if_neg, Obj.refsOK, refsOKs, AV.refsOK, decide_eq_true_eq, Bool.and_true, Bool.and_self, refsU] ) <;> ((repeat' apply And.intro) <;> first | exact True.intro | omega | (simp; done) | rfl))⟩
    have hi3 : i = 136 := by omega
    subst hi3
    have e82 := g82_eq (s := absorb B (136 * k) (blocks B k) 136) (by rw [hal]; exact hbl)
    rw [← blocks_succ] at e82
    have hbl2 := blocks_len B (k + 1)
    repeat (first
      | (apply axJ; (focus ((with_reducible constructor) <;> rfl)))
      | (apply awT mixedOK hΓ (by kernel_rfl); (simp (disch := omega) only [go_sem, ↓reduceIte, dk, Γs, ↓load_arr, lay_arr, U_data, e82] <;> with_reducible rfl))
      | ((first | apply awR hΓ | apply awG | apply awH mixedOK hΓ rfl (by kernel_rfl) | apply ovE rfl); (simp (disch := omega) only [go_sem, ↓reduceIte, dk, Γs, ↓load_arr, lay_arr, U_data, e82] <;> with_reducible rfl); exact trivial)
      | rfl)
    exact ⟨k + 1, by omega, by omega, Weak.v (by (simp [ConvF, lookV, Conv, ints, refsU, Nat.mul_add]; done)) (by (simp (disch := omega) only [TabSub, look, if_pos, if_neg, Obj.refsOK, refsOKs, AV.refsOK, decide_eq_true_eq, Bool.and_true, Bool.and_self, refsU, Nat.mul_add] ) <;> ((repeat' apply And.intro) <;> first | exact True.intro | omega | (simp; done) | rfl))⟩
  have hk3 : k = len8 s / 136 := by omega
  have hk4 : len8 s = 136 * k := by omega
  have hsum : strOf (outTo (blocks B k) 32) = sum3 s := by rw [hk3, ← hB]; rfl
  generalize blocks B k = S at hbl hsum
  have hz32 : List.replicate 32 (D.int .u8 0) = (zer 32).map u8 := rfl
  have t32 : (32 : Int).toNat = 32 := rfl
  repeat (first
    | (apply axJ; (focus ((with_reducible constructor) <;> rfl)))
    | (apply awT mixedOK hΓ (by kernel_rfl); (simp (disch := omega) only [go_sem, ↓reduceIte, dk, hfl, hk4, t32, hz32] <;> with_reducible rfl))
    | ((first | apply awR hΓ | apply awG | apply awH mixedOK hΓ rfl (by kernel_rfl) | apply ovE rfl); (simp (disch := omega) only [go_sem, ↓reduceIte, dk, hfl, hk4, t32, hz32] <;> with_reducible rfl); exact trivial)
    | rfl)
  refine awp_loop_at (X := Nat) (fun i => (frame 85 [(4, .ptr 20 0), (7, .row 25 32), (8, .data (i64 i))]))
    (fun i => [(20, .box (S.map U)), (25, .row 5 1 ((outTo S i).map u8))]) 26
    (fun i => i ≤ 32) (fun i => 32 - i) 0 (Nat.zero_le _) (Weak.v (by (simp [ConvF, lookV, Conv, ints, refsU, outTo_zero]; done)) (by (simp (disch := omega) only [TabSub, look, if_pos, if_neg, Obj.refsOK, refsOKs, AV.refsOK, decide_eq_true_eq, Bool.and_true, Bool.and_self, refsU, outTo_zero] ) <;> ((repeat' apply And.intro) <;> first | exact True.intro | omega | (simp; done) | rfl))) ?_
  intro i hi
  have hol := outTo_len S i
  by_cases hi2 : i < 32
  · have q8 : Int.tdiv (i : Int) 8 = (i / 8 : Nat) := tdivN (m := 8) rfl
    have r8 : Int.tmod (i : Int) 8 = (i % 8 : Nat) := tmodN (m := 8) rfl
    have d8 : i / 8 < 25 := by omega
    have m8 : i % 8 < 8 := by omega
    have hset : (outTo S i).set i (IntKind.wrap .u8 (sr (S.getD (i / 8) 0) (8 * (i % 8 : Nat)))) = outTo S (i + 1) := by rw [outTo_succ]; rfl
    generalize hq : i / 8 = q at q8 d8 hset
    generalize hm : i % 8 = m at r8 m8 hset
    repeat (first
      | (apply axJ; (focus ((with_reducible constructor) <;> rfl)))
      | (apply awT mixedOK hΓ (by kernel_rfl); (simp (disch := omega) only [go_sem, ↓reduceIte, dk, wrapu_in, ↓load_word, q8, r8, Nat.zero_add, Nat.mul_one, shr_in, set8, hset, hol] <;> with_reducible rfl))
      | ((first | apply awR hΓ | apply awG | apply awH mixedOK hΓ rfl (by kernel_rfl) | apply ovE rfl); (simp (disch := omega) only [go_sem, ↓reduceIte, dk, wrapu_in, ↓load_word, q8, r8, Nat.zero_add, Nat.mul_one, shr_in, set8, hset, hol] <;> with_reducible rfl); exact trivial)
      | rfl)
    exact ⟨i + 1, by omega, by omega, Weak.v (by (simp [ConvF, lookV, Conv, ints, refsU]; done)) (by (simp (disch := omega) only [TabSub, look, if_pos, if_neg, Obj.refsOK, refsOKs, AV.refsOK, decide_eq_true_eq, Bool.and_true, Bool.and_self, refsU] ) <;> ((repeat' apply And.intro) <;> first | exact True.intro | omega | (simp; done) | rfl))⟩
  have hi3 : i = 32 := by omega
  subst hi3
  repeat (first
    | (apply axJ; (focus ((with_reducible constructor) <;> rfl)))
    | (apply awT mixedOK hΓ (by kernel_rfl); (simp (disch := omega) only [go_sem, ↓reduceIte, dk, hol, bytesOf_map, hsum] <;> with_reducible rfl))
    | ((first | apply awR hΓ | apply awG | apply awH mixedOK hΓ rfl (by kernel_rfl) | apply ovE rfl); (simp (disch := omega) only [go_sem, ↓reduceIte, dk, hol, bytesOf_map, hsum] <;> with_reducible rfl); exact trivial)
    | rfl)
end Go.Ab
namespace Go.Ab
open Go Go.RowKit Go.Proofs
set_option maxRecDepth 100000
def inD : List UInt8 := [49, 59, 49, 58, 100, 44]
def inE : List UInt8 := [49, 59, 49, 58, 101, 44]
def outD : List UInt8 := [43, 49, 60, 136, 211, 172, 214, 232, 74, 104, 31, 154, 178, 86, 58, 63, 137, 194, 157, 63, 115, 255, 11, 211, 215, 8, 179, 154, 57, 28, 189, 234]
def outE : List UInt8 := [177, 233, 201, 209, 36, 158, 235, 154, 170, 224, 167, 113, 182, 130, 240, 222, 253, 207, 109, 137, 206, 164, 5, 172, 84, 169, 36, 142, 94, 98, 147, 192]
theorem sum_d : sum3 inD = outD := by decide +kernel
theorem sum_e : sum3 inE = outE := by decide +kernel
end Go.Ab
