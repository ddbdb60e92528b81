/-
  One text of the proof (own work): contracts of functions of the program, by the abstract machine.
-/
import Derived.Test.YtmcgfohokniepaaX25
set_option linter.unusedVariables false
set_option linter.unusedSimpArgs false
namespace Go.Ab
open Go Go.RowKit Go.Proofs
set_option maxRecDepth 4000
set_option maxHeartbeats 4000000
def U (v : Int) : AV := .data (.int .u64 v)
theorem U_data (L : List Int) : (L.map u64).map AV.data = L.map U := by simp [U]
theorem cells_arr (L : List Int) : AV.cells (.data (.agg (L.map u64))) = some (L.map U) := by simp [AV.cells, U]
theorem load_word {L : List Int} {k : Nat} (h : k < L.length) : loadA Try.prog 134 ((L.map U).drop k) = some (.data (.int .u64 (L.getD k 0))) := by
  have : (L.map U).drop k = U (L.getD k 0) :: (L.map U).drop (k + 1) := by
    rw [List.drop_eq_getElem_cons (by simpa using h)]
    simp [h]
  simp only [loadA, ty_agg134, this, U]
theorem takeN_all {α : Type} : ∀ l : List α, takeN l.length l = some l
  | [] => rfl
  | x :: l => by simp [takeN, takeN_all l]
theorem allDat_map : ∀ L : List Int, allDat (L.map U) = some (L.map u64)
  | [] => rfl
  | x :: L => by simp only [List.map_cons, allDat, allDat_map L]; rfl
theorem load_arr {L : List Int} (h : L.length = 25) : loadA Try.prog 135 ((L.map U).drop 0) = some (.data (.agg (L.map u64))) := by
  have := takeN_all (L.map U)
  rw [List.length_map, h] at this
  simp only [loadA, ty_agg135, ty_size135, List.drop_zero, this, mkAgg, allDat_map]
theorem lay_word {L : List Int} {k : Nat} {v : Int} (h : k < L.length) : lay k [.data (.int .u64 v)] (L.map U) = some ((L.set k v).map U) := by
  induction L generalizing k with
  | nil => simp at h
  | cons x L ih =>
    cases k with
    | zero =>
      have : ∀ l : List AV, lay 0 [] l = some l := fun l => by cases l <;> rfl
      simp [lay, this, U]
    | succ k =>
      have := ih (k := k) (by simpa using h)
      simp [lay, this]
theorem lay_all {α : Type} : ∀ (xs ys : List α), xs.length = ys.length → lay 0 xs ys = some xs
  | [], [], _ => rfl
  | x :: xs, y :: ys, h => by simp [lay, lay_all xs ys (by simpa using h)]
  | [], _ :: _, h => by simp at h
  | _ :: _, [], h => by simp at h
theorem lay_arr {L M : List Int} (h : L.length = M.length) : lay 0 (L.map U) (M.map U) = some (L.map U) := lay_all _ _ (by simpa using h)
theorem refsU (n : Nat) : ∀ L : List Int, refsOKs n (L.map U) = true
  | [] => rfl
  | x :: L => by simp only [List.map_cons, refsOKs, refsU n L, U, AV.refsOK, Bool.and_self]
theorem nt_eq (a : Int) : xr (if IntKind.u64.signed = true then -1 else IntKind.u64.max) a = nt a := rfl
theorem tmod5 {n : Nat} {x : Int} (h : x = n) : Int.tmod x 5 = (n % 5 : Nat) := by
  subst h
  rfl
def zer (n : Nat) : List Int := List.replicate n 0
theorem zer25 : [AV.data (.int .u64 0), .data (.int .u64 0), .data (.int .u64 0), .data (.int .u64 0), .data (.int .u64 0), .data (.int .u64 0), .data (.int .u64 0), .data (.int .u64 0), .data (.int .u64 0), .data (.int .u64 0), .data (.int .u64 0), .data (.int .u64 0), .data (.int .u64 0), .data (.int .u64 0), .data (.int .u64 0), .data (.int .u64 0), .data (.int .u64 0), .data (.int .u64 0), .data (.int .u64 0), .data (.int .u64 0), .data (.int .u64 0), .data (.int .u64 0), .data (.int .u64 0), .data (.int .u64 0), .data (.int .u64 0)] = (zer 25).map U := rfl
theorem zer5 : [AV.data (.int .u64 0), .data (.int .u64 0), .data (.int .u64 0), .data (.int .u64 0), .data (.int .u64 0)] = (zer 5).map U := rfl
def at0 (L : List Int) (k : Nat) : Int := L.getD k 0
def sumAt (s : List Int) (x : Nat) : Int := xr (xr (xr (xr (at0 s x) (at0 s (x + 5))) (at0 s (x + 10))) (at0 s (x + 15))) (at0 s (x + 20))
def sums (s : List Int) (k : Nat) : List Int := (List.range k).foldl (fun L x => L.set x (sumAt s x)) (zer 5)
def dAt (s : List Int) (x : Nat) : Int := xr (at0 (sums s 5) ((x + 4) % 5)) (rot (at0 (sums s 5) ((x + 1) % 5)) 1)
def mvStep (s : List Int) (L : List Int) (x y : Nat) : List Int := L.set (y + 5 * ((2 * x + 3 * y) % 5)) (rot (xr (at0 s (x + 5 * y)) (dAt s x)) (offAt x y))
def mvRow (s : List Int) (L : List Int) (x k : Nat) : List Int := (List.range k).foldl (fun L y => mvStep s L x y) L
def mvs (s : List Int) (k : Nat) : List Int := (List.range k).foldl (fun L x => mvRow s L x 5) (zer 25)
def chStep (m : List Int) (L : List Int) (x y : Nat) : List Int := L.set (x + 5 * y) (xr (at0 m (x + 5 * y)) (nd (nt (at0 m ((x + 1) % 5 + 5 * y))) (at0 m ((x + 2) % 5 + 5 * y))))
def chRow (m : List Int) (L : List Int) (x k : Nat) : List Int := (List.range k).foldl (fun L y => chStep m L x y) L
def chs (m : List Int) (k : Nat) : List Int := (List.range k).foldl (fun L x => chRow m L x 5) (zer 25)
def round (s : List Int) (c : Int) : List Int := (chs (mvs s 5) 5).set 0 (xr (at0 (chs (mvs s 5) 5) 0) c)
theorem foldl_len {α : Type} {f : List Int → α → List Int} (h : ∀ L x, (f L x).length = L.length) : ∀ (xs : List α) (L : List Int), (xs.foldl f L).length = L.length
  | [], L => rfl
  | x :: xs, L => by rw [List.foldl_cons, foldl_len h xs, h]
theorem sums_len (s : List Int) (k : Nat) : (sums s k).length = 5 := by unfold sums; rw [foldl_len (fun L x => by simp)]; rfl
theorem mvRow_len (s L : List Int) (x k : Nat) : (mvRow s L x k).length = L.length := by unfold mvRow; rw [foldl_len (fun L x => by simp [mvStep])]
theorem mvs_len (s : List Int) (k : Nat) : (mvs s k).length = 25 := by unfold mvs; rw [foldl_len (fun L x => mvRow_len s L x 5)]; rfl
theorem chRow_len (m L : List Int) (x k : Nat) : (chRow m L x k).length = L.length := by unfold chRow; rw [foldl_len (fun L x => by simp [chStep])]
theorem chs_len (m : List Int) (k : Nat) : (chs m k).length = 25 := by unfold chs; rw [foldl_len (fun L x => chRow_len m L x 5)]; rfl
theorem round_len (s : List Int) (c : Int) : (round s c).length = 25 := by simp [round, chs_len]
theorem sums_succ (s : List Int) (k : Nat) : sums s (k + 1) = (sums s k).set k (sumAt s k) := by simp [sums, List.range_succ]
theorem mvRow_succ (s L : List Int) (x k : Nat) : mvRow s L x (k + 1) = mvStep s (mvRow s L x k) x k := by simp [mvRow, List.range_succ]
theorem mvs_succ (s : List Int) (k : Nat) : mvs s (k + 1) = mvRow s (mvs s k) k 5 := by simp [mvs, List.range_succ]
theorem chRow_succ (m L : List Int) (x k : Nat) : chRow m L x (k + 1) = chStep m (chRow m L x k) x k := by simp [chRow, List.range_succ]
theorem chs_succ (m : List Int) (k : Nat) : chs m (k + 1) = chRow m (chs m k) k 5 := by simp [chs, List.range_succ]
theorem sums_zero (s : List Int) : sums s 0 = zer 5 := rfl
theorem mvRow_zero (s L : List Int) (x : Nat) : mvRow s L x 0 = L := rfl
theorem mvs_zero (s : List Int) : mvs s 0 = zer 25 := rfl
theorem chRow_zero (m L : List Int) (x : Nat) : chRow m L x 0 = L := rfl
theorem chs_zero (m : List Int) : chs m 0 = zer 25 := rfl
theorem u64_map_inj {L M : List Int} (h : L.map u64 = M.map u64) : L = M := List.map_inj_right u64_inj |>.1 h
theorem flatU (L : List Int) : D.Flat (.agg (L.map u64)) := .agg _ fun d hd => by
  obtain ⟨x, _, rfl⟩ := List.mem_map.1 hd
  exact .int _ _
noncomputable def g107 : List D → Option D := encSpec (fun x : List Int × Int => [.agg (x.1.map u64), u64 x.2]) (fun x => x.1.length = 25) (fun x => .agg ((round x.1 x.2).map u64))
theorem g107_eq {s : List Int} {c : Int} (h : s.length = 25) : g107 [.agg (s.map u64), .int .u64 c] = some (.agg ((round s c).map u64)) := encSpec_eq (x := (s, c)) h fun y hy => by
  obtain ⟨y1, y2⟩ := y
  simp only [List.cons.injEq, and_true, D.agg.injEq] at hy
  rw [u64_map_inj hy.1, u64_inj _ _ hy.2]
noncomputable def Γr : FuncId → Option CSpec := fun f => if f = 126 then some (.pure true g126) else if f = 127 then some (.pure true g127) else none
theorem Γr_ok : ∀ f s, Γr f = some s → SpecOK Try.prog f s := by
  intro f s h
  unfold Γr at h
  split at h
  · rename_i hf; cases h; subst hf; exact f126_ok
  split at h
  · rename_i hf; cases h; subst hf; exact f127_ok
  · cases h
theorem f107_ok : PureOK Try.prog 107 true g107 := by
  have hΓ := Γr_ok
  refine pure_enc (n := 129) (rs := [.cell 4 135]) Try.func107 (by kernel_rfl) rfl (by kernel_rfl) (by kernel_rfl) ?_
  rintro ⟨s, k⟩ hs
  dsimp only at hs
  refine ⟨fun _ => flatU _, fun c hz0 => ?_⟩
  have hz25 : (zer 25).length = 25 := rfl
  have hz5 : (zer 5).length = 5 := rfl
  rw [start_frame (by simp)]; simp only [enumV, go_sem, emptyH]
  repeat (first
    | (apply axJ; (focus ((with_reducible constructor) <;> rfl)))
    | (apply awT mixedOK hΓ (by kernel_rfl); (simp (disch := omega) only [go_sem, ↓reduceIte, ↓lk, dk, ↓cells_arr] <;> with_reducible rfl))
    | ((first | apply awR hΓ | apply awG | apply awH mixedOK hΓ rfl (by kernel_rfl) | apply ovE rfl); (simp (disch := omega) only [go_sem, ↓reduceIte, ↓lk, dk, ↓cells_arr] <;> with_reducible rfl); exact trivial)
    | rfl)
  refine awp_loop_at (X := Nat) (fun x => (frame 129 [(1, .data (u64 k)), (2, .ptr 0 0), (4, .ptr 1 0), (5, .ptr 2 0), (6, .data (i64 x))]))
    (fun x => [(0, .box (s.map U)), (1, .box ((zer 25).map U)), (2, .box ((sums s x).map U))]) 3
    (fun x => x ≤ 5) (fun x => 5 - x) 0 (Nat.zero_le _) (Weak.v (by (simp [ConvF, lookV, Conv, ints, refsU, U_data, zer25, zer5, sums_zero, mvs_zero, chs_zero]; done)) (by (simp (disch := omega) only [TabSub, look, if_pos, if_neg, Obj.refsOK, refsOKs, AV.refsOK, decide_eq_true_eq, Bool.and_true, Bool.and_self, refsU, U_data, zer25, zer5, sums_zero, mvs_zero, chs_zero] ) <;> ((repeat' apply And.intro) <;> first | exact True.intro | omega | (simp; done) | rfl))) ?_
  intro x hx
  have hsl := sums_len s x
  by_cases hx5 : x < 5
  · have e5 : ((x : Int) + 5).toNat = x + 5 := by omega
    have e10 : ((x : Int) + 10).toNat = x + 10 := by omega
    have e15 : ((x : Int) + 15).toNat = x + 15 := by omega
    have e20 : ((x : Int) + 20).toNat = x + 20 := by omega
    have hset : (sums s x).set x (xr (xr (xr (xr (s.getD x 0) (s.getD (x + 5) 0)) (s.getD (x + 10) 0)) (s.getD (x + 15) 0)) (s.getD (x + 20) 0)) = sums s (x + 1) := by rw [sums_succ]; rfl
    repeat (first
      | (apply axJ; (focus ((with_reducible constructor) <;> rfl)))
      | (apply awT mixedOK hΓ (by kernel_rfl); (simp (disch := omega) only [go_sem, ↓reduceIte, dk, ↓load_word, ↓lay_word, e5, e10, e15, e20, Nat.zero_add, Nat.mul_one, hset] <;> with_reducible rfl))
      | ((first | apply awR hΓ | apply awG | apply awH mixedOK hΓ rfl (by kernel_rfl) | apply ovE rfl); (simp (disch := omega) only [go_sem, ↓reduceIte, dk, ↓load_word, ↓lay_word, e5, e10, e15, e20, Nat.zero_add, Nat.mul_one, hset] <;> with_reducible rfl); exact trivial)
      | rfl)
    exact ⟨x + 1, by omega, by omega, Weak.v (by (simp [ConvF, lookV, Conv, ints, refsU]; done)) (by (simp (disch := omega) only [TabSub, look, if_pos, if_neg, Obj.refsOK, refsOKs, AV.refsOK, decide_eq_true_eq, Bool.and_true, Bool.and_self, refsU] ) <;> ((repeat' apply And.intro) <;> first | exact True.intro | omega | (simp; done) | rfl))⟩
  have hx6 : x = 5 := by omega
  subst hx6
  repeat (first
    | (apply axJ; (focus ((with_reducible constructor) <;> rfl)))
    | (apply awT mixedOK hΓ (by kernel_rfl); (simp (disch := omega) only [go_sem, ↓reduceIte, ↓lk, dk] <;> with_reducible rfl))
    | ((first | apply awR hΓ | apply awG | apply awH mixedOK hΓ rfl (by kernel_rfl) | apply ovE rfl); (simp (disch := omega) only [go_sem, ↓reduceIte, ↓lk, dk] <;> with_reducible rfl); exact trivial)
    | rfl)
  refine awp_loop_at (X := Nat) (fun x => (frame 129 [(1, .data (u64 k)), (2, .ptr 0 0), (4, .ptr 1 0), (5, .ptr 2 0), (7, .ptr 5 0), (8, .data (i64 x))]))
    (fun x => [(0, .box (s.map U)), (1, .box ((zer 25).map U)), (2, .box ((sums s 5).map U)), (5, .box ((mvs s x).map U))]) 6
    (fun x => x ≤ 5) (fun x => 5 - x) 0 (Nat.zero_le _) (Weak.v (by (simp [ConvF, lookV, Conv, ints, refsU, U_data, zer25, zer5, sums_zero, mvs_zero, chs_zero]; done)) (by (simp (disch := omega) only [TabSub, look, if_pos, if_neg, Obj.refsOK, refsOKs, AV.refsOK, decide_eq_true_eq, Bool.and_true, Bool.and_self, refsU, U_data, zer25, zer5, sums_zero, mvs_zero, chs_zero] ) <;> ((repeat' apply And.intro) <;> first | exact True.intro | omega | (simp; done) | rfl))) ?_
  clear hx hx5
  intro x hx
  have hml := mvs_len s x
  by_cases hx5 : x < 5
  · have m4 : Int.tmod ((x : Int) + 4) 5 = ((x + 4) % 5 : Nat) := tmod5 (by omega)
    have m1 : Int.tmod ((x : Int) + 1) 5 = ((x + 1) % 5 : Nat) := tmod5 (by omega)
    have d4 : (x + 4) % 5 < 5 := Nat.mod_lt _ (by omega)
    have d1 : (x + 1) % 5 < 5 := Nat.mod_lt _ (by omega)
    have e126 := g126_eq (w := at0 (sums s 5) ((x + 1) % 5)) (n := 1) (by omega) (by omega)
    have hd : xr ((sums s 5).getD ((x + 4) % 5) 0) (rot ((sums s 5).getD ((x + 1) % 5) 0) 1) = dAt s x := rfl
    simp only [at0] at e126
    generalize hq4 : (x + 4) % 5 = q4 at m4 d4 hd
    generalize hq1 : (x + 1) % 5 = q1 at m1 d1 hd e126
    repeat (first
      | (apply axJ; (focus ((with_reducible constructor) <;> rfl)))
      | (apply awT mixedOK hΓ (by kernel_rfl); (simp (disch := omega) only [go_sem, ↓reduceIte, dk, Γr, ↓load_word, ↓lay_word, m4, m1, Nat.zero_add, Nat.mul_one, e126, hd] <;> with_reducible rfl))
      | ((first | apply awR hΓ | apply awG | apply awH mixedOK hΓ rfl (by kernel_rfl) | apply ovE rfl); (simp (disch := omega) only [go_sem, ↓reduceIte, dk, Γr, ↓load_word, ↓lay_word, m4, m1, Nat.zero_add, Nat.mul_one, e126, hd] <;> with_reducible rfl); exact trivial)
      | rfl)
    refine awp_loop_at (X := Nat) (fun y => (frame 129 [(1, .data (u64 k)), (2, .ptr 0 0), (4, .ptr 1 0), (5, .ptr 2 0), (7, .ptr 5 0), (8, .data (i64 x)), (9, .data (u64 (dAt s x))), (10, .data (i64 y))]))
      (fun y => [(0, .box (s.map U)), (1, .box ((zer 25).map U)), (2, .box ((sums s 5).map U)), (5, .box ((mvRow s (mvs s x) x y).map U))]) 6
      (fun y => y ≤ 5) (fun y => 5 - y) 0 (Nat.zero_le _) (Weak.v (by (simp [ConvF, lookV, Conv, ints, refsU, mvRow_zero, chRow_zero]; done)) (by (simp (disch := omega) only [TabSub, look, if_pos, if_neg, Obj.refsOK, refsOKs, AV.refsOK, decide_eq_true_eq, Bool.and_true, Bool.and_self, refsU, mvRow_zero, chRow_zero] ) <;> ((repeat' apply And.intro) <;> first | exact True.intro | omega | (simp; done) | rfl))) ?_
    intro y hy
    have hrl := mvRow_len s (mvs s x) x y
    by_cases hy5 : y < 5
    · have m : Int.tmod (2 * (x : Int) + 3 * (y : Int)) 5 = ((2 * x + 3 * y) % 5 : Nat) := tmod5 (by omega)
      have d : (2 * x + 3 * y) % 5 < 5 := Nat.mod_lt _ (by omega)
      have e127 := g127_eq hx5 hy5
      have ob : 0 ≤ offAt x y ∧ offAt x y ≤ 64 := by
        have : ∀ x : Fin 5, ∀ y : Fin 5, 0 ≤ offAt x y ∧ offAt x y ≤ 64 := by decide
        exact this ⟨x, hx5⟩ ⟨y, hy5⟩
      have exy : ((x : Int) + 5 * (y : Int)).toNat = x + 5 * y := by omega
      have e126 := g126_eq (w := xr (s.getD (x + 5 * y) 0) (dAt s x)) ob.1 ob.2
      have hset : (mvRow s (mvs s x) x y).set (y + 5 * ((2 * x + 3 * y) % 5)) (rot (xr (s.getD (x + 5 * y) 0) (dAt s x)) (offAt x y)) = mvRow s (mvs s x) x (y + 1) := by rw [mvRow_succ]; rfl
      generalize hq : (2 * x + 3 * y) % 5 = q at m d hset
      have eyq : ((y : Int) + 5 * (q : Int)).toNat = y + 5 * q := by omega
      repeat (first
        | (apply axJ; (focus ((with_reducible constructor) <;> rfl)))
        | (apply awT mixedOK hΓ (by kernel_rfl); (simp (disch := omega) only [go_sem, ↓reduceIte, dk, Γr, ↓load_word, ↓lay_word, m, exy, eyq, Nat.zero_add, Nat.mul_one, e127, e126, hset] <;> with_reducible rfl))
        | ((first | apply awR hΓ | apply awG | apply awH mixedOK hΓ rfl (by kernel_rfl) | apply ovE rfl); (simp (disch := omega) only [go_sem, ↓reduceIte, dk, Γr, ↓load_word, ↓lay_word, m, exy, eyq, Nat.zero_add, Nat.mul_one, e127, e126, hset] <;> with_reducible rfl); exact trivial)
        | rfl)
      exact ⟨y + 1, by omega, by omega, Weak.v (by (simp [ConvF, lookV, Conv, ints, refsU]; done)) (by (simp (disch := omega) only [TabSub, look, if_pos, if_neg, Obj.refsOK, refsOKs, AV.refsOK, decide_eq_true_eq, Bool.and_true, Bool.and_self, refsU] ) <;> ((repeat' apply And.intro) <;> first | exact True.intro | omega | (simp; done) | rfl))⟩
    have hy6 : y = 5 := by omega
    subst hy6
    have hms := mvs_succ s x
    repeat (first
      | (apply axJ; (focus ((with_reducible constructor) <;> rfl)))
      | (apply awT mixedOK hΓ (by kernel_rfl); (simp (disch := omega) only [go_sem, ↓reduceIte, dk] <;> with_reducible rfl))
      | ((first | apply awR hΓ | apply awG | apply awH mixedOK hΓ rfl (by kernel_rfl) | apply ovE rfl); (simp (disch := omega) only [go_sem, ↓reduceIte, dk] <;> with_reducible rfl); exact trivial)
      | rfl)
    exact ⟨x + 1, by omega, by omega, Weak.v (by (simp [ConvF, lookV, Conv, ints, refsU, hms]; done)) (by (simp (disch := omega) only [TabSub, look, if_pos, if_neg, Obj.refsOK, refsOKs, AV.refsOK, decide_eq_true_eq, Bool.and_true, Bool.and_self, refsU, hms] ) <;> ((repeat' apply And.intro) <;> first | exact True.intro | omega | (simp; done) | rfl))⟩
  have hx6 : x = 5 := by omega
  subst hx6
  have hM0 : ∃ M, mvs s 5 = M := ⟨_, rfl⟩
  obtain ⟨M, hM⟩ := hM0
  rw [hM] at hml
  rw [hM]
  have hR : ∀ k : Int, (chs M 5).set 0 (xr ((chs M 5).getD 0 0) k) = round s k := fun k => by simp only [round, hM]; rfl
  clear hM
  repeat (first
    | (apply axJ; (focus ((with_reducible constructor) <;> rfl)))
    | (apply awT mixedOK hΓ (by kernel_rfl); (simp (disch := omega) only [go_sem, ↓reduceIte, ↓lk, dk] <;> with_reducible rfl))
    | ((first | apply awR hΓ | apply awG | apply awH mixedOK hΓ rfl (by kernel_rfl) | apply ovE rfl); (simp (disch := omega) only [go_sem, ↓reduceIte, ↓lk, dk] <;> with_reducible rfl); exact trivial)
    | rfl)
  refine awp_loop_at (X := Nat) (fun x => (frame 129 [(1, .data (u64 k)), (4, .ptr 1 0), (7, .ptr 5 0), (11, .ptr 8 0), (12, .data (i64 x))]))
    (fun x => [(1, .box ((zer 25).map U)), (5, .box (M.map U)), (8, .box ((chs M x).map U))]) 9
    (fun x => x ≤ 5) (fun x => 5 - x) 0 (Nat.zero_le _) (Weak.v (by (simp [ConvF, lookV, Conv, ints, refsU, U_data, zer25, zer5, sums_zero, mvs_zero, chs_zero]; done)) (by (simp (disch := omega) only [TabSub, look, if_pos, if_neg, Obj.refsOK, refsOKs, AV.refsOK, decide_eq_true_eq, Bool.and_true, Bool.and_self, refsU, U_data, zer25, zer5, sums_zero, mvs_zero, chs_zero] ) <;> ((repeat' apply And.intro) <;> first | exact True.intro | omega | (simp; done) | rfl))) ?_
  clear hx hx5
  intro x hx
  have hcl := chs_len M x
  by_cases hx5 : x < 5
  · repeat (first
    | (apply axJ; (focus ((with_reducible constructor) <;> rfl)))
    | (apply awT mixedOK hΓ (by kernel_rfl); (simp (disch := omega) only [go_sem, ↓reduceIte, dk] <;> with_reducible rfl))
    | ((first | apply awR hΓ | apply awG | apply awH mixedOK hΓ rfl (by kernel_rfl) | apply ovE rfl); (simp (disch := omega) only [go_sem, ↓reduceIte, dk] <;> with_reducible rfl); exact trivial)
    | rfl)
    refine awp_loop_at (X := Nat) (fun y => (frame 129 [(1, .data (u64 k)), (4, .ptr 1 0), (7, .ptr 5 0), (11, .ptr 8 0), (12, .data (i64 x)), (13, .data (i64 y))]))
      (fun y => [(1, .box ((zer 25).map U)), (5, .box (M.map U)), (8, .box ((chRow M (chs M x) x y).map U))]) 9
      (fun y => y ≤ 5) (fun y => 5 - y) 0 (Nat.zero_le _) (Weak.v (by (simp [ConvF, lookV, Conv, ints, refsU, mvRow_zero, chRow_zero]; done)) (by (simp (disch := omega) only [TabSub, look, if_pos, if_neg, Obj.refsOK, refsOKs, AV.refsOK, decide_eq_true_eq, Bool.and_true, Bool.and_self, refsU, mvRow_zero, chRow_zero] ) <;> ((repeat' apply And.intro) <;> first | exact True.intro | omega | (simp; done) | rfl))) ?_
    intro y hy
    have hrl := chRow_len M (chs M x) x y
    by_cases hy5 : y < 5
    · have m1 : Int.tmod ((x : Int) + 1) 5 = ((x + 1) % 5 : Nat) := tmod5 (by omega)
      have m2 : Int.tmod ((x : Int) + 2) 5 = ((x + 2) % 5 : Nat) := tmod5 (by omega)
      have d1 : (x + 1) % 5 < 5 := Nat.mod_lt _ (by omega)
      have d2 : (x + 2) % 5 < 5 := Nat.mod_lt _ (by omega)
      have exy : ((x : Int) + 5 * (y : Int)).toNat = x + 5 * y := by omega
      have hset : (chRow M (chs M x) x y).set (x + 5 * y) (xr (M.getD (x + 5 * y) 0) (nd (nt (M.getD ((x + 1) % 5 + 5 * y) 0)) (M.getD ((x + 2) % 5 + 5 * y) 0))) = chRow M (chs M x) x (y + 1) := by rw [chRow_succ]; rfl
      generalize hq1 : (x + 1) % 5 = q1 at m1 d1 hset
      generalize hq2 : (x + 2) % 5 = q2 at m2 d2 hset
      have e1 : ((q1 : Int) + 5 * (y : Int)).toNat = q1 + 5 * y := by omega
      have e2 : ((q2 : Int) + 5 * (y : Int)).toNat = q2 + 5 * y := by omega
      repeat (first
        | (apply axJ; (focus ((with_reducible constructor) <;> rfl)))
        | (apply awT mixedOK hΓ (by kernel_rfl); (simp (disch := omega) only [go_sem, ↓reduceIte, dk, ↓load_word, ↓lay_word, m1, m2, exy, e1, e2, Nat.zero_add, Nat.mul_one, nt_eq, hset] <;> with_reducible rfl))
        | ((first | apply awR hΓ | apply awG | apply awH mixedOK hΓ rfl (by kernel_rfl) | apply ovE rfl); (simp (disch := omega) only [go_sem, ↓reduceIte, dk, ↓load_word, ↓lay_word, m1, m2, exy, e1, e2, Nat.zero_add, Nat.mul_one, nt_eq, hset] <;> with_reducible rfl); exact trivial)
        | rfl)
      exact ⟨y + 1, by omega, by omega, Weak.v (by (simp [ConvF, lookV, Conv, ints, refsU]; done)) (by (simp (disch := omega) only [TabSub, look, if_pos, if_neg, Obj.refsOK, refsOKs, AV.refsOK, decide_eq_true_eq, Bool.and_true, Bool.and_self, refsU] ) <;> ((repeat' apply And.intro) <;> first | exact True.intro | omega | (simp; done) | rfl))⟩
    have hy6 : y = 5 := by omega
    subst hy6
    have hms := chs_succ M x
    repeat (first
      | (apply axJ; (focus ((with_reducible constructor) <;> rfl)))
      | (apply awT mixedOK hΓ (by kernel_rfl); (simp (disch := omega) only [go_sem, ↓reduceIte, dk] <;> with_reducible rfl))
      | ((first | apply awR hΓ | apply awG | apply awH mixedOK hΓ rfl (by kernel_rfl) | apply ovE rfl); (simp (disch := omega) only [go_sem, ↓reduceIte, dk] <;> with_reducible rfl); exact trivial)
      | rfl)
    exact ⟨x + 1, by omega, by omega, Weak.v (by (simp [ConvF, lookV, Conv, ints, refsU, hms]; done)) (by (simp (disch := omega) only [TabSub, look, if_pos, if_neg, Obj.refsOK, refsOKs, AV.refsOK, decide_eq_true_eq, Bool.and_true, Bool.and_self, refsU, hms] ) <;> ((repeat' apply And.intro) <;> first | exact True.intro | omega | (simp; done) | rfl))⟩
  have hx6 : x = 5 := by omega
  subst hx6
  have hRl := round_len s k
  repeat (first
    | (apply axJ; (focus ((with_reducible constructor) <;> rfl)))
    | (apply awT mixedOK hΓ (by kernel_rfl); (simp (disch := omega) only [go_sem, ↓reduceIte, dk, ↓load_word, ↓load_arr, ↓lay_word, lay_arr, U_data, Nat.zero_mul, Nat.zero_add, Nat.mul_one, Int.toNat_zero, hR] <;> with_reducible rfl))
    | ((first | apply awR hΓ | apply awG | apply awH mixedOK hΓ rfl (by kernel_rfl) | apply ovE rfl); (simp (disch := omega) only [go_sem, ↓reduceIte, dk, ↓load_word, ↓load_arr, ↓lay_word, lay_arr, U_data, Nat.zero_mul, Nat.zero_add, Nat.mul_one, Int.toNat_zero, hR] <;> with_reducible rfl); exact trivial)
    | rfl)
end Go.Ab
