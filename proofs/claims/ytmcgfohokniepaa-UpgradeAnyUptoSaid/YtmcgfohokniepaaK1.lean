/-
  One text of the proof (own work): contracts of functions of the program, by the abstract machine.
-/
import Derived.Test.YtmcgfohokniepaaK0
set_option linter.unusedVariables false
set_option linter.unusedSimpArgs false
namespace Go.Ab
open Go Go.RowKit Go.Proofs
set_option maxRecDepth 4000
set_option maxHeartbeats 4000000

/-! ### Words of 64 bits -/
def xr (a b : Int) : Int := IntKind.u64.wrap (BitVec.ofInt IntKind.u64.bits a ^^^ BitVec.ofInt IntKind.u64.bits b).toNat
def nd (a b : Int) : Int := IntKind.u64.wrap (BitVec.ofInt IntKind.u64.bits a &&& BitVec.ofInt IntKind.u64.bits b).toNat
def orr (a b : Int) : Int := IntKind.u64.wrap (BitVec.ofInt IntKind.u64.bits a ||| BitVec.ofInt IntKind.u64.bits b).toNat
def nt (a : Int) : Int := xr IntKind.u64.max a
def sl (a n : Int) : Int := IntKind.u64.wrap (a * 2 ^ (min n.toNat IntKind.u64.bits))
def sr (a n : Int) : Int := a.fdiv (2 ^ (min n.toNat IntKind.u64.bits))
@[go_sem] theorem abits_xor (a b : Int) : abits .xor .u64 a b = some (xr a b) := rfl
@[go_sem] theorem abits_and (a b : Int) : abits .and .u64 a b = some (nd a b) := rfl
@[go_sem] theorem abits_or (a b : Int) : abits .or .u64 a b = some (orr a b) := rfl
theorem aun_xor (a : Int) : aun .xor (.data (.int .u64 a)) = some (.data (.int .u64 (nt a))) := rfl
theorem shl_in {a b : Int} (h : 0 ≤ b) : ashift .shl .u64 a b = some (sl a b) := by
  unfold ashift
  rw [if_neg (by omega)]
  rfl
theorem shr_in {a b : Int} (h : 0 ≤ b) : ashift .shr .u64 a b = some (sr a b) := by
  unfold ashift
  rw [if_neg (by omega)]
  rfl
/-- A word, turned to the left. -/
def rot (w n : Int) : Int := orr (sl w n) (sr w (64 - n))
noncomputable def g126 : List D → Option D := encSpec (fun x : Int × Int => [u64 x.1, i64 x.2]) (fun x => 0 ≤ x.2 ∧ x.2 ≤ 64) (fun x => u64 (rot x.1 x.2))
theorem g126_eq {w n : Int} (h0 : 0 ≤ n) (h1 : n ≤ 64) : g126 [.int .u64 w, .int .i64 n] = some (.int .u64 (rot w n)) := encSpec_eq (x := (w, n)) ⟨h0, h1⟩ fun y hy => by
  obtain ⟨y1, y2⟩ := y
  simp only [List.cons.injEq, and_true] at hy
  rw [u64_inj _ _ hy.1, i64_inj _ _ hy.2]
theorem f126_ok : PureOK Try.prog 126 true g126 := by
  have hΓ := Γ0_ok
  refine pure_enc (n := 15) (rs := [.tmp 4]) Try.func126 (by kernel_rfl) rfl (by kernel_rfl) (by kernel_rfl) ?_
  rintro ⟨w, n⟩ ⟨h0, h1⟩
  dsimp only at h0 h1
  refine ⟨fun _ => .int _ _, fun c hz0 => ?_⟩
  rw [start_frame (by simp)]; simp only [enumV, go_sem, emptyH]
  repeat (first
    | refine awp_seq ?_ | refine awp_block ?_ | refine awp_ret ?_ | refine awp_skip ?_ | refine awp_exit ?_ | refine awp_label ?_
    | refine then_normal ?_ | refine then_ret ?_ | refine then_exit ?_ | refine block_normal ?_ | refine block_ret ?_ | refine block_exit ?_ | refine block_out rfl ?_
    | (apply awp_reg hΓ; (focus (simp (disch := omega) only [go_sem, ↓reduceIte, decide_eq_true, decide_eq_false, if_pos, if_neg, wrap_in, maxLen, wrapu_in, ↓shl_in, ↓shr_in]; with_reducible rfl)))
    | (apply awp_regf mixedOK hΓ (by kernel_rfl); (focus (simp (disch := omega) only [go_sem, ↓reduceIte, decide_eq_true, decide_eq_false, if_pos, if_neg, wrap_in, maxLen, wrapu_in, ↓shl_in, ↓shr_in]; with_reducible rfl)); (focus (simp only [go_sem]; with_reducible rfl)))
    | (apply awp_regt mixedOK hΓ rfl; (focus kernel_rfl); (focus (simp (disch := omega) only [go_sem, ↓reduceIte, decide_eq_true, decide_eq_false, if_pos, if_neg, wrap_in, maxLen, wrapu_in, ↓shl_in, ↓shr_in]; with_reducible rfl)); (focus (simp only [go_sem]; with_reducible rfl)); (focus (simp (disch := omega) only [go_sem, ↓reduceIte, decide_eq_true, decide_eq_false, if_pos, if_neg, wrap_in, maxLen, wrapu_in, ↓shl_in, ↓shr_in]; with_reducible rfl)))
    | (apply awp_cond_t; (focus (simp (disch := omega) only [go_sem, ↓reduceIte, decide_eq_true, decide_eq_false, if_pos, if_neg, wrap_in, maxLen, wrapu_in, ↓shl_in, ↓shr_in]; done))) | (apply awp_cond_f; (focus (simp (disch := omega) only [go_sem, ↓reduceIte, decide_eq_true, decide_eq_false, if_pos, if_neg, wrap_in, maxLen, wrapu_in, ↓shl_in, ↓shr_in]; done)))
    | (apply ret_e; (focus (simp (disch := omega) only [go_sem, ↓reduceIte, decide_eq_true, decide_eq_false, if_pos, if_neg, wrap_in, maxLen, wrapu_in, ↓shl_in, ↓shr_in]; with_reducible rfl)); (focus (simp (disch := omega) only [go_sem, ↓reduceIte, decide_eq_true, decide_eq_false, if_pos, if_neg, wrap_in, maxLen, wrapu_in, ↓shl_in, ↓shr_in]; with_reducible rfl))) | (apply end_e; (focus (simp (disch := omega) only [go_sem, ↓reduceIte, decide_eq_true, decide_eq_false, if_pos, if_neg, wrap_in, maxLen, wrapu_in, ↓shl_in, ↓shr_in]; with_reducible rfl)); (focus (simp (disch := omega) only [go_sem, ↓reduceIte, decide_eq_true, decide_eq_false, if_pos, if_neg, wrap_in, maxLen, wrapu_in, ↓shl_in, ↓shr_in]; with_reducible rfl)))
    | rfl)
/-! ### Tables -/
def offs : List Int := [0, 1, 62, 28, 27, 36, 44, 6, 55, 20, 3, 10, 43, 25, 39, 41, 45, 15, 21, 8, 18, 2, 61, 56, 14]
def offAt (x y : Nat) : Int := offs.getD (x + 5 * y) 0
noncomputable def g127 : List D → Option D := encSpec (fun x : Nat × Nat => [i64 x.1, i64 x.2]) (fun x => x.1 < 5 ∧ x.2 < 5) (fun x => i64 (offAt x.1 x.2))
theorem g127_eq {x y : Nat} (h0 : x < 5) (h1 : y < 5) : g127 [.int .i64 x, .int .i64 y] = some (.int .i64 (offAt x y)) := encSpec_eq (x := (x, y)) ⟨h0, h1⟩ fun z hz => by
  obtain ⟨z1, z2⟩ := z
  simp only [List.cons.injEq, and_true] at hz
  have h1 := i64_inj _ _ hz.1
  have h2 := i64_inj _ _ hz.2
  obtain rfl : z1 = x := by omega
  obtain rfl : z2 = y := by omega
  rfl
theorem row_getD {L : List Int} {k : Nat} (h : k < L.length) : (L.map i64)[k]? = some (i64 (L.getD k 0)) := by
  simp [h]
theorem f127_ok : PureOK Try.prog 127 true g127 := by
  have hΓ := Γ0_ok
  refine pure_enc (n := 14) (rs := [.tmp 4]) Try.func127 (by kernel_rfl) rfl (by kernel_rfl) (by kernel_rfl) ?_
  rintro ⟨x, y⟩ ⟨h0, h1⟩
  dsimp only at h0 h1
  refine ⟨fun _ => .int _ _, fun c hz0 => ?_⟩
  have ho : ([.int .i64 0, .int .i64 1, .int .i64 62, .int .i64 28, .int .i64 27, .int .i64 36, .int .i64 44, .int .i64 6, .int .i64 55, .int .i64 20, .int .i64 3, .int .i64 10, .int .i64 43, .int .i64 25, .int .i64 39, .int .i64 41, .int .i64 45, .int .i64 15, .int .i64 21, .int .i64 8, .int .i64 18, .int .i64 2, .int .i64 61, .int .i64 56, .int .i64 14] : List D) = offs.map i64 := rfl
  have hl : offs.length = 25 := rfl
  have hr : (offs.map i64)[((x : Int) + 5 * (y : Int)).toNat]? = some (i64 (offAt x y)) := by
    rw [show ((x : Int) + 5 * (y : Int)).toNat = x + 5 * y by omega]
    exact row_getD (by omega)
  rw [start_frame (by simp)]; simp only [enumV, go_sem, emptyH]
  repeat (first
    | refine awp_seq ?_ | refine awp_block ?_ | refine awp_ret ?_ | refine awp_skip ?_ | refine awp_exit ?_ | refine awp_label ?_
    | refine then_normal ?_ | refine then_ret ?_ | refine then_exit ?_ | refine block_normal ?_ | refine block_ret ?_ | refine block_exit ?_ | refine block_out rfl ?_
    | (apply awp_reg hΓ; (focus (simp (disch := omega) only [go_sem, ↓reduceIte, ↓map_lit, ↓List.map_cons, ↓List.map_nil, decide_eq_true, decide_eq_false, if_pos, if_neg, wrap_in, maxLen, ho, hl, ↓hr]; with_reducible rfl)))
    | (apply awp_regf mixedOK hΓ (by kernel_rfl); (focus (simp (disch := omega) only [go_sem, ↓reduceIte, ↓map_lit, ↓List.map_cons, ↓List.map_nil, decide_eq_true, decide_eq_false, if_pos, if_neg, wrap_in, maxLen, ho, hl, ↓hr]; with_reducible rfl)); (focus (simp only [go_sem]; with_reducible rfl)))
    | (apply awp_regt mixedOK hΓ rfl; (focus kernel_rfl); (focus (simp (disch := omega) only [go_sem, ↓reduceIte, ↓map_lit, ↓List.map_cons, ↓List.map_nil, decide_eq_true, decide_eq_false, if_pos, if_neg, wrap_in, maxLen, ho, hl, ↓hr]; with_reducible rfl)); (focus (simp only [go_sem]; with_reducible rfl)); (focus (simp (disch := omega) only [go_sem, ↓reduceIte, ↓map_lit, ↓List.map_cons, ↓List.map_nil, decide_eq_true, decide_eq_false, if_pos, if_neg, wrap_in, maxLen, ho, hl, ↓hr]; with_reducible rfl)))
    | (apply awp_cond_t; (focus (simp (disch := omega) only [go_sem, ↓reduceIte, ↓map_lit, ↓List.map_cons, ↓List.map_nil, decide_eq_true, decide_eq_false, if_pos, if_neg, wrap_in, maxLen, ho, hl, ↓hr]; done))) | (apply awp_cond_f; (focus (simp (disch := omega) only [go_sem, ↓reduceIte, ↓map_lit, ↓List.map_cons, ↓List.map_nil, decide_eq_true, decide_eq_false, if_pos, if_neg, wrap_in, maxLen, ho, hl, ↓hr]; done)))
    | (apply ret_e; (focus (simp (disch := omega) only [go_sem, ↓reduceIte, ↓map_lit, ↓List.map_cons, ↓List.map_nil, decide_eq_true, decide_eq_false, if_pos, if_neg, wrap_in, maxLen, ho, hl, ↓hr]; with_reducible rfl)); (focus (simp (disch := omega) only [go_sem, ↓reduceIte, ↓map_lit, ↓List.map_cons, ↓List.map_nil, decide_eq_true, decide_eq_false, if_pos, if_neg, wrap_in, maxLen, ho, hl, ↓hr]; with_reducible rfl))) | (apply end_e; (focus (simp (disch := omega) only [go_sem, ↓reduceIte, ↓map_lit, ↓List.map_cons, ↓List.map_nil, decide_eq_true, decide_eq_false, if_pos, if_neg, wrap_in, maxLen, ho, hl, ↓hr]; with_reducible rfl)); (focus (simp (disch := omega) only [go_sem, ↓reduceIte, ↓map_lit, ↓List.map_cons, ↓List.map_nil, decide_eq_true, decide_eq_false, if_pos, if_neg, wrap_in, maxLen, ho, hl, ↓hr]; with_reducible rfl)))
    | rfl)
def consts : List Int := [0x0000000000000001, 0x0000000000008082, 0x800000000000808a, 0x8000000080008000, 0x000000000000808b, 0x0000000080000001, 0x8000000080008081, 0x8000000000008009, 0x000000000000008a, 0x0000000000000088, 0x0000000080008009, 0x000000008000000a, 0x000000008000808b, 0x800000000000008b, 0x8000000000008089, 0x8000000000008003, 0x8000000000008002, 0x8000000000000080, 0x000000000000800a, 0x800000008000000a, 0x8000000080008081, 0x8000000000008080, 0x0000000080000001, 0x8000000080008008]
def constAt (i : Nat) : Int := consts.getD i 0
noncomputable def g108 : List D → Option D := encSpec (fun x : Nat => [i64 x]) (fun x => x < 24) (fun x => u64 (constAt x))
theorem g108_eq {x : Nat} (h0 : x < 24) : g108 [.int .i64 x] = some (.int .u64 (constAt x)) := encSpec_eq (x := x) h0 fun z hz => by
  simp only [List.cons.injEq, and_true] at hz
  have h1 := i64_inj _ _ hz
  obtain rfl : z = x := by omega
  rfl
theorem row_getDu {L : List Int} {k : Nat} (h : k < L.length) : (L.map u64)[k]? = some (u64 (L.getD k 0)) := by
  simp [h]
theorem f108_ok : PureOK Try.prog 108 true g108 := by
  have hΓ := Γ0_ok
  refine pure_enc (n := 9) (rs := [.tmp 2]) Try.func108 (by kernel_rfl) rfl (by kernel_rfl) (by kernel_rfl) ?_
  intro x h0
  refine ⟨fun _ => .int _ _, fun c hz0 => ?_⟩
  have ho : ([.int .u64 1, .int .u64 32898, .int .u64 9223372036854808714, .int .u64 9223372039002292224, .int .u64 32907, .int .u64 2147483649, .int .u64 9223372039002292353, .int .u64 9223372036854808585, .int .u64 138, .int .u64 136, .int .u64 2147516425, .int .u64 2147483658, .int .u64 2147516555, .int .u64 9223372036854775947, .int .u64 9223372036854808713, .int .u64 9223372036854808579, .int .u64 9223372036854808578, .int .u64 9223372036854775936, .int .u64 32778, .int .u64 9223372039002259466, .int .u64 9223372039002292353, .int .u64 9223372036854808704, .int .u64 2147483649, .int .u64 9223372039002292232] : List D) = consts.map u64 := rfl
  have hl : consts.length = 24 := rfl
  have hr : (consts.map u64)[(x : Int).toNat]? = some (u64 (constAt x)) := by
    rw [Int.toNat_natCast]
    exact row_getDu (by omega)
  rw [start_frame (by simp)]; simp only [enumV, go_sem, emptyH]
  repeat (first
    | refine awp_seq ?_ | refine awp_block ?_ | refine awp_ret ?_ | refine awp_skip ?_ | refine awp_exit ?_ | refine awp_label ?_
    | refine then_normal ?_ | refine then_ret ?_ | refine then_exit ?_ | refine block_normal ?_ | refine block_ret ?_ | refine block_exit ?_ | refine block_out rfl ?_
    | (apply awp_reg hΓ; (focus (simp (disch := omega) only [go_sem, ↓reduceIte, ↓map_lit, ↓List.map_cons, ↓List.map_nil, decide_eq_true, decide_eq_false, if_pos, if_neg, wrap_in, maxLen, ho, hl, ↓hr]; with_reducible rfl)))
    | (apply awp_regf mixedOK hΓ (by kernel_rfl); (focus (simp (disch := omega) only [go_sem, ↓reduceIte, ↓map_lit, ↓List.map_cons, ↓List.map_nil, decide_eq_true, decide_eq_false, if_pos, if_neg, wrap_in, maxLen, ho, hl, ↓hr]; with_reducible rfl)); (focus (simp only [go_sem]; with_reducible rfl)))
    | (apply awp_regt mixedOK hΓ rfl; (focus kernel_rfl); (focus (simp (disch := omega) only [go_sem, ↓reduceIte, ↓map_lit, ↓List.map_cons, ↓List.map_nil, decide_eq_true, decide_eq_false, if_pos, if_neg, wrap_in, maxLen, ho, hl, ↓hr]; with_reducible rfl)); (focus (simp only [go_sem]; with_reducible rfl)); (focus (simp (disch := omega) only [go_sem, ↓reduceIte, ↓map_lit, ↓List.map_cons, ↓List.map_nil, decide_eq_true, decide_eq_false, if_pos, if_neg, wrap_in, maxLen, ho, hl, ↓hr]; with_reducible rfl)))
    | (apply awp_cond_t; (focus (simp (disch := omega) only [go_sem, ↓reduceIte, ↓map_lit, ↓List.map_cons, ↓List.map_nil, decide_eq_true, decide_eq_false, if_pos, if_neg, wrap_in, maxLen, ho, hl, ↓hr]; done))) | (apply awp_cond_f; (focus (simp (disch := omega) only [go_sem, ↓reduceIte, ↓map_lit, ↓List.map_cons, ↓List.map_nil, decide_eq_true, decide_eq_false, if_pos, if_neg, wrap_in, maxLen, ho, hl, ↓hr]; done)))
    | (apply ret_e; (focus (simp (disch := omega) only [go_sem, ↓reduceIte, ↓map_lit, ↓List.map_cons, ↓List.map_nil, decide_eq_true, decide_eq_false, if_pos, if_neg, wrap_in, maxLen, ho, hl, ↓hr]; with_reducible rfl)); (focus (simp (disch := omega) only [go_sem, ↓reduceIte, ↓map_lit, ↓List.map_cons, ↓List.map_nil, decide_eq_true, decide_eq_false, if_pos, if_neg, wrap_in, maxLen, ho, hl, ↓hr]; with_reducible rfl))) | (apply end_e; (focus (simp (disch := omega) only [go_sem, ↓reduceIte, ↓map_lit, ↓List.map_cons, ↓List.map_nil, decide_eq_true, decide_eq_false, if_pos, if_neg, wrap_in, maxLen, ho, hl, ↓hr]; with_reducible rfl)); (focus (simp (disch := omega) only [go_sem, ↓reduceIte, ↓map_lit, ↓List.map_cons, ↓List.map_nil, decide_eq_true, decide_eq_false, if_pos, if_neg, wrap_in, maxLen, ho, hl, ↓hr]; with_reducible rfl)))
    | rfl)
  simp [constAt, hl, h0]
end Go.Ab
