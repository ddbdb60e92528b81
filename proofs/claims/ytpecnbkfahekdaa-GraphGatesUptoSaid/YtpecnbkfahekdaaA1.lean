/-
  One text of the proof (own work): contracts of functions of the program, by the abstract machine.
-/
import Derived.Test.YtpecnbkfahekdaaTy18
set_option linter.unusedVariables false
set_option linter.unusedSimpArgs false
namespace Go.Ab
open Go Go.RowKit Go.Proofs
set_option maxRecDepth 4000
set_option maxHeartbeats 1000000

theorem mixedOK : Try.prog.follows .mixedOrders = true := by kernel_rfl
@[go_sem] abbrev i64 (n : Int) : D := .int .i64 n

def s54 : List D → Option D
  | [.int _ _] => some (.bool false)
  | _ => none
def Γ0 : FuncId → Option CSpec := fun _ => none
theorem f54_ok : PureOK Try.prog 54 true s54 := by
  have hΓ : ∀ f s, Γ0 f = some s → SpecOK Try.prog f s := fun _ _ h => by cases h
  refine pure_of_awp (n := 6) (rs := [.tmp 2]) Try.func54 (by kernel_rfl) rfl (by kernel_rfl) (by kernel_rfl) fun ds d hd => ?_
  unfold s54 at hd
  split at hd
  · rename_i k n
    simp only [Option.some.injEq] at hd
    subst hd
    refine ⟨fun _ => .bool _, fun c hz0 => ?_⟩
    simp only [start, go_sem, emptyH, List.replicate_succ, List.replicate_zero]
    repeat (first
      | refine awp_seq ?_ | refine awp_block ?_ | refine awp_ret ?_ | refine awp_skip ?_ | refine awp_exit ?_ | refine awp_label ?_
      | refine then_normal ?_ | refine then_ret ?_ | refine then_exit ?_ | refine block_normal ?_ | refine block_ret ?_ | refine block_exit ?_ | refine block_out rfl ?_
      | (apply awp_reg hΓ; (focus (simp (disch := omega) only [go_sem, bne_self_eq_false]; with_reducible rfl)))
      | (apply awp_regf mixedOK hΓ (by kernel_rfl); (focus (simp (disch := omega) only [go_sem, bne_self_eq_false]; with_reducible rfl)); (focus (simp only [go_sem]; with_reducible rfl)))
      | (apply awp_regt mixedOK hΓ rfl; (focus kernel_rfl); (focus (simp (disch := omega) only [go_sem, bne_self_eq_false]; with_reducible rfl)); (focus (simp only [go_sem]; with_reducible rfl)); (focus (simp (disch := omega) only [go_sem, bne_self_eq_false]; with_reducible rfl)))
      | (apply awp_cond_t; (focus (simp (disch := omega) only [go_sem, bne_self_eq_false]; done))) | (apply awp_cond_f; (focus (simp (disch := omega) only [go_sem, bne_self_eq_false]; done)))
      | (apply ret_e; (focus (simp (disch := omega) only [go_sem, bne_self_eq_false]; with_reducible rfl)); (focus (simp (disch := omega) only [go_sem, bne_self_eq_false]; with_reducible rfl))) | (apply end_e; (focus (simp (disch := omega) only [go_sem, bne_self_eq_false]; with_reducible rfl)); (focus (simp (disch := omega) only [go_sem, bne_self_eq_false]; with_reducible rfl)))
      | rfl)
  · cases hd

def cmpInt (a b : Int) : Int := if a < b then -1 else if b < a then 1 else 0
def s49 : List D → Option D
  | [.int .i64 a, .int .i64 b] => some (i64 (cmpInt a b))
  | _ => none
def Γ1 : FuncId → Option CSpec := fun f => if f = 54 then some (.pure true s54) else none
theorem Γ1_ok : ∀ f s, Γ1 f = some s → SpecOK Try.prog f s := by
  intro f s h
  unfold Γ1 at h
  split at h
  · rename_i hf; cases h; subst hf; exact f54_ok
  · cases h
theorem f49_ok : PureOK Try.prog 49 true s49 := by
  have hΓ := Γ1_ok
  refine pure_of_awp (n := 20) (rs := [.tmp 4]) Try.func49 (by kernel_rfl) rfl (by kernel_rfl) (by kernel_rfl) fun ds d hd => ?_
  unfold s49 at hd
  split at hd
  · rename_i a b
    simp only [Option.some.injEq] at hd
    subst hd
    refine ⟨fun _ => .int _ _, fun c hz0 => ?_⟩
    simp only [start, go_sem, emptyH, List.replicate_succ, List.replicate_zero]
    repeat (first
      | refine awp_seq ?_ | refine awp_block ?_ | refine awp_ret ?_ | refine awp_skip ?_ | refine awp_exit ?_ | refine awp_label ?_
      | refine then_normal ?_ | refine then_ret ?_ | refine then_exit ?_ | refine block_normal ?_ | refine block_ret ?_ | refine block_exit ?_ | refine block_out rfl ?_
      | (apply awp_reg hΓ; (focus (simp (disch := omega) only [go_sem, Γ1, s54]; with_reducible rfl)))
      | (apply awp_regf mixedOK hΓ (by kernel_rfl); (focus (simp (disch := omega) only [go_sem, Γ1, s54]; with_reducible rfl)); (focus (simp only [go_sem]; with_reducible rfl)))
      | (apply awp_regt mixedOK hΓ rfl; (focus kernel_rfl); (focus (simp (disch := omega) only [go_sem, Γ1, s54]; with_reducible rfl)); (focus (simp only [go_sem]; with_reducible rfl)); (focus (simp (disch := omega) only [go_sem, Γ1, s54]; with_reducible rfl)))
      | (apply awp_cond_t; (focus (simp (disch := omega) only [go_sem, Γ1, s54]; done))) | (apply awp_cond_f; (focus (simp (disch := omega) only [go_sem, Γ1, s54]; done)))
      | (apply ret_e; (focus (simp (disch := omega) only [go_sem, Γ1, s54]; with_reducible rfl)); (focus (simp (disch := omega) only [go_sem, Γ1, s54]; with_reducible rfl))) | (apply end_e; (focus (simp (disch := omega) only [go_sem, Γ1, s54]; with_reducible rfl)); (focus (simp (disch := omega) only [go_sem, Γ1, s54]; with_reducible rfl)))
      | rfl)
    refine awp_cond (by simp (disch := omega) only [go_sem]; rfl) (fun hc => ?_) (fun hc => ?_)
    · repeat (first
      | refine awp_seq ?_ | refine awp_block ?_ | refine awp_ret ?_ | refine awp_skip ?_ | refine awp_exit ?_ | refine awp_label ?_
      | refine then_normal ?_ | refine then_ret ?_ | refine then_exit ?_ | refine block_normal ?_ | refine block_ret ?_ | refine block_exit ?_ | refine block_out rfl ?_
      | (apply awp_reg hΓ; (focus (simp (disch := omega) only [go_sem, Γ1, s54]; with_reducible rfl)))
      | (apply awp_regf mixedOK hΓ (by kernel_rfl); (focus (simp (disch := omega) only [go_sem, Γ1, s54]; with_reducible rfl)); (focus (simp only [go_sem]; with_reducible rfl)))
      | (apply awp_regt mixedOK hΓ rfl; (focus kernel_rfl); (focus (simp (disch := omega) only [go_sem, Γ1, s54]; with_reducible rfl)); (focus (simp only [go_sem]; with_reducible rfl)); (focus (simp (disch := omega) only [go_sem, Γ1, s54]; with_reducible rfl)))
      | (apply awp_cond_t; (focus (simp (disch := omega) only [go_sem, Γ1, s54]; done))) | (apply awp_cond_f; (focus (simp (disch := omega) only [go_sem, Γ1, s54]; done)))
      | (apply ret_e; (focus (simp (disch := omega) only [go_sem, Γ1, s54]; with_reducible rfl)); (focus (simp (disch := omega) only [go_sem, Γ1, s54]; with_reducible rfl))) | (apply end_e; (focus (simp (disch := omega) only [go_sem, Γ1, s54]; with_reducible rfl)); (focus (simp (disch := omega) only [go_sem, Γ1, s54]; with_reducible rfl)))
      | rfl)
      simp_all [cmpInt]
    · repeat (first
      | refine awp_seq ?_ | refine awp_block ?_ | refine awp_ret ?_ | refine awp_skip ?_ | refine awp_exit ?_ | refine awp_label ?_
      | refine then_normal ?_ | refine then_ret ?_ | refine then_exit ?_ | refine block_normal ?_ | refine block_ret ?_ | refine block_exit ?_ | refine block_out rfl ?_
      | (apply awp_reg hΓ; (focus (simp (disch := omega) only [go_sem, Γ1, s54]; with_reducible rfl)))
      | (apply awp_regf mixedOK hΓ (by kernel_rfl); (focus (simp (disch := omega) only [go_sem, Γ1, s54]; with_reducible rfl)); (focus (simp only [go_sem]; with_reducible rfl)))
      | (apply awp_regt mixedOK hΓ rfl; (focus kernel_rfl); (focus (simp (disch := omega) only [go_sem, Γ1, s54]; with_reducible rfl)); (focus (simp only [go_sem]; with_reducible rfl)); (focus (simp (disch := omega) only [go_sem, Γ1, s54]; with_reducible rfl)))
      | (apply awp_cond_t; (focus (simp (disch := omega) only [go_sem, Γ1, s54]; done))) | (apply awp_cond_f; (focus (simp (disch := omega) only [go_sem, Γ1, s54]; done)))
      | (apply ret_e; (focus (simp (disch := omega) only [go_sem, Γ1, s54]; with_reducible rfl)); (focus (simp (disch := omega) only [go_sem, Γ1, s54]; with_reducible rfl))) | (apply end_e; (focus (simp (disch := omega) only [go_sem, Γ1, s54]; with_reducible rfl)); (focus (simp (disch := omega) only [go_sem, Γ1, s54]; with_reducible rfl)))
      | rfl)
      refine awp_cond (by simp (disch := omega) only [go_sem]; rfl) (fun hc => ?_) (fun hc => ?_)
      · repeat (first
        | refine awp_seq ?_ | refine awp_block ?_ | refine awp_ret ?_ | refine awp_skip ?_ | refine awp_exit ?_ | refine awp_label ?_
        | refine then_normal ?_ | refine then_ret ?_ | refine then_exit ?_ | refine block_normal ?_ | refine block_ret ?_ | refine block_exit ?_ | refine block_out rfl ?_
        | (apply awp_reg hΓ; (focus (simp (disch := omega) only [go_sem, Γ1, s54]; with_reducible rfl)))
        | (apply awp_regf mixedOK hΓ (by kernel_rfl); (focus (simp (disch := omega) only [go_sem, Γ1, s54]; with_reducible rfl)); (focus (simp only [go_sem]; with_reducible rfl)))
        | (apply awp_regt mixedOK hΓ rfl; (focus kernel_rfl); (focus (simp (disch := omega) only [go_sem, Γ1, s54]; with_reducible rfl)); (focus (simp only [go_sem]; with_reducible rfl)); (focus (simp (disch := omega) only [go_sem, Γ1, s54]; with_reducible rfl)))
        | (apply awp_cond_t; (focus (simp (disch := omega) only [go_sem, Γ1, s54]; done))) | (apply awp_cond_f; (focus (simp (disch := omega) only [go_sem, Γ1, s54]; done)))
        | (apply ret_e; (focus (simp (disch := omega) only [go_sem, Γ1, s54]; with_reducible rfl)); (focus (simp (disch := omega) only [go_sem, Γ1, s54]; with_reducible rfl))) | (apply end_e; (focus (simp (disch := omega) only [go_sem, Γ1, s54]; with_reducible rfl)); (focus (simp (disch := omega) only [go_sem, Γ1, s54]; with_reducible rfl)))
        | rfl)
        simp_all [cmpInt]
        try omega
      · repeat (first
        | refine awp_seq ?_ | refine awp_block ?_ | refine awp_ret ?_ | refine awp_skip ?_ | refine awp_exit ?_ | refine awp_label ?_
        | refine then_normal ?_ | refine then_ret ?_ | refine then_exit ?_ | refine block_normal ?_ | refine block_ret ?_ | refine block_exit ?_ | refine block_out rfl ?_
        | (apply awp_reg hΓ; (focus (simp (disch := omega) only [go_sem, Γ1, s54]; with_reducible rfl)))
        | (apply awp_regf mixedOK hΓ (by kernel_rfl); (focus (simp (disch := omega) only [go_sem, Γ1, s54]; with_reducible rfl)); (focus (simp only [go_sem]; with_reducible rfl)))
        | (apply awp_regt mixedOK hΓ rfl; (focus kernel_rfl); (focus (simp (disch := omega) only [go_sem, Γ1, s54]; with_reducible rfl)); (focus (simp only [go_sem]; with_reducible rfl)); (focus (simp (disch := omega) only [go_sem, Γ1, s54]; with_reducible rfl)))
        | (apply awp_cond_t; (focus (simp (disch := omega) only [go_sem, Γ1, s54]; done))) | (apply awp_cond_f; (focus (simp (disch := omega) only [go_sem, Γ1, s54]; done)))
        | (apply ret_e; (focus (simp (disch := omega) only [go_sem, Γ1, s54]; with_reducible rfl)); (focus (simp (disch := omega) only [go_sem, Γ1, s54]; with_reducible rfl))) | (apply end_e; (focus (simp (disch := omega) only [go_sem, Γ1, s54]; with_reducible rfl)); (focus (simp (disch := omega) only [go_sem, Γ1, s54]; with_reducible rfl)))
        | rfl)
        simp_all [cmpInt]
        try omega
  · cases hd

@[go_sem] abbrev ints (l : List Int) : D := .list (l.map i64)
@[go_sem] theorem elemsOK_i64 (l : List Int) : elemsOK 1 (l.map i64) = true := elemsOK_map (f := i64) (fun _ => ⟨by rfl, by rfl⟩) l
@[go_sem] theorem elemsOK_str (l : List (List UInt8)) : elemsOK 1 (l.map D.str) = true := elemsOK_map (f := D.str) (fun _ => ⟨by rfl, by rfl⟩) l
theorem ints_inj {l r : List Int} (h : ints l = ints r) : l = r := by
  have : l.map i64 = r.map i64 := by simpa [ints] using h
  exact List.map_inj_right (fun a b hab => by simpa [i64] using hab) |>.1 this
/-- slices.Equal of two lists of whole numbers. -/
noncomputable def g15 : List D → Option D := encSpec (fun x : List Int × List Int => [ints x.1, ints x.2]) (fun x => x.1.length ≤ 1099511627776) (fun x => .bool (x.1 == x.2))
@[go_sem] theorem g15_eq {a b : List Int} (h : a.length ≤ 1099511627776) : g15 [.list (a.map i64), .list (b.map i64)] = some (.bool (a == b)) :=
  encSpec_eq (x := (a, b)) h fun y hy => by
    simp only [List.cons.injEq, and_true] at hy
    rw [ints_inj hy.1, ints_inj hy.2]
theorem f15_ok : PureOK Try.prog 15 true g15 := by
  have hΓ := Γ1_ok
  refine pure_enc (n := 26) (rs := [.tmp 4]) Try.func15 (by kernel_rfl) rfl (by kernel_rfl) (by kernel_rfl) ?_
  rintro ⟨a, b⟩ hlen
  refine ⟨fun _ => .bool _, fun c hz0 => ?_⟩
  simp only [start, go_sem, emptyH, List.replicate_succ, List.replicate_zero]
  repeat (first
    | refine awp_seq ?_ | refine awp_block ?_ | refine awp_ret ?_ | refine awp_skip ?_ | refine awp_exit ?_ | refine awp_label ?_
    | refine then_normal ?_ | refine then_ret ?_ | refine then_exit ?_ | refine block_normal ?_ | refine block_ret ?_ | refine block_exit ?_ | refine block_out rfl ?_
    | (apply awp_reg hΓ; (focus (simp (disch := omega) only [go_sem]; with_reducible rfl)))
    | (apply awp_regf mixedOK hΓ (by kernel_rfl); (focus (simp (disch := omega) only [go_sem]; with_reducible rfl)); (focus (simp only [go_sem]; with_reducible rfl)))
    | (apply awp_regt mixedOK hΓ rfl; (focus kernel_rfl); (focus (simp (disch := omega) only [go_sem]; with_reducible rfl)); (focus (simp only [go_sem]; with_reducible rfl)); (focus (simp (disch := omega) only [go_sem]; with_reducible rfl)))
    | (apply awp_cond_t; (focus (simp (disch := omega) only [go_sem]; done))) | (apply awp_cond_f; (focus (simp (disch := omega) only [go_sem]; done)))
    | (apply ret_e; (focus (simp (disch := omega) only [go_sem]; with_reducible rfl)); (focus (simp (disch := omega) only [go_sem]; with_reducible rfl))) | (apply end_e; (focus (simp (disch := omega) only [go_sem]; with_reducible rfl)); (focus (simp (disch := omega) only [go_sem]; with_reducible rfl)))
    | rfl)
  refine awp_cond (by simp (disch := omega) only [go_sem]; rfl) (fun hc => ?_) (fun hc => ?_)
  · repeat (first
    | refine awp_seq ?_ | refine awp_block ?_ | refine awp_ret ?_ | refine awp_skip ?_ | refine awp_exit ?_ | refine awp_label ?_
    | refine then_normal ?_ | refine then_ret ?_ | refine then_exit ?_ | refine block_normal ?_ | refine block_ret ?_ | refine block_exit ?_ | refine block_out rfl ?_
    | (apply awp_reg hΓ; (focus (simp (disch := omega) only [go_sem]; with_reducible rfl)))
    | (apply awp_regf mixedOK hΓ (by kernel_rfl); (focus (simp (disch := omega) only [go_sem]; with_reducible rfl)); (focus (simp only [go_sem]; with_reducible rfl)))
    | (apply awp_regt mixedOK hΓ rfl; (focus kernel_rfl); (focus (simp (disch := omega) only [go_sem]; with_reducible rfl)); (focus (simp only [go_sem]; with_reducible rfl)); (focus (simp (disch := omega) only [go_sem]; with_reducible rfl)))
    | (apply awp_cond_t; (focus (simp (disch := omega) only [go_sem]; done))) | (apply awp_cond_f; (focus (simp (disch := omega) only [go_sem]; done)))
    | (apply ret_e; (focus (simp (disch := omega) only [go_sem]; with_reducible rfl)); (focus (simp (disch := omega) only [go_sem]; with_reducible rfl))) | (apply end_e; (focus (simp (disch := omega) only [go_sem]; with_reducible rfl)); (focus (simp (disch := omega) only [go_sem]; with_reducible rfl)))
    | rfl)
    congr 1
    simp only [bne_iff_ne, ne_eq, Int.natCast_inj] at hc
    exact (beq_eq_false_iff_ne.2 fun h => hc (by rw [h])).symm
  have hab : a.length = b.length := by
    simp at hc
    omega
  repeat (first
    | refine awp_seq ?_ | refine awp_block ?_ | refine awp_ret ?_ | refine awp_skip ?_ | refine awp_exit ?_ | refine awp_label ?_
    | refine then_normal ?_ | refine then_ret ?_ | refine then_exit ?_ | refine block_normal ?_ | refine block_ret ?_ | refine block_exit ?_ | refine block_out rfl ?_
    | (apply awp_reg hΓ; (focus (simp (disch := omega) only [go_sem]; with_reducible rfl)))
    | (apply awp_regf mixedOK hΓ (by kernel_rfl); (focus (simp (disch := omega) only [go_sem]; with_reducible rfl)); (focus (simp only [go_sem]; with_reducible rfl)))
    | (apply awp_regt mixedOK hΓ rfl; (focus kernel_rfl); (focus (simp (disch := omega) only [go_sem]; with_reducible rfl)); (focus (simp only [go_sem]; with_reducible rfl)); (focus (simp (disch := omega) only [go_sem]; with_reducible rfl)))
    | (apply awp_cond_t; (focus (simp (disch := omega) only [go_sem]; done))) | (apply awp_cond_f; (focus (simp (disch := omega) only [go_sem]; done)))
    | (apply ret_e; (focus (simp (disch := omega) only [go_sem]; with_reducible rfl)); (focus (simp (disch := omega) only [go_sem]; with_reducible rfl))) | (apply end_e; (focus (simp (disch := omega) only [go_sem]; with_reducible rfl)); (focus (simp (disch := omega) only [go_sem]; with_reducible rfl)))
    | rfl)
  refine awp_loop_at (X := Nat) (fun i => [.data (ints a), .data (ints b), .junk, .junk, .junk, .junk, .junk, .junk, .junk, .junk, .junk, .junk, .data (i64 a.length), .data (i64 i), .junk, .junk, .junk, .junk, .junk, .junk, .junk, .junk, .junk, .junk, .junk, .junk])
    (fun _ => []) 0 (fun i => i ≤ a.length ∧ a.take i = b.take i) (fun i => a.length - i) 0 ⟨Nat.zero_le _, rfl⟩ (Weak.of (by omega) (by simp [ConvL, Conv, ints]) (by simp [TabSub, look, Obj.refsOK, refsOKs, AV.refsOK]) (by simp [refsOKs, AV.refsOK])) ?_
  rintro i ⟨hi, hpre⟩
  repeat (first
    | refine awp_seq ?_ | refine awp_block ?_ | refine awp_ret ?_ | refine awp_skip ?_ | refine awp_exit ?_ | refine awp_label ?_
    | refine then_normal ?_ | refine then_ret ?_ | refine then_exit ?_ | refine block_normal ?_ | refine block_ret ?_ | refine block_exit ?_ | refine block_out rfl ?_
    | (apply awp_reg hΓ; (focus (simp (disch := omega) only [go_sem]; with_reducible rfl)))
    | (apply awp_regf mixedOK hΓ (by kernel_rfl); (focus (simp (disch := omega) only [go_sem]; with_reducible rfl)); (focus (simp only [go_sem]; with_reducible rfl)))
    | (apply awp_regt mixedOK hΓ rfl; (focus kernel_rfl); (focus (simp (disch := omega) only [go_sem]; with_reducible rfl)); (focus (simp only [go_sem]; with_reducible rfl)); (focus (simp (disch := omega) only [go_sem]; with_reducible rfl)))
    | (apply awp_cond_t; (focus (simp (disch := omega) only [go_sem]; done))) | (apply awp_cond_f; (focus (simp (disch := omega) only [go_sem]; done)))
    | (apply ret_e; (focus (simp (disch := omega) only [go_sem]; with_reducible rfl)); (focus (simp (disch := omega) only [go_sem]; with_reducible rfl))) | (apply end_e; (focus (simp (disch := omega) only [go_sem]; with_reducible rfl)); (focus (simp (disch := omega) only [go_sem]; with_reducible rfl)))
    | rfl)
  refine awp_cond (by simp (disch := omega) only [go_sem]; rfl) (fun hc => ?_) (fun hc => ?_)
  · have hi' : i < a.length := by simpa using hc
    have hi2 : i < b.length := by omega
    dsimp only at hlen
    repeat (first
      | refine awp_seq ?_ | refine awp_block ?_ | refine awp_ret ?_ | refine awp_skip ?_ | refine awp_exit ?_ | refine awp_label ?_
      | refine then_normal ?_ | refine then_ret ?_ | refine then_exit ?_ | refine block_normal ?_ | refine block_ret ?_ | refine block_exit ?_ | refine block_out rfl ?_
      | (apply awp_reg hΓ; (focus (simp (disch := omega) only [go_sem, wrap_in]; with_reducible rfl)))
      | (apply awp_regf mixedOK hΓ (by kernel_rfl); (focus (simp (disch := omega) only [go_sem, wrap_in]; with_reducible rfl)); (focus (simp only [go_sem]; with_reducible rfl)))
      | (apply awp_regt mixedOK hΓ rfl; (focus kernel_rfl); (focus (simp (disch := omega) only [go_sem, wrap_in]; with_reducible rfl)); (focus (simp only [go_sem]; with_reducible rfl)); (focus (simp (disch := omega) only [go_sem, wrap_in]; with_reducible rfl)))
      | (apply awp_cond_t; (focus (simp (disch := omega) only [go_sem, wrap_in]; done))) | (apply awp_cond_f; (focus (simp (disch := omega) only [go_sem, wrap_in]; done)))
      | (apply ret_e; (focus (simp (disch := omega) only [go_sem, wrap_in]; with_reducible rfl)); (focus (simp (disch := omega) only [go_sem, wrap_in]; with_reducible rfl))) | (apply end_e; (focus (simp (disch := omega) only [go_sem, wrap_in]; with_reducible rfl)); (focus (simp (disch := omega) only [go_sem, wrap_in]; with_reducible rfl)))
      | rfl)
    repeat (first
      | refine awp_seq ?_ | refine awp_block ?_ | refine awp_ret ?_ | refine awp_skip ?_ | refine awp_exit ?_ | refine awp_label ?_
      | refine then_normal ?_ | refine then_ret ?_ | refine then_exit ?_ | refine block_normal ?_ | refine block_ret ?_ | refine block_exit ?_ | refine block_out rfl ?_
      | (apply awp_reg hΓ; (focus (simp (disch := omega) only [go_sem, wrap_in, if_pos]; with_reducible rfl)))
      | (apply awp_regf mixedOK hΓ (by kernel_rfl); (focus (simp (disch := omega) only [go_sem, wrap_in, if_pos]; with_reducible rfl)); (focus (simp only [go_sem]; with_reducible rfl)))
      | (apply awp_regt mixedOK hΓ rfl; (focus kernel_rfl); (focus (simp (disch := omega) only [go_sem, wrap_in, if_pos]; with_reducible rfl)); (focus (simp only [go_sem]; with_reducible rfl)); (focus (simp (disch := omega) only [go_sem, wrap_in, if_pos]; with_reducible rfl)))
      | (apply awp_cond_t; (focus (simp (disch := omega) only [go_sem, wrap_in, if_pos]; done))) | (apply awp_cond_f; (focus (simp (disch := omega) only [go_sem, wrap_in, if_pos]; done)))
      | (apply ret_e; (focus (simp (disch := omega) only [go_sem, wrap_in, if_pos]; with_reducible rfl)); (focus (simp (disch := omega) only [go_sem, wrap_in, if_pos]; with_reducible rfl))) | (apply end_e; (focus (simp (disch := omega) only [go_sem, wrap_in, if_pos]; with_reducible rfl)); (focus (simp (disch := omega) only [go_sem, wrap_in, if_pos]; with_reducible rfl)))
      | rfl)
    refine awp_cond (by simp (disch := omega) only [go_sem]; rfl) (fun hc => ?_) (fun hc => ?_)
    · repeat (first
      | refine awp_seq ?_ | refine awp_block ?_ | refine awp_ret ?_ | refine awp_skip ?_ | refine awp_exit ?_ | refine awp_label ?_
      | refine then_normal ?_ | refine then_ret ?_ | refine then_exit ?_ | refine block_normal ?_ | refine block_ret ?_ | refine block_exit ?_ | refine block_out rfl ?_
      | (apply awp_reg hΓ; (focus (simp (disch := omega) only [go_sem]; with_reducible rfl)))
      | (apply awp_regf mixedOK hΓ (by kernel_rfl); (focus (simp (disch := omega) only [go_sem]; with_reducible rfl)); (focus (simp only [go_sem]; with_reducible rfl)))
      | (apply awp_regt mixedOK hΓ rfl; (focus kernel_rfl); (focus (simp (disch := omega) only [go_sem]; with_reducible rfl)); (focus (simp only [go_sem]; with_reducible rfl)); (focus (simp (disch := omega) only [go_sem]; with_reducible rfl)))
      | (apply awp_cond_t; (focus (simp (disch := omega) only [go_sem]; done))) | (apply awp_cond_f; (focus (simp (disch := omega) only [go_sem]; done)))
      | (apply ret_e; (focus (simp (disch := omega) only [go_sem]; with_reducible rfl)); (focus (simp (disch := omega) only [go_sem]; with_reducible rfl))) | (apply end_e; (focus (simp (disch := omega) only [go_sem]; with_reducible rfl)); (focus (simp (disch := omega) only [go_sem]; with_reducible rfl)))
      | rfl)
      congr 1
      refine (beq_eq_false_iff_ne.2 fun h => ?_).symm
      subst h
      simp at hc
    · repeat (first
      | refine awp_seq ?_ | refine awp_block ?_ | refine awp_ret ?_ | refine awp_skip ?_ | refine awp_exit ?_ | refine awp_label ?_
      | refine then_normal ?_ | refine then_ret ?_ | refine then_exit ?_ | refine block_normal ?_ | refine block_ret ?_ | refine block_exit ?_ | refine block_out rfl ?_
      | (apply awp_reg hΓ; (focus (simp (disch := omega) only [go_sem, wrap_in]; with_reducible rfl)))
      | (apply awp_regf mixedOK hΓ (by kernel_rfl); (focus (simp (disch := omega) only [go_sem, wrap_in]; with_reducible rfl)); (focus (simp only [go_sem]; with_reducible rfl)))
      | (apply awp_regt mixedOK hΓ rfl; (focus kernel_rfl); (focus (simp (disch := omega) only [go_sem, wrap_in]; with_reducible rfl)); (focus (simp only [go_sem]; with_reducible rfl)); (focus (simp (disch := omega) only [go_sem, wrap_in]; with_reducible rfl)))
      | (apply awp_cond_t; (focus (simp (disch := omega) only [go_sem, wrap_in]; done))) | (apply awp_cond_f; (focus (simp (disch := omega) only [go_sem, wrap_in]; done)))
      | (apply ret_e; (focus (simp (disch := omega) only [go_sem, wrap_in]; with_reducible rfl)); (focus (simp (disch := omega) only [go_sem, wrap_in]; with_reducible rfl))) | (apply end_e; (focus (simp (disch := omega) only [go_sem, wrap_in]; with_reducible rfl)); (focus (simp (disch := omega) only [go_sem, wrap_in]; with_reducible rfl)))
      | rfl)
      refine ⟨i + 1, ⟨by omega, ?_⟩, by omega, Weak.of (by omega) (by simp [ConvL, Conv, ints]) (by simp [TabSub, look, Obj.refsOK, refsOKs, AV.refsOK]) (by simp [refsOKs, AV.refsOK])⟩
      rw [List.take_add_one, List.take_add_one, hpre, List.getElem?_eq_getElem hi', List.getElem?_eq_getElem hi2]
      have : a[i] = b[i] := by simpa using hc
      rw [this]
  · repeat (first
    | refine awp_seq ?_ | refine awp_block ?_ | refine awp_ret ?_ | refine awp_skip ?_ | refine awp_exit ?_ | refine awp_label ?_
    | refine then_normal ?_ | refine then_ret ?_ | refine then_exit ?_ | refine block_normal ?_ | refine block_ret ?_ | refine block_exit ?_ | refine block_out rfl ?_
    | (apply awp_reg hΓ; (focus (simp (disch := omega) only [go_sem]; with_reducible rfl)))
    | (apply awp_regf mixedOK hΓ (by kernel_rfl); (focus (simp (disch := omega) only [go_sem]; with_reducible rfl)); (focus (simp only [go_sem]; with_reducible rfl)))
    | (apply awp_regt mixedOK hΓ rfl; (focus kernel_rfl); (focus (simp (disch := omega) only [go_sem]; with_reducible rfl)); (focus (simp only [go_sem]; with_reducible rfl)); (focus (simp (disch := omega) only [go_sem]; with_reducible rfl)))
    | (apply awp_cond_t; (focus (simp (disch := omega) only [go_sem]; done))) | (apply awp_cond_f; (focus (simp (disch := omega) only [go_sem]; done)))
    | (apply ret_e; (focus (simp (disch := omega) only [go_sem]; with_reducible rfl)); (focus (simp (disch := omega) only [go_sem]; with_reducible rfl))) | (apply end_e; (focus (simp (disch := omega) only [go_sem]; with_reducible rfl)); (focus (simp (disch := omega) only [go_sem]; with_reducible rfl)))
    | rfl)
    congr 1
    have hi' : i = a.length := by
      have : ¬ i < a.length := by simpa using hc
      omega
    subst hi'
    rw [List.take_length, hab, List.take_length] at hpre
    rw [hpre]
    simp
end Go.Ab
