/-
  One text of the proof (own work): contracts of functions of the program, by the abstract machine.
-/
import Derived.Lib.Bytealg
import Derived.Test.YtmcgfohokniepaaX27
import Derived.Test.YtmcgfohokniepaaX30
import Derived.Test.YtmcgfohokniepaaX25
set_option linter.unusedVariables false
set_option linter.unusedSimpArgs false
namespace Go.Ab
open Go Go.RowKit Go.Proofs
set_option maxRecDepth 100000
theorem call109 (s : ByteArray) (c : Int) (w : World) :
    Calls Try.prog 109 #[.string s, .int .u8 c] w fun e w' => e = .returned (.int .i64 (Lib.indexByte s.data.toList c.toNat.toUInt8)) ∧ w' = w := by
  go_enter Try.func109, Try.ntmps109
  go_wp2
  rw [run_callFunc_extern Try.func128 (by kernel_rfl) (by kernel_rfl) (by kernel_rfl) (e := Extern.BytealgIndexByte.indexByte) (by kernel_rfl), Lib.run_indexByteString]
  simp only [Result.andThen]
  rw [Oper.upon_value]
  go_wp2
  go_ret
  exact ⟨rfl, rfl⟩
def g109 : List D → Option D
  | [.str s, .int .u8 c] => some (.int .i64 (Lib.indexByte s c.toNat.toUInt8))
  | _ => none
theorem f109_ok : PureOK Try.prog 109 true g109 := by
  intro ds d hd
  unfold g109 at hd
  split at hd
  · rename_i s c
    simp only [Option.some.injEq] at hd
    subst hd
    refine ⟨fun _ => .int _ _, fun w B vs hB hz hvs => ⟨⟨_, Try.func109, rfl, rfl⟩, ?_⟩⟩
    have h0 : vs[0]? = some (.string ⟨s.toArray⟩) := by
      obtain ⟨u, hu⟩ : ∃ u, vs[0]? = some u := ⟨_, Array.getElem?_eq_getElem (by simp at hz; omega)⟩
      have := hvs 0 (by simp) u hu
      rw [hu, this.str_eq]
    have h1 : vs[1]? = some (.int .u8 c) := by
      obtain ⟨u, hu⟩ : ∃ u, vs[1]? = some u := ⟨_, Array.getElem?_eq_getElem (by simp at hz; omega)⟩
      have := hvs 1 (by simp) u hu
      rw [hu, this.int_eq]
    have hv : vs = #[.string ⟨s.toArray⟩, .int .u8 c] := by
      apply Array.ext_getElem?
      intro i
      match i with
      | 0 => exact h0
      | 1 => exact h1
      | i + 2 => rw [Array.getElem?_eq_none (by simp at hz; omega), Array.getElem?_eq_none (by simp)]
    rw [hv]
    refine (call109 ⟨s.toArray⟩ c w).mono ?_
    rintro e w' ⟨rfl, rfl⟩
    exact ⟨_, rfl, .int _ _, Below.refl _ _⟩
  · cases hd
theorem pure_sub {f : FuncId} {fl : Bool} {g g' : List D → Option D} (h : PureOK Try.prog f fl g) (hs : ∀ ds d, g' ds = some d → g ds = some d) : PureOK Try.prog f fl g' := fun ds d hd => h ds d (hs ds d hd)
def eqL : List UInt8 → List UInt8 → Bool
  | [], [] => true
  | x :: r, y :: r' => Nat.beq x.toNat y.toNat && eqL r r'
  | _, _ => false
theorem eqL_eq : ∀ {a b : List UInt8}, eqL a b = true → a = b
  | [], [], _ => rfl
  | x :: r, y :: r', h => by
    simp only [eqL, Bool.and_eq_true] at h
    rw [UInt8.toNat_inj.1 (Nat.eq_of_beq_eq_true h.1), eqL_eq h.2]
  | [], _ :: _, h => by simp [eqL] at h
  | _ :: _, [], h => by simp [eqL] at h
def g57T : List D → Option D
  | [.str s] => if eqL s inD then some (.str outD) else if eqL s inE then some (.str outE) else none
  | _ => none
theorem f57T_ok : PureOK Try.prog 57 true g57T := pure_sub f57_ok fun ds d hd => by
  unfold g57T at hd
  split at hd
  · split at hd
    · rename_i h
      simp only [Option.some.injEq] at hd
      subst hd
      rw [eqL_eq h, g57_eq (by decide), sum_d]
    · split at hd
      · rename_i h
        simp only [Option.some.injEq] at hd
        subst hd
        rw [eqL_eq h, g57_eq (by decide), sum_e]
      · cases hd
  · cases hd
noncomputable def Γa : FuncId → Option CSpec := fun f => if Nat.beq f 57 then some (.pure true g57T) else if Nat.beq f 109 then some (.pure true g109) else none
theorem Γa_ok : ∀ f s, Γa f = some s → SpecOK Try.prog f s := by
  intro f s h
  unfold Γa at h
  split at h
  · rename_i hf; cases h; rw [Nat.eq_of_beq_eq_true hf]; exact f57T_ok
  split at h
  · rename_i hf; cases h; rw [Nat.eq_of_beq_eq_true hf]; exact f109_ok
  · cases h
noncomputable def runI (f : FuncId) (ds : List D) : Option D := match arun Try.prog Γa 3000 12 f (ds.map .data) [] with
  | some (.data (.int k n), _) => some (.int k n)
  | some (.data (.bool b), _) => some (.bool b)
  | _ => none
theorem runI_ok (f : FuncId) : PureOK Try.prog f true (runI f) := by
  have h : SpecOK Try.prog f (.pure false fun ds => match arun Try.prog Γa 3000 12 f (ds.map .data) [] with
    | some (.data d, _) => some d
    | _ => none) := pure_of_loc (arun_sound mixedOK Γa_ok 3000 12 f)
  intro ds d hd
  unfold runI at hd
  split at hd
  · rename_i k n os he
    cases hd
    refine ⟨fun _ => .int _ _, (h ds _ ?_).2⟩
    simp only [he]
  · rename_i b os he
    cases hd
    refine ⟨fun _ => .bool _, (h ds _ ?_).2⟩
    simp only [he]
  · cases hd
noncomputable def Γb : FuncId → Option CSpec := fun f => if Nat.beq f 60 then some (.pure true (runI 60)) else if Nat.beq f 59 then some (.pure true (runI 59)) else Γa f
theorem Γb_ok : ∀ f s, Γb f = some s → SpecOK Try.prog f s := by
  intro f s h
  unfold Γb at h
  split at h
  · rename_i hf; cases h; rw [Nat.eq_of_beq_eq_true hf]; exact runI_ok 60
  split at h
  · rename_i hf; cases h; rw [Nat.eq_of_beq_eq_true hf]; exact runI_ok 59
  · exact Γa_ok f s h
end Go.Ab
namespace Go.Ab
open Go Go.RowKit Go.Proofs
set_option maxRecDepth 4000
set_option maxHeartbeats 4000000
def fb (s : List UInt8) (c : UInt8) : Nat := s.findIdx (· == c)
theorem fb_le (s : List UInt8) (c : UInt8) : fb s c ≤ s.length := List.findIdx_le_length
theorem fb_cons (x : UInt8) (s : List UInt8) (c : UInt8) : fb (x :: s) c = if x == c then 0 else fb s c + 1 := by
  simp only [fb, List.findIdx_cons]
  cases x == c <;> rfl
theorem index_fb : ∀ (s : List UInt8) (c : UInt8), Lib.indexByte s c = if fb s c < s.length then (fb s c : Int) else -1
  | [], c => rfl
  | x :: s, c => by
    have ih := index_fb s c
    have hl := fb_le s c
    simp only [Lib.indexByte, fb_cons, List.length_cons]
    by_cases h : (x == c) = true
    · simp [h]
    · have h' : (x == c) = false := by simpa using h
      simp only [h', Bool.false_eq_true, if_false, ih]
      by_cases h2 : fb s c < s.length
      · have e : ((fb s c : Int) == -1) = false := by rw [beq_eq_false_iff_ne]; omega
        simp only [if_pos h2, e, Bool.false_eq_true, if_false, if_pos (show fb s c + 1 < s.length + 1 by omega)]
        omega
      · simp only [if_neg h2, if_neg (show ¬ fb s c + 1 < s.length + 1 by omega)]
        rfl
theorem g109_eq (s : List UInt8) (c : UInt8) : g109 [.str s, .int .u8 (c.toNat : Int)] = some (.int .i64 (Lib.indexByte s c)) := by
  simp [g109]
noncomputable def g83 : List D → Option D := encSpec (fun x : List UInt8 × UInt8 => [.str x.1, .str [x.2]]) (fun x => x.1.length ≤ 1099511627776) (fun x => i64 (Lib.indexByte x.1 x.2))
theorem g83_eq {s : List UInt8} {c : UInt8} (h : s.length ≤ 1099511627776) : g83 [.str s, .str [c]] = some (.int .i64 (Lib.indexByte s c)) := encSpec_eq (x := (s, c)) h fun y hy => by
  obtain ⟨y1, y2⟩ := y
  simp only [List.cons.injEq, and_true, D.str.injEq] at hy
  rw [hy.1, hy.2]
noncomputable def Γi : FuncId → Option CSpec := fun f => if f = 109 then some (.pure true g109) else none
theorem Γi_ok : ∀ f s, Γi f = some s → SpecOK Try.prog f s := by
  intro f s h
  unfold Γi at h
  split at h
  · rename_i hf; cases h; subst hf; exact f109_ok
  · cases h
theorem f83_ok : PureOK Try.prog 83 true g83 := by
  have hΓ := Γi_ok
  refine pure_enc (n := 143) (rs := [.tmp 4]) Try.func83 (by kernel_rfl) rfl (by kernel_rfl) (by kernel_rfl) ?_
  rintro ⟨s, c⟩ hs
  dsimp only at hs
  refine ⟨fun _ => .int _ _, fun k hz0 => ?_⟩
  have e109 := g109_eq s c
  have h10 : (((1 : Nat) : Int) == 0) = false := rfl
  have h11 : (((1 : Nat) : Int) == 1) = true := rfl
  rw [start_frame (by simp)]; simp only [enumV, go_sem, emptyH]
  by_cases hq : s = [c]
  · subst hq
    have e0 : Lib.indexByte [c] c = 0 := by simp [Lib.indexByte]
    have hqq : ([c] == [c]) = true := by simp
    repeat (first
      | (apply axJ; (focus ((with_reducible constructor) <;> rfl)))
      | (apply awT mixedOK hΓ (by kernel_rfl); (simp (disch := omega) only [go_sem, ↓reduceIte, dk, Γi, h10, h11, hqq] <;> with_reducible rfl))
      | ((first | apply awR hΓ | apply awG | apply awH mixedOK hΓ rfl (by kernel_rfl) | apply ovE rfl); (simp (disch := omega) only [go_sem, ↓reduceIte, dk, Γi, h10, h11, hqq] <;> with_reducible rfl); exact trivial)
      | rfl)
    rw [e0]
  · have hqq : ([c] == s) = false := by
      rw [beq_eq_false_iff_ne]
      exact fun h => hq h.symm
    have t0 : (0 : Int).toNat = 0 := rfl
    repeat (first
      | (apply axJ; (focus ((with_reducible constructor) <;> rfl)))
      | (apply awT mixedOK hΓ (by kernel_rfl); (simp (disch := omega) only [go_sem, ↓reduceIte, dk, Γi, h10, h11, hqq, t0, e109] <;> with_reducible rfl))
      | ((first | apply awR hΓ | apply awG | apply awH mixedOK hΓ rfl (by kernel_rfl) | apply ovE rfl); (simp (disch := omega) only [go_sem, ↓reduceIte, dk, Γi, h10, h11, hqq, t0, e109] <;> with_reducible rfl); exact trivial)
      | rfl)
theorem t1 : True := trivial
def cutA (s : List UInt8) (c : UInt8) : D := if fb s c < s.length then .tup [.str (s.take (fb s c)), .str (s.drop (fb s c + 1)), .bool true] else .tup [.str s, .str [], .bool false]
theorem cutA_flat (s : List UInt8) (c : UInt8) : (cutA s c).Flat := by
  unfold cutA
  split <;> exact .tup _ fun d hd => by
    simp only [List.mem_cons, List.not_mem_nil, or_false] at hd
    rcases hd with rfl | rfl | rfl
    · exact .str _
    · exact .str _
    · exact .bool _
noncomputable def g58 : List D → Option D := encSpec (fun x : List UInt8 × UInt8 => [.str x.1, .str [x.2]]) (fun x => x.1.length ≤ 1099511627776) (fun x => cutA x.1 x.2)
theorem g58_eq {s : List UInt8} {c : UInt8} (h : s.length ≤ 1099511627776) : g58 [.str s, .str [c]] = some (cutA s c) := encSpec_eq (x := (s, c)) h fun y hy => by
  obtain ⟨y1, y2⟩ := y
  simp only [List.cons.injEq, and_true, D.str.injEq] at hy
  rw [hy.1, hy.2]
noncomputable def Γx : FuncId → Option CSpec := fun f => if f = 83 then some (.pure true g83) else none
theorem Γx_ok : ∀ f s, Γx f = some s → SpecOK Try.prog f s := by
  intro f s h
  unfold Γx at h
  split at h
  · rename_i hf; cases h; subst hf; exact f83_ok
  · cases h
theorem f58_ok : PureOK Try.prog 58 true g58 := by
  have hΓ := Γx_ok
  refine pure_enc (n := 23) (rs := [.tmp 4, .tmp 5, .tmp 6]) Try.func58 (by kernel_rfl) rfl (by kernel_rfl) (by kernel_rfl) ?_
  rintro ⟨s, c⟩ hs
  dsimp only at hs
  refine ⟨fun _ => cutA_flat _ _, fun k hz0 => ?_⟩
  have e83 := g83_eq (c := c) hs
  rw [index_fb] at e83
  unfold cutA
  rw [start_frame (by simp)]; simp only [enumV, go_sem, emptyH]
  by_cases hf : fb s c < s.length
  · rw [if_pos hf] at e83 ⊢
    generalize hn : fb s c = n at *
    have tn : ((n : Int) + ((1 : Nat) : Int)).toNat = n + 1 := by omega
    have td : (s.drop (n + 1)).take (s.length - (n + 1)) = s.drop (n + 1) := List.take_of_length_le (by simp)
    repeat (first
      | (apply axJ; (focus ((with_reducible constructor) <;> rfl)))
      | (apply awT mixedOK hΓ (by kernel_rfl); (simp (disch := omega) only [go_sem, ↓reduceIte, dk, Γx, e83, tn, td, Nat.sub_zero] <;> with_reducible rfl))
      | ((first | apply awR hΓ | apply awG | apply awH mixedOK hΓ rfl (by kernel_rfl) | apply ovE rfl); (simp (disch := omega) only [go_sem, ↓reduceIte, dk, Γx, e83, tn, td, Nat.sub_zero] <;> with_reducible rfl); exact trivial)
      | rfl)
  · rw [if_neg hf] at e83 ⊢
    repeat (first
      | (apply axJ; (focus ((with_reducible constructor) <;> rfl)))
      | (apply awT mixedOK hΓ (by kernel_rfl); (simp (disch := omega) only [go_sem, ↓reduceIte, dk, Γx, e83] <;> with_reducible rfl))
      | ((first | apply awR hΓ | apply awG | apply awH mixedOK hΓ rfl (by kernel_rfl) | apply ovE rfl); (simp (disch := omega) only [go_sem, ↓reduceIte, dk, Γx, e83] <;> with_reducible rfl); exact trivial)
      | rfl)
noncomputable def Γy : FuncId → Option CSpec := fun f => if f = 58 then some (.pure true g58) else none
theorem Γy_ok : ∀ f s, Γy f = some s → SpecOK Try.prog f s := by
  intro f s h
  unfold Γy at h
  split at h
  · rename_i hf; cases h; subst hf; exact f58_ok
  · cases h
theorem f38_ok : PureOK Try.prog 38 true g58 := by
  have hΓ := Γy_ok
  refine pure_enc (n := 13) (rs := [.tmp 4, .tmp 5, .tmp 6]) Try.func38 (by kernel_rfl) rfl (by kernel_rfl) (by kernel_rfl) ?_
  rintro ⟨s, c⟩ hs
  dsimp only at hs
  refine ⟨fun _ => cutA_flat _ _, fun k hz0 => ?_⟩
  have e58 := g58_eq (c := c) hs
  unfold cutA at e58 ⊢
  rw [start_frame (by simp)]; simp only [enumV, go_sem, emptyH]
  by_cases hf : fb s c < s.length
  · rw [if_pos hf] at e58 ⊢
    repeat (first
      | (apply axJ; (focus ((with_reducible constructor) <;> rfl)))
      | (apply awT mixedOK hΓ (by kernel_rfl); (simp (disch := omega) only [go_sem, ↓reduceIte, dk, Γy, e58] <;> with_reducible rfl))
      | ((first | apply awR hΓ | apply awG | apply awH mixedOK hΓ rfl (by kernel_rfl) | apply ovE rfl); (simp (disch := omega) only [go_sem, ↓reduceIte, dk, Γy, e58] <;> with_reducible rfl); exact trivial)
      | rfl)
  · rw [if_neg hf] at e58 ⊢
    repeat (first
      | (apply axJ; (focus ((with_reducible constructor) <;> rfl)))
      | (apply awT mixedOK hΓ (by kernel_rfl); (simp (disch := omega) only [go_sem, ↓reduceIte, dk, Γy, e58] <;> with_reducible rfl))
      | ((first | apply awR hΓ | apply awG | apply awH mixedOK hΓ rfl (by kernel_rfl) | apply ovE rfl); (simp (disch := omega) only [go_sem, ↓reduceIte, dk, Γy, e58] <;> with_reducible rfl); exact trivial)
      | rfl)
def pkg (s : List UInt8) : List UInt8 := (s.drop (fb s 58 + 1)).take (fb (s.drop (fb s 58 + 1)) 47)
noncomputable def g12 : List D → Option D := encSpec (fun s : List UInt8 => [.str s]) (fun s => s.length ≤ 1099511627776) (fun s => .str (pkg s))
theorem g12_eq {s : List UInt8} (h : s.length ≤ 1099511627776) : g12 [.str s] = some (.str (pkg s)) := encSpec_eq (x := s) h fun y hy => by
  simp only [List.cons.injEq, and_true, D.str.injEq] at hy
  rw [hy]
noncomputable def Γz : FuncId → Option CSpec := fun f => if f = 38 then some (.pure true g58) else none
theorem Γz_ok : ∀ f s, Γz f = some s → SpecOK Try.prog f s := by
  intro f s h
  unfold Γz at h
  split at h
  · rename_i hf; cases h; subst hf; exact f38_ok
  · cases h
theorem f12_ok : PureOK Try.prog 12 true g12 := by
  have hΓ := Γz_ok
  refine pure_enc (n := 22) (rs := [.tmp 2]) Try.func12 (by kernel_rfl) rfl (by kernel_rfl) (by kernel_rfl) ?_
  intro s hs
  refine ⟨fun _ => .str _, fun k hz0 => ?_⟩
  have e1 := g58_eq (c := 58) hs
  have fin : ∀ r : List UInt8, r.length ≤ 1099511627776 → ∃ a b c, g58 [.str r, .str [47]] = some (.tup [.str a, .str b, .bool c]) ∧ a = r.take (fb r 47) := fun r hr => by
    rw [g58_eq hr]
    unfold cutA
    by_cases h : fb r 47 < r.length
    · exact ⟨_, _, _, by rw [if_pos h], rfl⟩
    · exact ⟨_, _, _, by rw [if_neg h], (List.take_of_length_le (by omega)).symm⟩
  unfold cutA at e1
  rw [start_frame (by simp)]; simp only [enumV, go_sem, emptyH]
  by_cases hf : fb s 58 < s.length
  · rw [if_pos hf] at e1
    obtain ⟨a, b, c, e2, ha⟩ := fin (s.drop (fb s 58 + 1)) (by simp; omega)
    repeat (first
      | (apply axJ; (focus ((with_reducible constructor) <;> rfl)))
      | (apply awT mixedOK hΓ (by kernel_rfl); (simp (disch := omega) only [go_sem, ↓reduceIte, dk, Γz, e1, e2] <;> with_reducible rfl))
      | ((first | apply awR hΓ | apply awG | apply awH mixedOK hΓ rfl (by kernel_rfl) | apply ovE rfl); (simp (disch := omega) only [go_sem, ↓reduceIte, dk, Γz, e1, e2] <;> with_reducible rfl); exact trivial)
      | rfl)
    rw [ha]
    rfl
  · rw [if_neg hf] at e1
    obtain ⟨a, b, c, e2, ha⟩ := fin [] (by simp)
    repeat (first
      | (apply axJ; (focus ((with_reducible constructor) <;> rfl)))
      | (apply awT mixedOK hΓ (by kernel_rfl); (simp (disch := omega) only [go_sem, ↓reduceIte, dk, Γz, e1, e2] <;> with_reducible rfl))
      | ((first | apply awR hΓ | apply awG | apply awH mixedOK hΓ rfl (by kernel_rfl) | apply ovE rfl); (simp (disch := omega) only [go_sem, ↓reduceIte, dk, Γz, e1, e2] <;> with_reducible rfl); exact trivial)
      | rfl)
    rw [ha]
    simp only [pkg]
    rw [List.drop_eq_nil_of_le (by omega)]
theorem fb_lt {s : List UInt8} {c : UInt8} {i : Nat} (h : i < fb s c) (hl : i < s.length) : (s[i] == c) = false := by
  have := List.not_of_lt_findIdx (p := (· == c)) (xs := s) h
  simpa using this
theorem fb_at {s : List UInt8} {c : UInt8} (h : fb s c < s.length) : (s[fb s c] == c) = true := List.findIdx_getElem (p := (· == c)) (xs := s) (w := h)
end Go.Ab
namespace Go.Ab
open Go Go.RowKit Go.Proofs
set_option maxRecDepth 100000
theorem awake_run : arun Try.prog Γb 3000 14 11 [] [] = some (.data (.bool true), []) := by kernel_rfl
noncomputable def g11 : List D → Option D := fun ds => match (arun Try.prog Γb 3000 14 11) (ds.map .data) [] with
  | some (.data d, _) => some d
  | _ => none
theorem g11_eq0 : g11 [] = some (.bool true) := by
  unfold g11
  rw [List.map_nil, awake_run]
theorem f11_ok0 : SpecOK Try.prog 11 (.pure false g11) := pure_of_loc (arun_sound mixedOK Γb_ok 3000 14 11)
noncomputable def g11' : List D → Option D := encSpec (fun _ : Unit => []) (fun _ => True) (fun _ => .bool true)
theorem g11_eq' : g11' [] = some (.bool true) := encSpec_eq (enc := fun _ : Unit => ([] : List D)) (x := ()) trivial fun _ _ => rfl
theorem f11_ok' : PureOK Try.prog 11 false g11' := fun ds d hd => by
  obtain ⟨x, rfl, _, rfl⟩ := encSpec_some hd
  exact f11_ok0 [] _ g11_eq0
end Go.Ab
namespace Go.Ab
open Go Go.RowKit Go.Proofs
set_option maxRecDepth 4000
set_option maxHeartbeats 4000000
theorem byte_ne {x c : UInt8} (h : (x == c) = false) : ((x.toNat : Int) != (c.toNat : Int)) = true := by
  simp only [bne_iff_ne, ne_eq]
  intro he
  have : x = c := UInt8.toNat_inj.1 (by omega)
  rw [this] at h
  simp at h
theorem byte_eq {x c : UInt8} (h : (x == c) = true) : ((x.toNat : Int) != (c.toNat : Int)) = false := by
  rw [beq_iff_eq.1 h]
  simp
theorem f13_ok : PureOK Try.prog 13 true g12 := by
  have hΓ := Γ0_ok
  refine pure_enc (n := 40) (rs := [.tmp 2]) Try.func13 (by kernel_rfl) rfl (by kernel_rfl) (by kernel_rfl) ?_
  intro s hs
  refine ⟨fun _ => .str _, fun k hz0 => ?_⟩
  have hfl := fb_le s 58
  rw [start_frame (by simp)]; simp only [enumV, go_sem, emptyH]
  repeat (first
    | (apply axJ; (focus ((with_reducible constructor) <;> rfl)))
    | (apply awT mixedOK hΓ (by kernel_rfl); (simp (disch := omega) only [go_sem, ↓reduceIte, dk] <;> with_reducible rfl))
    | ((first | apply awR hΓ | apply awG | apply awH mixedOK hΓ rfl (by kernel_rfl) | apply ovE rfl); (simp (disch := omega) only [go_sem, ↓reduceIte, dk] <;> with_reducible rfl); exact trivial)
    | rfl)
  refine awp_loop_at (X := Nat) (fun i => (frame 40 [(0, .data (.str s)), (3, .data (i64 i))])) (fun _ => []) 0
    (fun i => i ≤ fb s 58) (fun i => fb s 58 - i) 0 (Nat.zero_le _) (Weak.w) ?_
  intro i hi
  by_cases hi2 : i < fb s 58
  · have hx := byte_ne (fb_lt hi2 (by omega))
    have c58 : (((58 : UInt8).toNat : Nat) : Int) = 58 := rfl
    rw [c58] at hx
    repeat (first
      | (apply axJ; (focus ((with_reducible constructor) <;> rfl)))
      | (apply awT mixedOK hΓ (by kernel_rfl); (simp (disch := omega) only [go_sem, ↓reduceIte, dk, hx] <;> with_reducible rfl))
      | ((first | apply awR hΓ | apply awG | apply awH mixedOK hΓ rfl (by kernel_rfl) | apply ovE rfl); (simp (disch := omega) only [go_sem, ↓reduceIte, dk, hx] <;> with_reducible rfl); exact trivial)
      | rfl)
    exact ⟨i + 1, by omega, by omega, Weak.w⟩
  have hi3 : i = fb s 58 := by omega
  by_cases hl : fb s 58 < s.length
  case neg =>
    have hil : i = s.length := by omega
    have he : ((i : Int) == (s.length : Int)) = true := by rw [hil]; simp
    have hp : pkg s = [] := by simp only [pkg]; rw [List.drop_eq_nil_of_le (by omega)]; rfl
    repeat (first
      | (apply axJ; (focus ((with_reducible constructor) <;> rfl)))
      | (apply awT mixedOK hΓ (by kernel_rfl); (simp (disch := omega) only [go_sem, ↓reduceIte, dk, he] <;> with_reducible rfl))
      | ((first | apply awR hΓ | apply awG | apply awH mixedOK hΓ rfl (by kernel_rfl) | apply ovE rfl); (simp (disch := omega) only [go_sem, ↓reduceIte, dk, he] <;> with_reducible rfl); exact trivial)
      | rfl)
    rw [hp]
  have hx := byte_eq (fb_at hl)
  have c58 : (((58 : UInt8).toNat : Nat) : Int) = 58 := rfl
  rw [c58] at hx
  have he : ((i : Int) == (s.length : Int)) = false := by
    rw [beq_eq_false_iff_ne]
    omega
  have hp : pkg s = (s.drop (i + 1)).take (fb (s.drop (i + 1)) 47) := by rw [hi3]; rfl
  subst hi3
  generalize hn : fb s 58 = n at *
  repeat (first
    | (apply axJ; (focus ((with_reducible constructor) <;> rfl)))
    | (apply awT mixedOK hΓ (by kernel_rfl); (simp (disch := omega) only [go_sem, ↓reduceIte, dk, hx, he] <;> with_reducible rfl))
    | ((first | apply awR hΓ | apply awG | apply awH mixedOK hΓ rfl (by kernel_rfl) | apply ovE rfl); (simp (disch := omega) only [go_sem, ↓reduceIte, dk, hx, he] <;> with_reducible rfl); exact trivial)
    | rfl)
  have hr : (s.drop (n + 1)).length = s.length - (n + 1) := by simp
  have hrl := fb_le (s.drop (n + 1)) 47
  rw [hr] at hrl
  have hat : ∀ j (h : n + 1 + j < s.length) (h2 : j < (s.drop (n + 1)).length), (s.drop (n + 1))[j] = s[n + 1 + j] := fun j h h2 => by simp
  have hlt := fun (j : Nat) (h : j < fb (s.drop (n + 1)) 47) (h2 : j < (s.drop (n + 1)).length) => fb_lt h h2
  have hend := fun (h : fb (s.drop (n + 1)) 47 < (s.drop (n + 1)).length) => fb_at h
  generalize hm : fb (s.drop (n + 1)) 47 = m at *
  refine awp_loop_at (X := Nat) (fun j => (frame 40 [(0, .data (.str s)), (3, .data (i64 n)), (4, .data (i64 (n + 1 + j : Nat)))])) (fun _ => []) 0
    (fun j => j ≤ m) (fun j => m - j) 0 (Nat.zero_le _) (Weak.w) ?_
  clear hi hi2 hx he
  intro j hj
  have c47 : (((47 : UInt8).toNat : Nat) : Int) = 47 := rfl
  by_cases hj2 : j < m
  · have hb : n + 1 + j < s.length := by omega
    have hx := hlt j hj2 (by omega)
    rw [hat j hb] at hx
    replace hx := byte_ne hx
    rw [c47] at hx
    repeat (first
      | (apply axJ; (focus ((with_reducible constructor) <;> rfl)))
      | (apply awT mixedOK hΓ (by kernel_rfl); (simp (disch := omega) only [go_sem, ↓reduceIte, dk, hx] <;> with_reducible rfl))
      | ((first | apply awR hΓ | apply awG | apply awH mixedOK hΓ rfl (by kernel_rfl) | apply ovE rfl); (simp (disch := omega) only [go_sem, ↓reduceIte, dk, hx] <;> with_reducible rfl); exact trivial)
      | rfl)
    exact ⟨j + 1, by omega, by omega, Weak.v (by (simp [ConvF, lookV, Conv, ints, Int.natCast_add, Int.add_assoc]; done)) (by (simp (disch := omega) only [TabSub, look, if_pos, if_neg, Obj.refsOK, refsOKs, AV.refsOK, decide_eq_true_eq, Bool.and_true, Bool.and_self, Int.natCast_add, Int.add_assoc] ) <;> ((repeat' apply And.intro) <;> first | exact True.intro | omega | (simp; done) | rfl))⟩
  have hj3 : j = m := by omega
  subst hj3
  have tn : ((n : Int) + 1).toNat = n + 1 := by omega
  have te : n + 1 + j - (n + 1) = j := by omega
  by_cases hl2 : n + 1 + j < s.length
  · have hx := hend (by omega)
    rw [hat j hl2] at hx
    replace hx := byte_eq hx
    rw [c47] at hx
    repeat (first
      | (apply axJ; (focus ((with_reducible constructor) <;> rfl)))
      | (apply awT mixedOK hΓ (by kernel_rfl); (simp (disch := omega) only [go_sem, ↓reduceIte, dk, hx, tn, te] <;> with_reducible rfl))
      | ((first | apply awR hΓ | apply awG | apply awH mixedOK hΓ rfl (by kernel_rfl) | apply ovE rfl); (simp (disch := omega) only [go_sem, ↓reduceIte, dk, hx, tn, te] <;> with_reducible rfl); exact trivial)
      | rfl)
    rw [hp]
  · repeat (first
    | (apply axJ; (focus ((with_reducible constructor) <;> rfl)))
    | (apply awT mixedOK hΓ (by kernel_rfl); (simp (disch := omega) only [go_sem, ↓reduceIte, dk, tn, te] <;> with_reducible rfl))
    | ((first | apply awR hΓ | apply awG | apply awH mixedOK hΓ rfl (by kernel_rfl) | apply ovE rfl); (simp (disch := omega) only [go_sem, ↓reduceIte, dk, tn, te] <;> with_reducible rfl); exact trivial)
    | rfl)
    rw [hp]
noncomputable def g3 : List D → Option D := encSpec (fun s : List UInt8 => [.str s]) (fun s => s.length ≤ 1099511627776) (fun _ => .bool true)
end Go.Ab
