/-
  One text of the proof (own work): contracts of functions of the program, by the abstract machine.
-/
import Derived.Test.YtdodjhiofpiaaaaGreatDoorX19
import Derived.Test.YtdodjhiofpiaaaaGreatDoorX24
set_option linter.unusedVariables false
set_option linter.unusedSimpArgs false
namespace Go.Ab
open Go Go.RowKit Go.Proofs
set_option maxRecDepth 10000
set_option maxHeartbeats 8000000
structure Stp where
  line : Int
  kind : Int
  inn : List Bs
  usg : List Bs
  wds : List Bs
  out : Bs
def eSt (x : Stp) : D := .agg [i64 x.line, i64 x.kind, .list (x.inn.map .str), .list (x.usg.map .str), .list (x.wds.map .str), .str x.out]
@[go_sem] theorem eSt_eq (x : Stp) : eSt x = .agg [.int .i64 x.line, .int .i64 x.kind, .list (x.inn.map .str), .list (x.usg.map .str), .list (x.wds.map .str), .str x.out] := rfl
theorem eSt_inj (a b : Stp) (h : eSt a = eSt b) : a = b := by
  cases a; cases b
  simp only [eSt, i64, D.agg.injEq, List.cons.injEq, D.str.injEq, D.int.injEq, D.list.injEq, and_true, true_and, inj_ie] at h
  obtain ⟨rfl, rfl, rfl, rfl, rfl, rfl⟩ := h
  rfl
theorem eSt_ie (a b : Stp) : (eSt a = eSt b) = (a = b) := propext ⟨eSt_inj a b, fun h => by rw [h]⟩
theorem eSts_ie (a b : List Stp) : (a.map eSt = b.map eSt) = (a = b) := map_ie eSt_inj a b
@[go_sem] theorem elemsOK_st (l : List Stp) : elemsOK 6 (l.map eSt) = true := elemsOK_map (f := eSt) (fun _ => ⟨by rfl, by rfl⟩) l
structure StOK (x : Stp) : Prop where
  i : x.inn.length ≤ 1099511627776 ∧ ∀ w ∈ x.inn, w.length ≤ 1099511627776
  u : x.usg.length ≤ 1099511627776 ∧ ∀ w ∈ x.usg, w.length ≤ 1099511627776
  w : x.wds.length ≤ 1099511627776 ∧ ∀ w ∈ x.wds, w.length ≤ 1099511627776
  o : x.out.length ≤ 1099511627776
def namedB (x : Stp) : Bool := x.inn.all refB && (x.usg.all refB && (x.wds.all idB && pathE x.out == 0))
noncomputable def g_named : List D → Option D := encSpec (fun x : Stp => [eSt x]) StOK (fun x => .bool (namedB x))
theorem g_named_eq {x : Stp} (h : StOK x) : g_named [.agg [.int .i64 x.line, .int .i64 x.kind, .list (x.inn.map .str), .list (x.usg.map .str), .list (x.wds.map .str), .str x.out]] = some (.bool (namedB x)) :=
  encSpec_eq (enc := fun x : Stp => [eSt x]) (x := x) h fun y hy => by
    simp only [List.cons.injEq, and_true, eSt_ie] at hy
    rw [hy]
theorem f_named_ok : PureOK Tryz.prog 54 true g_named := by
  have hΓ := (Γp f_isRef_ok (Γp f_nameR5_ok (Γp f_pathR_ok (Γn))))
  refine pure_enc (n := 46) (rs := [.tmp 2]) Tryz.func54 (by kernel_rfl) rfl (by kernel_rfl) (by kernel_rfl) ?_
  rintro x ⟨hi, hu, hw, ho⟩
  refine ⟨fun _ => .bool _, fun k hz0 => ?_⟩
  have e9 := g_pathR_eq ho
  unfold namedB
  rw [eSt_eq]
  rw [start_frame (by simp)]; simp only [enumV, go_sem, emptyH]
  repeat (first
    | (apply axJ; (focus ((with_reducible constructor) <;> rfl)))
    | (apply awT mixedOK hΓ (by kernel_rfl); (simp (disch := omega) only [go_sem, ↓reduceIte, dk, ↓lk] <;> with_reducible rfl))
    | ((first | apply awR hΓ | apply awG | apply awH mixedOK hΓ rfl (by kernel_rfl) | apply ovE rfl); (simp (disch := omega) only [go_sem, ↓reduceIte, dk, ↓lk] <;> with_reducible rfl); exact trivial)
    | rfl)
  refine awp_loop_at (X := Nat) (fun i => (frame 46 [(1, .ptr 0 0), (10, .data (.list (x.inn.map .str))), (11, .data (i64 x.inn.length)), (12, .data (i64 i))])) (fun _ => [(0, .box [.data (.int .i64 x.line), .data (.int .i64 x.kind), .data (.list (x.inn.map .str)), .data (.list (x.usg.map .str)), .data (.list (x.wds.map .str)), .data (.str x.out)])]) 6
    (fun i => i ≤ x.inn.length ∧ (x.inn.take i).all refB = true) (fun i => x.inn.length - i) 0 ⟨Nat.zero_le _, rfl⟩ (Weak.w) ?_
  rintro i ⟨h1, h2⟩
  by_cases hi2 : i < x.inn.length
  · have hyes := fun h => all_next (p := refB) hi2 h2 h
    have hno := fun h => all_no (p := refB) hi2 h
    have e2 := g_isRef_eq (s := x.inn[i]) (hi.2 _ (List.getElem_mem hi2))
    generalize hy : x.inn[i] = y at *
    generalize refB y = c at *
    have hz := hi.1
    cases c
    · rw [hno rfl]
      repeat (first
        | (apply axJ; (focus ((with_reducible constructor) <;> rfl)))
        | (apply awT mixedOK hΓ (by kernel_rfl); (simp (disch := omega) only [go_sem, ↓reduceIte, dk, ↓lk, hy, e2] <;> with_reducible rfl))
        | ((first | apply awR hΓ | apply awG | apply awH mixedOK hΓ rfl (by kernel_rfl) | apply ovE rfl); (simp (disch := omega) only [go_sem, ↓reduceIte, dk, ↓lk, hy, e2] <;> with_reducible rfl); exact trivial)
        | rfl)
      try rfl
    · repeat (first
      | (apply axJ; (focus ((with_reducible constructor) <;> rfl)))
      | (apply awT mixedOK hΓ (by kernel_rfl); (simp (disch := omega) only [go_sem, ↓reduceIte, dk, ↓lk, hy, e2] <;> with_reducible rfl))
      | ((first | apply awR hΓ | apply awG | apply awH mixedOK hΓ rfl (by kernel_rfl) | apply ovE rfl); (simp (disch := omega) only [go_sem, ↓reduceIte, dk, ↓lk, hy, e2] <;> with_reducible rfl); exact trivial)
      | rfl)
      exact ⟨i + 1, ⟨by omega, hyes rfl⟩, by omega, Weak.w⟩
  · have hi3 : i = x.inn.length := by omega
    subst hi3
    rw [List.take_length] at h2
    rw [h2]
    repeat (first
      | (apply axJ; (focus ((with_reducible constructor) <;> rfl)))
      | (apply awT mixedOK hΓ (by kernel_rfl); (simp (disch := omega) only [go_sem, ↓reduceIte, dk, ↓lk] <;> with_reducible rfl))
      | ((first | apply awR hΓ | apply awG | apply awH mixedOK hΓ rfl (by kernel_rfl) | apply ovE rfl); (simp (disch := omega) only [go_sem, ↓reduceIte, dk, ↓lk] <;> with_reducible rfl); exact trivial)
      | rfl)
    refine awp_loop_at (X := Nat) (fun i => (frame 46 [(1, .ptr 0 0), (21, .data (.list (x.usg.map .str))), (22, .data (i64 x.usg.length)), (23, .data (i64 i))])) (fun _ => [(0, .box [.data (.int .i64 x.line), .data (.int .i64 x.kind), .data (.list (x.inn.map .str)), .data (.list (x.usg.map .str)), .data (.list (x.wds.map .str)), .data (.str x.out)])]) 14
      (fun i => i ≤ x.usg.length ∧ (x.usg.take i).all refB = true) (fun i => x.usg.length - i) 0 ⟨Nat.zero_le _, rfl⟩ (Weak.w) ?_
    rintro i ⟨h1, h2⟩
    by_cases hi2 : i < x.usg.length
    · have hyes := fun h => all_next (p := refB) hi2 h2 h
      have hno := fun h => all_no (p := refB) hi2 h
      have e2 := g_isRef_eq (s := x.usg[i]) (hu.2 _ (List.getElem_mem hi2))
      generalize hy : x.usg[i] = y at *
      generalize refB y = c at *
      have hz := hu.1
      cases c
      · rw [hno rfl]
        repeat (first
          | (apply axJ; (focus ((with_reducible constructor) <;> rfl)))
          | (apply awT mixedOK hΓ (by kernel_rfl); (simp (disch := omega) only [go_sem, ↓reduceIte, dk, ↓lk, hy, e2] <;> with_reducible rfl))
          | ((first | apply awR hΓ | apply awG | apply awH mixedOK hΓ rfl (by kernel_rfl) | apply ovE rfl); (simp (disch := omega) only [go_sem, ↓reduceIte, dk, ↓lk, hy, e2] <;> with_reducible rfl); exact trivial)
          | rfl)
        try rfl
      · repeat (first
        | (apply axJ; (focus ((with_reducible constructor) <;> rfl)))
        | (apply awT mixedOK hΓ (by kernel_rfl); (simp (disch := omega) only [go_sem, ↓reduceIte, dk, ↓lk, hy, e2] <;> with_reducible rfl))
        | ((first | apply awR hΓ | apply awG | apply awH mixedOK hΓ rfl (by kernel_rfl) | apply ovE rfl); (simp (disch := omega) only [go_sem, ↓reduceIte, dk, ↓lk, hy, e2] <;> with_reducible rfl); exact trivial)
        | rfl)
        exact ⟨i + 1, ⟨by omega, hyes rfl⟩, by omega, Weak.w⟩
    · have hi3 : i = x.usg.length := by omega
      subst hi3
      rw [List.take_length] at h2
      rw [h2]
      repeat (first
        | (apply axJ; (focus ((with_reducible constructor) <;> rfl)))
        | (apply awT mixedOK hΓ (by kernel_rfl); (simp (disch := omega) only [go_sem, ↓reduceIte, dk, ↓lk] <;> with_reducible rfl))
        | ((first | apply awR hΓ | apply awG | apply awH mixedOK hΓ rfl (by kernel_rfl) | apply ovE rfl); (simp (disch := omega) only [go_sem, ↓reduceIte, dk, ↓lk] <;> with_reducible rfl); exact trivial)
        | rfl)
      refine awp_loop_at (X := Nat) (fun i => (frame 46 [(1, .ptr 0 0), (32, .data (.list (x.wds.map .str))), (33, .data (i64 x.wds.length)), (34, .data (i64 i))])) (fun _ => [(0, .box [.data (.int .i64 x.line), .data (.int .i64 x.kind), .data (.list (x.inn.map .str)), .data (.list (x.usg.map .str)), .data (.list (x.wds.map .str)), .data (.str x.out)])]) 22
        (fun i => i ≤ x.wds.length ∧ (x.wds.take i).all idB = true) (fun i => x.wds.length - i) 0 ⟨Nat.zero_le _, rfl⟩ (Weak.w) ?_
      rintro i ⟨h1, h2⟩
      by_cases hi2 : i < x.wds.length
      · have hyes := fun h => all_next (p := idB) hi2 h2 h
        have hno := fun h => all_no (p := idB) hi2 h
        have e2 := g_nameR5_eq (s := x.wds[i]) (hw.2 _ (List.getElem_mem hi2))
        generalize hy : x.wds[i] = y at *
        generalize idB y = c at *
        have hz := hw.1
        cases c
        · rw [hno rfl]
          repeat (first
            | (apply axJ; (focus ((with_reducible constructor) <;> rfl)))
            | (apply awT mixedOK hΓ (by kernel_rfl); (simp (disch := omega) only [go_sem, ↓reduceIte, dk, ↓lk, hy, e2] <;> with_reducible rfl))
            | ((first | apply awR hΓ | apply awG | apply awH mixedOK hΓ rfl (by kernel_rfl) | apply ovE rfl); (simp (disch := omega) only [go_sem, ↓reduceIte, dk, ↓lk, hy, e2] <;> with_reducible rfl); exact trivial)
            | rfl)
          try rfl
        · repeat (first
          | (apply axJ; (focus ((with_reducible constructor) <;> rfl)))
          | (apply awT mixedOK hΓ (by kernel_rfl); (simp (disch := omega) only [go_sem, ↓reduceIte, dk, ↓lk, hy, e2] <;> with_reducible rfl))
          | ((first | apply awR hΓ | apply awG | apply awH mixedOK hΓ rfl (by kernel_rfl) | apply ovE rfl); (simp (disch := omega) only [go_sem, ↓reduceIte, dk, ↓lk, hy, e2] <;> with_reducible rfl); exact trivial)
          | rfl)
          exact ⟨i + 1, ⟨by omega, hyes rfl⟩, by omega, Weak.w⟩
      · have hi3 : i = x.wds.length := by omega
        subst hi3
        rw [List.take_length] at h2
        rw [h2]
        repeat (first
          | (apply axJ; (focus ((with_reducible constructor) <;> rfl)))
          | (apply awT mixedOK hΓ (by kernel_rfl); (simp (disch := omega) only [go_sem, ↓reduceIte, dk, ↓lk, e9] <;> with_reducible rfl))
          | ((first | apply awR hΓ | apply awG | apply awH mixedOK hΓ rfl (by kernel_rfl) | apply ovE rfl); (simp (disch := omega) only [go_sem, ↓reduceIte, dk, ↓lk, e9] <;> with_reducible rfl); exact trivial)
          | rfl)
        try rfl
end Go.Ab
namespace Go.Ab
open Go Go.RowKit Go.Proofs
set_option maxRecDepth 10000
set_option maxHeartbeats 16000000
def litS : List (Bs × UInt8) → Bs
  | [] => []
  | (n, c) :: r => n ++ [c, 32] ++ litS r
def nsg (g : Gp) : Bs × UInt8 := (g.name, signB g)
theorem formS_lit (l : List Gp) : formS l = litS (l.map nsg) := by
  induction l with
  | nil => rfl
  | cons g l ih => rw [formS, ih]; rfl
def okN (p : Bs × UInt8) : Prop := (∀ b ∈ p.1, b ≠ 32) ∧ p.2 ≠ 32
theorem litS_inj : ∀ (a b : List (Bs × UInt8)), (∀ p ∈ a, okN p) → (∀ p ∈ b, okN p) → litS a = litS b → a = b
  | [], [], _, _, _ => rfl
  | [], (n, c) :: r, _, _, h => by
    have := congrArg List.length h
    simp [litS] at this
  | (n, c) :: r, [], _, _, h => by
    have := congrArg List.length h
    simp [litS] at this
  | (n, c) :: r, (m, d) :: q, ha, hb, h => by
    obtain ⟨a1, a2⟩ := ha (n, c) (by simp)
    obtain ⟨b1, b2⟩ := hb (m, d) (by simp)
    have key : ∀ (x y : Bs) (s t : Bs), (∀ b ∈ x, b ≠ 32) → (∀ b ∈ y, b ≠ 32) → x ++ 32 :: s = y ++ 32 :: t → x = y ∧ s = t := by
      intro x
      induction x with
      | nil =>
        intro y s t _ hy e
        cases y with
        | nil => simp at e; exact ⟨rfl, e⟩
        | cons z y => simp at e; exact absurd e.1.symm (hy z (by simp))
      | cons z x ih =>
        intro y s t hx hy e
        cases y with
        | nil => simp at e; exact absurd e.1 (hx z (by simp))
        | cons z' y =>
          simp only [List.cons_append, List.cons.injEq] at e
          obtain ⟨rfl, e⟩ := e
          obtain ⟨rfl, h2⟩ := ih y s t (fun b hb => hx b (by simp [hb])) (fun b hb => hy b (by simp [hb])) e
          exact ⟨rfl, h2⟩
    have e : (n ++ [c]) ++ 32 :: litS r = (m ++ [d]) ++ 32 :: litS q := by
      have := h
      simp only [litS] at this
      simpa using this
    obtain ⟨h1, h2⟩ := key (n ++ [c]) (m ++ [d]) _ _ (fun b hb => by
      rcases List.mem_append.1 hb with hb | hb
      · exact a1 b hb
      · rw [List.mem_singleton.1 hb]; exact a2) (fun b hb => by
      rcases List.mem_append.1 hb with hb | hb
      · exact b1 b hb
      · rw [List.mem_singleton.1 hb]; exact b2) e
    have h3 := List.append_inj' h1 rfl
    obtain ⟨rfl, h4⟩ := h3
    cases h4
    rw [litS_inj r q (fun p hp => ha p (by simp [hp])) (fun p hp => hb p (by simp [hp])) h2]
def NoBl (l : List Gp) : Prop := ∀ g ∈ l, ∀ b ∈ g.name, b ≠ 32
theorem sign_ne (g : Gp) : signB g ≠ 32 := by
  unfold signB
  split
  · rename_i h
    have : ∀ n : Nat, n < 2 → UInt8.ofNat (48 + n) ≠ 32 := by decide
    exact this _ h
  · decide
theorem form_is {l : List Gp} (hb : NoBl l) {q : List (Bs × UInt8)} (hq : ∀ p ∈ q, okN p) (h : formS l = litS q) : l.map nsg = q :=
  litS_inj _ _ (fun p hp => by
    obtain ⟨g, hg, rfl⟩ := List.mem_map.1 hp
    exact ⟨hb g hg, sign_ne g⟩) hq (by rw [← formS_lit]; exact h)
theorem sign_one {g : Gp} (h : signB g = 49) : ∃ w, g.words = [w] := by
  unfold signB at h
  split at h
  · rename_i h2
    have h3 : g.words.length = 1 := by
      have : ∀ n : Nat, n < 2 → UInt8.ofNat (48 + n) = 49 → n = 1 := by decide
      exact this _ h2 h
    exact List.length_eq_one_iff.1 h3
  · exact absurd h (by decide)
theorem sign_many {g : Gp} (h : signB g = 43) : ∃ w v r, g.words = w :: v :: r := by
  unfold signB at h
  split at h
  · rename_i h2
    have : ∀ n : Nat, n < 2 → UInt8.ofNat (48 + n) ≠ 43 := by decide
    exact absurd h (this _ h2)
  · rename_i h2
    match hw : g.words, h2 with
    | [], h2 => simp at h2
    | [w], h2 => simp at h2
    | w :: v :: r, _ => exact ⟨w, v, r, rfl⟩
theorem map2 {l : List Gp} {a b : Bs × UInt8} (h : l.map nsg = [a, b]) : ∃ g0 g1, l = [g0, g1] ∧ signB g0 = a.2 ∧ signB g1 = b.2 := by
  match l, h with
  | [g0, g1], h => simp only [List.map_cons, List.map_nil, List.cons.injEq, and_true] at h; exact ⟨g0, g1, rfl, by rw [← h.1]; rfl, by rw [← h.2]; rfl⟩
theorem map3 {l : List Gp} {a b c : Bs × UInt8} (h : l.map nsg = [a, b, c]) : ∃ g0 g1 g2, l = [g0, g1, g2] ∧ signB g0 = a.2 ∧ signB g1 = b.2 ∧ signB g2 = c.2 := by
  match l, h with
  | [g0, g1, g2], h => simp only [List.map_cons, List.map_nil, List.cons.injEq, and_true] at h; exact ⟨g0, g1, g2, rfl, by rw [← h.1]; rfl, by rw [← h.2.1]; rfl, by rw [← h.2.2]; rfl⟩
theorem map4 {l : List Gp} {a b c d : Bs × UInt8} (h : l.map nsg = [a, b, c, d]) : ∃ g0 g1 g2 g3, l = [g0, g1, g2, g3] ∧ signB g0 = a.2 ∧ signB g1 = b.2 ∧ signB g2 = c.2 ∧ signB g3 = d.2 := by
  match l, h with
  | [g0, g1, g2, g3], h => simp only [List.map_cons, List.map_nil, List.cons.injEq, and_true] at h; exact ⟨g0, g1, g2, g3, rfl, by rw [← h.1]; rfl, by rw [← h.2.1]; rfl, by rw [← h.2.2.1]; rfl, by rw [← h.2.2.2]; rfl⟩
def kCompile : Bs := [99, 111, 109, 112, 105, 108, 101]
def kArchive : Bs := [97, 114, 99, 104, 105, 118, 101]
def kShare : Bs := [115, 104, 97, 114, 101]
def kLink : Bs := [108, 105, 110, 107]
def kRun : Bs := [114, 117, 110]
def kPatch : Bs := [112, 97, 116, 99, 104]
def kCopy : Bs := [99, 111, 112, 121]
def kInstall : Bs := [105, 110, 115, 116, 97, 108, 108]
def kTo : Bs := [116, 111]
def kWith : Bs := [119, 105, 116, 104]
def kUsing : Bs := [117, 115, 105, 110, 103]
def kOn : Bs := [111, 110]
def kAs : Bs := [97, 115]
def cc1 (s : Bs) : Bool := s == [99, 111, 109, 112, 105, 108, 101, 49, 32, 116, 111, 49, 32]
def cc2 (s : Bs) : Bool := someB s [99, 111, 109, 112, 105, 108, 101, 49, 32, 116, 111, 49, 32, 119, 105, 116, 104] []
def cc3 (s : Bs) : Bool := someB s [97, 114, 99, 104, 105, 118, 101] [116, 111, 49, 32]
def cc4 (s : Bs) : Bool := someB s [115, 104, 97, 114, 101] [116, 111, 49, 32]
def cc5 (s : Bs) : Bool := s == [108, 105, 110, 107, 43, 32, 116, 111, 49, 32]
def cc6 (s : Bs) : Bool := someB s [108, 105, 110, 107, 43, 32, 117, 115, 105, 110, 103] [116, 111, 49, 32]
def cc7 (s : Bs) : Bool := s == [114, 117, 110, 49, 32, 111, 110, 49, 32, 116, 111, 49, 32]
def cc8 (s : Bs) : Bool := someB s [114, 117, 110, 49, 32, 117, 115, 105, 110, 103] [111, 110, 49, 32, 116, 111, 49, 32]
def cc9 (s : Bs) : Bool := s == [112, 97, 116, 99, 104, 49, 32, 119, 105, 116, 104, 49, 32, 116, 111, 49, 32]
def cc10 (s : Bs) : Bool := s == [99, 111, 112, 121, 49, 32, 116, 111, 49, 32]
def cc11 (s : Bs) : Bool := s == [105, 110, 115, 116, 97, 108, 108, 49, 32, 97, 115, 49, 32]
def gAt (l : List Gp) (i : Nat) : List Bs := (l.getD i ⟨[], []⟩).words
def outR (l : List Gp) : Bs := if decide ((l.length : Int) > 1) then (gAt l (l.length - 1)).headD [] else []
def stepG (s : Bs) (l : List Gp) : Stp × Bool :=
  if cc1 s then (⟨0, 1, gAt l 0, [], [], outR l⟩, true)
  else if cc2 s then (⟨0, 1, gAt l 0, [], gAt l 2, (gAt l 1).headD []⟩, true)
  else if cc3 s then (⟨0, 2, gAt l 0, [], [], outR l⟩, true)
  else if cc4 s then (⟨0, 3, gAt l 0, [], [], outR l⟩, true)
  else if cc5 s then (⟨0, 4, (gAt l 0).drop 1, [], (gAt l 0).take 1, outR l⟩, true)
  else if cc6 s then (⟨0, 4, (gAt l 0).drop 1, gAt l 1, (gAt l 0).take 1, outR l⟩, true)
  else if cc7 s then (⟨0, 5, [(gAt l 0).headD [], (gAt l 1).headD []], [], [], outR l⟩, true)
  else if cc8 s then (⟨0, 5, [(gAt l 0).headD [], (gAt l 2).headD []], gAt l 1, [], outR l⟩, true)
  else if cc9 s then (⟨0, 6, [(gAt l 0).headD [], (gAt l 1).headD []], [], [], outR l⟩, true)
  else if cc10 s then (⟨0, 7, gAt l 0, [], [], outR l⟩, true)
  else if cc11 s then (⟨0, 8, gAt l 0, [], [], outR l⟩, true)
  else (⟨0, 0, [], [], [], []⟩, false)
def stepR (l : List Gp) : Stp × Bool := stepG (formS l) l
theorem some_or {s b e : Bs} (h : someB s b e = true) : s = b ++ [49, 32] ++ e ∨ s = b ++ [43, 32] ++ e := by
  unfold someB at h
  simpa using h
theorem cc2_is {l : List Gp} (hb : NoBl l) (h : cc2 (formS l) = true) : ∃ g0 g1 g2, l = [g0, g1, g2] := by
  rcases some_or h with h | h
  · obtain ⟨g0, g1, g2, h, _⟩ := map3 (form_is hb (q := [(kCompile, 49), (kTo, 49), (kWith, 49)]) (by unfold okN; decide) h)
    exact ⟨g0, g1, g2, h⟩
  · obtain ⟨g0, g1, g2, h, _⟩ := map3 (form_is hb (q := [(kCompile, 49), (kTo, 49), (kWith, 43)]) (by unfold okN; decide) h)
    exact ⟨g0, g1, g2, h⟩
theorem cc5_is {l : List Gp} (hb : NoBl l) (h : cc5 (formS l) = true) : ∃ g0 g1 w v r, l = [g0, g1] ∧ g0.words = w :: v :: r := by
  obtain ⟨g0, g1, h1, h2, _⟩ := map2 (form_is hb (q := [(kLink, 43), (kTo, 49)]) (by unfold okN; decide) (eq_of_beq h))
  obtain ⟨w, v, r, h3⟩ := sign_many h2
  exact ⟨g0, g1, w, v, r, h1, h3⟩
theorem cc6_is {l : List Gp} (hb : NoBl l) (h : cc6 (formS l) = true) : ∃ g0 g1 g2 w v r, l = [g0, g1, g2] ∧ g0.words = w :: v :: r := by
  rcases some_or h with h | h
  · obtain ⟨g0, g1, g2, h1, h2, _⟩ := map3 (form_is hb (q := [(kLink, 43), (kUsing, 49), (kTo, 49)]) (by unfold okN; decide) h)
    obtain ⟨w, v, r, h3⟩ := sign_many h2
    exact ⟨g0, g1, g2, w, v, r, h1, h3⟩
  · obtain ⟨g0, g1, g2, h1, h2, _⟩ := map3 (form_is hb (q := [(kLink, 43), (kUsing, 43), (kTo, 49)]) (by unfold okN; decide) h)
    obtain ⟨w, v, r, h3⟩ := sign_many h2
    exact ⟨g0, g1, g2, w, v, r, h1, h3⟩
theorem cc7_is {l : List Gp} (hb : NoBl l) (h : cc7 (formS l) = true) : ∃ g0 g1 g2 w v, l = [g0, g1, g2] ∧ g0.words = [w] ∧ g1.words = [v] := by
  obtain ⟨g0, g1, g2, h1, h2, h3, _⟩ := map3 (form_is hb (q := [(kRun, 49), (kOn, 49), (kTo, 49)]) (by unfold okN; decide) (eq_of_beq h))
  obtain ⟨w, h4⟩ := sign_one h2
  obtain ⟨v, h5⟩ := sign_one h3
  exact ⟨g0, g1, g2, w, v, h1, h4, h5⟩
theorem cc9_is {l : List Gp} (hb : NoBl l) (h : cc9 (formS l) = true) : ∃ g0 g1 g2 w v, l = [g0, g1, g2] ∧ g0.words = [w] ∧ g1.words = [v] := by
  obtain ⟨g0, g1, g2, h1, h2, h3, _⟩ := map3 (form_is hb (q := [(kPatch, 49), (kWith, 49), (kTo, 49)]) (by unfold okN; decide) (eq_of_beq h))
  obtain ⟨w, h4⟩ := sign_one h2
  obtain ⟨v, h5⟩ := sign_one h3
  exact ⟨g0, g1, g2, w, v, h1, h4, h5⟩
theorem cc8_is {l : List Gp} (hb : NoBl l) (h : cc8 (formS l) = true) : ∃ g0 g1 g2 g3 w v, l = [g0, g1, g2, g3] ∧ g0.words = [w] ∧ g2.words = [v] := by
  rcases some_or h with h | h
  · obtain ⟨g0, g1, g2, g3, h1, h2, _, h3, _⟩ := map4 (form_is hb (q := [(kRun, 49), (kUsing, 49), (kOn, 49), (kTo, 49)]) (by unfold okN; decide) h)
    obtain ⟨w, h4⟩ := sign_one h2
    obtain ⟨v, h5⟩ := sign_one h3
    exact ⟨g0, g1, g2, g3, w, v, h1, h4, h5⟩
  · obtain ⟨g0, g1, g2, g3, h1, h2, _, h3, _⟩ := map4 (form_is hb (q := [(kRun, 49), (kUsing, 43), (kOn, 49), (kTo, 49)]) (by unfold okN; decide) h)
    obtain ⟨w, h4⟩ := sign_one h2
    obtain ⟨v, h5⟩ := sign_one h3
    exact ⟨g0, g1, g2, g3, w, v, h1, h4, h5⟩
end Go.Ab
