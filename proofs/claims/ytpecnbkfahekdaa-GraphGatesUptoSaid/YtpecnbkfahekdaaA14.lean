/-
  One text of the proof (own work): contracts of functions of the program, by the abstract machine.
-/
import Derived.Test.YtpecnbkfahekdaaA13
set_option linter.unusedVariables false
set_option linter.unusedSimpArgs false
namespace Go.Ab
open Go Go.RowKit Go.Proofs
set_option maxRecDepth 4000
set_option maxHeartbeats 2000000

theorem lay_one {cells : List AV} {v : Nat} (x : AV) (h : v < cells.length) : lay (v * 1 + 0) [x] cells = some (cells.set v x) := by
  rw [Nat.mul_one, Nat.add_zero]
  induction cells generalizing v with
  | nil => simp at h
  | cons y r ih =>
    cases v with
    | zero => simp [lay]
    | succ v => simp [lay, ih (show v < r.length by simpa using h)]
theorem drop_one {cells : List AV} {v : Nat} {x : AV} (h : cells[v]? = some x) : cells.drop (v * 1 + 0) = x :: cells.drop (v + 1) := by
  obtain ⟨hv, hx⟩ := List.getElem?_eq_some_iff.1 h
  rw [Nat.mul_one, Nat.add_zero, List.drop_eq_getElem_cons hv, hx]
/-- Both ends of an edge, turned if asked. -/
def ends (back : Bool) (e : Edge) : Int × Int := if back then (e.to, e.fr) else (e.fr, e.to)
/-- Rows to which the first edges have been added. -/
def nbAdd (back : Bool) (L : List (List Int)) (e : Edge) : List (List Int) := L.set (ends back e).1.toNat (L.getD (ends back e).1.toNat [] ++ [(ends back e).2])
def nbs (g : Graph) (back : Bool) : List (List Int) := g.edges.foldl (nbAdd back) (List.replicate g.nodes.length [])
theorem refsOKs_of {n : Nat} : ∀ {l : List AV}, (∀ x ∈ l, x.refsOK n = true) → refsOKs n l = true
  | [], _ => rfl
  | x :: r, h => by simp only [refsOKs, h x List.mem_cons_self, refsOKs_of (l := r) fun y hy => h y (List.mem_cons_of_mem _ hy), Bool.and_self]
theorem Weak.sub {b : Nat} {sl sl' : List AV} {tab tab' : List (Nat × Obj)} {n n' : Nat} (hb : b ≤ n') (h1 : ConvL ⟨tab, n⟩ sl sl') (h2 : ∀ o x, look tab' o = some x → look tab o = some x ∧ o < n' ∧ x.refsOK n' = true) (h3 : refsOKs n' sl' = true) : Weak b sl ⟨tab, n⟩ sl' ⟨tab', n'⟩ := fun c θ w a hc hs =>
  ⟨θ, (hs.conv h1).trim (fun o x h => h2 o x h) h3 (by rw [hc]; exact hb), fun o x' _ hx => ⟨x', (h2 o x' hx).1, x'.evo_refl, fun _ => rfl⟩⟩
structure RowsOK (n N m : Nat) (L : List (List Int)) (cells : List AV) (fam : List (Nat × Obj)) : Prop where
  len : L.length = n
  clen : cells.length = n
  cell : ∀ v (h : v < L.length), (L[v] = [] ∧ cells[v]? = some AV.nils) ∨ ∃ o, 5 < o ∧ o < N ∧ cells[v]? = some (AV.row o L[v].length) ∧ look fam o = some (Obj.row 3 1 (L[v].map i64))
  inj : ∀ (v v' o k k' : Nat), cells[v]? = some (AV.row o k) → cells[v']? = some (AV.row o k') → v = v'
  bnd : ∀ (o : Nat) (x : Obj), look fam o = some x → 5 < o ∧ o < N ∧ ∀ k, x.refsOK k = true
  size : ∀ v (h : v < L.length), L[v].length ≤ m
theorem RowsOK.refs {n N m : Nat} {L : List (List Int)} {cells : List AV} {fam : List (Nat × Obj)} (h : RowsOK n N m L cells fam) : refsOKs N cells = true := refsOKs_of fun x hx => by
  obtain ⟨v, hv, rfl⟩ := List.mem_iff_getElem.1 hx
  rcases h.cell v (by rw [h.len, ← h.clen]; exact hv) with ⟨_, h2⟩ | ⟨o, _, h1, h2, _⟩
  · rw [List.getElem?_eq_getElem hv] at h2
    rw [Option.some.inj h2]
    rfl
  · rw [List.getElem?_eq_getElem hv] at h2
    rw [Option.some.inj h2]
    simpa [AV.refsOK] using h1
theorem RowsOK.begin (n : Nat) : RowsOK n 100 0 (List.replicate n []) (List.replicate n .nils) [] := by
  refine ⟨by simp, by simp, fun v hv => .inl ?_, fun v v' o k k' h => ?_, fun o x h => by simp [look] at h, fun v hv => by simp⟩
  · simp at hv; simp [hv]
  · rw [List.getElem?_replicate] at h
    split at h <;> cases h
theorem RowsOK.new {n N m nm N' : Nat} {L : List (List Int)} {cells : List AV} {fam : List (Nat × Obj)} (h : RowsOK n N m L cells fam) {v : Nat} (hv : v < L.length) (b : Int) (h5 : 5 < nm) (h1 : N ≤ nm) (h2 : nm < N') (he : L[v] = []) :
    RowsOK n N' (m + 1) (L.set v [b]) (cells.set v (.row nm 1)) (upd fam nm (.row 3 1 [i64 b])) := by
  have hvc : v < cells.length := by rw [h.clen, ← h.len]; exact hv
  have hold : ∀ (v' o k : Nat), cells[v']? = some (AV.row o k) → o ≠ nm := fun v' o k hc => by
    have hv' : v' < L.length := by rw [h.len, ← h.clen]; exact (List.getElem?_eq_some_iff.1 hc).1
    rcases h.cell v' hv' with ⟨_, h3⟩ | ⟨o', _, h3, h4, _⟩
    · rw [hc] at h3; cases h3
    · rw [hc] at h4; cases h4; omega
  refine ⟨by simp [h.len], by simp [h.clen], fun u hu => ?_, fun u u' o k k' hu hu' => ?_, fun o x ho => ?_, fun u hu => ?_⟩
  · simp only [List.length_set] at hu
    rw [List.getElem_set, List.getElem?_set]
    by_cases huv : v = u
    · subst huv
      refine .inr ⟨nm, h5, h2, ?_, ?_⟩
      · simp [hvc]
      · simp [look_upd]
    · simp only [huv, if_false]
      rcases h.cell u hu with h3 | ⟨o, g1, g2, g3, g4⟩
      · exact .inl h3
      · refine .inr ⟨o, g1, by omega, g3, ?_⟩
        rw [look_upd, if_neg (by omega), g4]
  · rw [List.getElem?_set] at hu hu'
    by_cases huv : v = u
    · by_cases huv' : v = u'
      · omega
      · simp only [huv, if_true] at hu
        simp only [huv', if_false] at hu'
        subst huv
        simp only [hvc, if_true, Option.some.injEq, AV.row.injEq] at hu
        exact absurd hu.1.symm (hold _ _ _ hu')
    · simp only [huv, if_false] at hu
      by_cases huv' : v = u'
      · subst huv'
        simp only [if_true, hvc, Option.some.injEq, AV.row.injEq] at hu'
        exact absurd hu'.1.symm (hold _ _ _ hu)
      · simp only [huv', if_false] at hu'
        exact h.inj _ _ _ _ _ hu hu'
  · rw [look_upd] at ho
    split at ho
    · rename_i he
      subst he
      cases ho
      exact ⟨h5, h2, fun _ => rfl⟩
    · obtain ⟨g1, g2, g3⟩ := h.bnd o x ho
      exact ⟨g1, by omega, g3⟩
  · simp only [List.length_set] at hu
    rw [List.getElem_set]
    split
    · simp
    · have := h.size u hu; omega
theorem RowsOK.add {n N m N' o : Nat} {L : List (List Int)} {cells : List AV} {fam : List (Nat × Obj)} (h : RowsOK n N m L cells fam) {v : Nat} (hv : v < L.length) (b : Int) (hN : N ≤ N') (hc : cells[v]? = some (.row o L[v].length)) (hl : look fam o = some (.row 3 1 (L[v].map i64))) :
    RowsOK n N' (m + 1) (L.set v (L[v] ++ [b])) (cells.set v (.row o (L[v].length + 1))) (upd fam o (.row 3 1 (L[v].map i64 ++ [i64 b]))) := by
  have hvc : v < cells.length := by rw [h.clen, ← h.len]; exact hv
  refine ⟨by simp [h.len], by simp [h.clen], fun u hu => ?_, fun u u' o2 k k' hu hu' => ?_, fun o2 x ho => ?_, fun u hu => ?_⟩
  · simp only [List.length_set] at hu
    rw [List.getElem_set, List.getElem?_set]
    by_cases huv : v = u
    · subst huv
      obtain ⟨g1, g2, _⟩ := h.bnd o _ hl
      refine .inr ⟨o, g1, by omega, ?_, ?_⟩
      · simp [hvc]
      · simp [look_upd]
    · simp only [huv, if_false]
      rcases h.cell u hu with h3 | ⟨o2, g1, g2, g3, g4⟩
      · exact .inl h3
      · refine .inr ⟨o2, g1, by omega, g3, ?_⟩
        rw [look_upd, if_neg (fun he => ?_), g4]
        subst he
        exact huv (h.inj _ _ _ _ _ hc g3)
  · have key : ∀ (u o2 k : Nat), (cells.set v (.row o (L[v].length + 1)))[u]? = some (AV.row o2 k) → ∃ k', cells[u]? = some (AV.row o2 k') := fun u o2 k hh => by
      rw [List.getElem?_set] at hh
      by_cases huv : v = u
      · subst huv
        simp only [if_true, hvc, Option.some.injEq, AV.row.injEq] at hh
        rw [← hh.1]
        exact ⟨_, hc⟩
      · simp only [huv, if_false] at hh
        exact ⟨_, hh⟩
    obtain ⟨k1, h1⟩ := key _ _ _ hu
    obtain ⟨k2, h2⟩ := key _ _ _ hu'
    exact h.inj _ _ _ _ _ h1 h2
  · rw [look_upd] at ho
    split at ho
    · rename_i he
      subst he
      cases ho
      obtain ⟨g1, g2, _⟩ := h.bnd o2 _ hl
      exact ⟨g1, by omega, fun _ => rfl⟩
    · obtain ⟨g1, g2, g3⟩ := h.bnd o2 x ho
      exact ⟨g1, by omega, g3⟩
  · simp only [List.length_set] at hu
    rw [List.getElem_set]
    split
    · have := h.size v hv; simp only [List.length_append, List.length_singleton]; omega
    · have := h.size u hu; omega
theorem RowsOK.read {n N m k : Nat} {L : List (List Int)} {cells : List AV} {fam : List (Nat × Obj)} (h : RowsOK n N m L cells fam) (x : Obj) (k3 : Nat) : mapOpt (toD ⟨(5, x) :: fam, k⟩ (k3 + 1)) cells = some (L.map ints) := by
  have hlen : cells.length = L.length := by rw [h.clen, h.len]
  have hcell : ∀ v (hv : v < cells.length), toD ⟨(5, x) :: fam, k⟩ (k3 + 1) cells[v] = some (ints (L[v]'(by omega))) := fun v hv => by
    rcases h.cell v (by omega) with ⟨h1, h2⟩ | ⟨o, g1, g2, g3, g4⟩
    · rw [List.getElem?_eq_getElem hv] at h2
      rw [Option.some.inj h2, h1]
      rfl
    · rw [List.getElem?_eq_getElem hv] at g3
      rw [Option.some.inj g3]
      simp only [toD, Heap.get, look, if_neg (show ¬ o = 5 by omega), g4, List.length_map, if_true]
  clear h
  revert hcell
  generalize toD ⟨(5, x) :: fam, k⟩ (k3 + 1) = f
  induction cells generalizing L with
  | nil => intro _; cases L with
    | nil => rfl
    | cons y r => simp at hlen
  | cons c r ih =>
    intro hcell
    cases L with
    | nil => simp at hlen
    | cons y q =>
      have h0 := hcell 0 (by simp)
      have hr := ih (L := q) (by simpa using hlen) fun v hv => by have := hcell (v + 1) (by simpa using hv); simpa using this
      simp only [List.getElem_cons_zero] at h0
      simp only [mapOpt, h0, hr, List.map_cons]
noncomputable def g29 : List D → Option D := encSpec (fun x : Graph × Bool => [gD x.1, .bool x.2]) (fun x => Fit x.1) (fun x => .list ((nbs x.1 x.2).map ints))
theorem f29_ok : PureOK Try.prog 29 false g29 := by
  have hΓ := Γ1_ok
  refine pure_enc (n := 41) (rs := [.tmp 4]) Try.func29 (by kernel_rfl) rfl (by kernel_rfl) (by kernel_rfl) ?_
  rintro ⟨g, back⟩ ⟨hn, he, hin⟩
  dsimp only at hn he hin
  refine ⟨fun h => (by cases h), fun c hz0 => ?_⟩
  simp only [start, go_sem, emptyH, List.replicate_succ, List.replicate_zero]
  repeat (first
    | refine awp_seq ?_ | refine awp_block ?_ | refine awp_ret ?_ | refine awp_skip ?_ | refine awp_exit ?_ | refine awp_label ?_
    | refine then_normal ?_ | refine then_ret ?_ | refine then_exit ?_ | refine block_normal ?_ | refine block_ret ?_ | refine block_exit ?_ | refine block_out rfl ?_
    | (apply awp_regN hΓ; (focus (simp (disch := omega) only [go_sem, decide_eq_true, decide_eq_false, if_pos, if_neg, wrap_in, maxLen, zeroLoose, partsLoose, arrRep]; with_reducible rfl)))
    | (apply awp_regf mixedOK hΓ (by kernel_rfl); (focus (simp (disch := omega) only [go_sem, decide_eq_true, decide_eq_false, if_pos, if_neg, wrap_in, maxLen, zeroLoose, partsLoose, arrRep]; with_reducible rfl)); (focus (simp only [go_sem]; with_reducible rfl)))
    | (apply awp_regt mixedOK hΓ rfl; (focus kernel_rfl); (focus (simp (disch := omega) only [go_sem, decide_eq_true, decide_eq_false, if_pos, if_neg, wrap_in, maxLen, zeroLoose, partsLoose, arrRep]; with_reducible rfl)); (focus (simp only [go_sem]; with_reducible rfl)); (focus (simp (disch := omega) only [go_sem, decide_eq_true, decide_eq_false, if_pos, if_neg, wrap_in, maxLen, zeroLoose, partsLoose, arrRep]; with_reducible rfl)))
    | (apply awp_cond_t; (focus (simp (disch := omega) only [go_sem, decide_eq_true, decide_eq_false, if_pos, if_neg, wrap_in, maxLen, zeroLoose, partsLoose, arrRep]; done))) | (apply awp_cond_f; (focus (simp (disch := omega) only [go_sem, decide_eq_true, decide_eq_false, if_pos, if_neg, wrap_in, maxLen, zeroLoose, partsLoose, arrRep]; done)))
    | (apply ret_e; (focus (simp (disch := omega) only [go_sem, decide_eq_true, decide_eq_false, if_pos, if_neg, wrap_in, maxLen, zeroLoose, partsLoose, arrRep]; with_reducible rfl)); (focus (simp (disch := omega) only [go_sem, decide_eq_true, decide_eq_false, if_pos, if_neg, wrap_in, maxLen, zeroLoose, partsLoose, arrRep]; with_reducible rfl))) | (apply end_e; (focus (simp (disch := omega) only [go_sem, decide_eq_true, decide_eq_false, if_pos, if_neg, wrap_in, maxLen, zeroLoose, partsLoose, arrRep]; with_reducible rfl)); (focus (simp (disch := omega) only [go_sem, decide_eq_true, decide_eq_false, if_pos, if_neg, wrap_in, maxLen, zeroLoose, partsLoose, arrRep]; with_reducible rfl)))
    | rfl)
  refine awp_loop_atN (X := Nat × List (List Int) × List AV × List (Nat × Obj)) (fun x => (.junk :: .data (.bool back) :: .junk :: .junk :: .junk :: .row 5 g.nodes.length :: .junk :: .junk :: .junk :: .junk :: .junk :: .junk :: .junk :: .data (.list (g.edges.map eD)) :: .data (i64 g.edges.length) :: .data (i64 x.1) :: .junk :: .junk :: .junk :: .junk :: .junk :: .junk :: .junk :: .junk :: .junk :: .junk :: .junk :: .junk :: .junk :: .junk :: .junk :: .junk :: .junk :: .junk :: .junk :: .junk :: .junk :: .junk :: .junk :: .junk :: .junk :: []))
    (fun x => (5, .arr 28 1 g.nodes.length x.2.2.1) :: x.2.2.2) (fun x => 100 + 100 * x.1)
    (fun x => x.1 ≤ g.edges.length ∧ x.2.1 = (g.edges.take x.1).foldl (nbAdd back) (List.replicate g.nodes.length []) ∧ RowsOK g.nodes.length (100 + 100 * x.1) x.1 x.2.1 x.2.2.1 x.2.2.2) (fun x => g.edges.length - x.1)
    (0, List.replicate g.nodes.length [], List.replicate g.nodes.length .nils, []) ⟨Nat.zero_le _, rfl, RowsOK.begin _⟩ (by
      refine Weak.sub (by omega) (by simp [ConvL, Conv]) (fun o x ho => ?_) (by simp [refsOKs, AV.refsOK])
      simp only [look] at ho
      split at ho
      · rename_i h5
        subst h5
        cases ho
        exact ⟨by simp [look], by omega, (RowsOK.begin g.nodes.length).refs⟩
      · cases ho) ?_
  rintro ⟨i, L, cells, fam⟩ ⟨hi, hL, hrows⟩
  dsimp only at hi hL hrows
  repeat (first
    | refine awp_seq ?_ | refine awp_block ?_ | refine awp_ret ?_ | refine awp_skip ?_ | refine awp_exit ?_ | refine awp_label ?_
    | refine then_normal ?_ | refine then_ret ?_ | refine then_exit ?_ | refine block_normal ?_ | refine block_ret ?_ | refine block_exit ?_ | refine block_out rfl ?_
    | (apply awp_regN hΓ; (focus (simp (disch := omega) only [go_sem, decide_eq_true, decide_eq_false, if_pos, if_neg, wrap_in, maxLen, zeroLoose, partsLoose, arrRep]; with_reducible rfl)))
    | (apply awp_regf mixedOK hΓ (by kernel_rfl); (focus (simp (disch := omega) only [go_sem, decide_eq_true, decide_eq_false, if_pos, if_neg, wrap_in, maxLen, zeroLoose, partsLoose, arrRep]; with_reducible rfl)); (focus (simp only [go_sem]; with_reducible rfl)))
    | (apply awp_regt mixedOK hΓ rfl; (focus kernel_rfl); (focus (simp (disch := omega) only [go_sem, decide_eq_true, decide_eq_false, if_pos, if_neg, wrap_in, maxLen, zeroLoose, partsLoose, arrRep]; with_reducible rfl)); (focus (simp only [go_sem]; with_reducible rfl)); (focus (simp (disch := omega) only [go_sem, decide_eq_true, decide_eq_false, if_pos, if_neg, wrap_in, maxLen, zeroLoose, partsLoose, arrRep]; with_reducible rfl)))
    | (apply awp_cond_t; (focus (simp (disch := omega) only [go_sem, decide_eq_true, decide_eq_false, if_pos, if_neg, wrap_in, maxLen, zeroLoose, partsLoose, arrRep]; done))) | (apply awp_cond_f; (focus (simp (disch := omega) only [go_sem, decide_eq_true, decide_eq_false, if_pos, if_neg, wrap_in, maxLen, zeroLoose, partsLoose, arrRep]; done)))
    | (apply ret_e; (focus (simp (disch := omega) only [go_sem, decide_eq_true, decide_eq_false, if_pos, if_neg, wrap_in, maxLen, zeroLoose, partsLoose, arrRep]; with_reducible rfl)); (focus (simp (disch := omega) only [go_sem, decide_eq_true, decide_eq_false, if_pos, if_neg, wrap_in, maxLen, zeroLoose, partsLoose, arrRep]; with_reducible rfl))) | (apply end_e; (focus (simp (disch := omega) only [go_sem, decide_eq_true, decide_eq_false, if_pos, if_neg, wrap_in, maxLen, zeroLoose, partsLoose, arrRep]; with_reducible rfl)); (focus (simp (disch := omega) only [go_sem, decide_eq_true, decide_eq_false, if_pos, if_neg, wrap_in, maxLen, zeroLoose, partsLoose, arrRep]; with_reducible rfl)))
    | rfl)
  refine awp_cond (by simp (disch := omega) only [go_sem]; rfl) (fun hc => ?_) (fun hc => ?_)
  · have hi' : i < g.edges.length := by simpa using hc
    have hmem := List.getElem_mem hi'
    obtain ⟨r1, r2, r3, r4⟩ := hin _ hmem
    have hnextL : nbAdd back L g.edges[i] = (g.edges.take (i + 1)).foldl (nbAdd back) (List.replicate g.nodes.length []) := by
      rw [List.take_add_one, List.foldl_append, ← hL, List.getElem?_eq_getElem hi']
      rfl
    generalize hx : g.edges[i] = x at hmem r1 r2 r3 r4 hnextL
    have hll := hrows.len
    cases back with
    | false =>
      have hv : x.fr.toNat < L.length := by omega
      have hgd : L.getD x.fr.toNat [] = L[x.fr.toNat] := by simp [hv]
      repeat (first
        | refine awp_seq ?_ | refine awp_block ?_ | refine awp_ret ?_ | refine awp_skip ?_ | refine awp_exit ?_ | refine awp_label ?_
        | refine then_normal ?_ | refine then_ret ?_ | refine then_exit ?_ | refine block_normal ?_ | refine block_ret ?_ | refine block_exit ?_ | refine block_out rfl ?_
        | (apply awp_regN hΓ; (focus (simp (disch := omega) only [go_sem, decide_eq_true, decide_eq_false, if_pos, if_neg, wrap_in, maxLen, hx, look_upd, zeroLoose, partsLoose, arrRep]; with_reducible rfl)))
        | (apply awp_regf mixedOK hΓ (by kernel_rfl); (focus (simp (disch := omega) only [go_sem, decide_eq_true, decide_eq_false, if_pos, if_neg, wrap_in, maxLen, hx, look_upd, zeroLoose, partsLoose, arrRep]; with_reducible rfl)); (focus (simp only [go_sem]; with_reducible rfl)))
        | (apply awp_regt mixedOK hΓ rfl; (focus kernel_rfl); (focus (simp (disch := omega) only [go_sem, decide_eq_true, decide_eq_false, if_pos, if_neg, wrap_in, maxLen, hx, look_upd, zeroLoose, partsLoose, arrRep]; with_reducible rfl)); (focus (simp only [go_sem]; with_reducible rfl)); (focus (simp (disch := omega) only [go_sem, decide_eq_true, decide_eq_false, if_pos, if_neg, wrap_in, maxLen, hx, look_upd, zeroLoose, partsLoose, arrRep]; with_reducible rfl)))
        | (apply awp_cond_t; (focus (simp (disch := omega) only [go_sem, decide_eq_true, decide_eq_false, if_pos, if_neg, wrap_in, maxLen, hx, look_upd, zeroLoose, partsLoose, arrRep]; done))) | (apply awp_cond_f; (focus (simp (disch := omega) only [go_sem, decide_eq_true, decide_eq_false, if_pos, if_neg, wrap_in, maxLen, hx, look_upd, zeroLoose, partsLoose, arrRep]; done)))
        | (apply ret_e; (focus (simp (disch := omega) only [go_sem, decide_eq_true, decide_eq_false, if_pos, if_neg, wrap_in, maxLen, hx, look_upd, zeroLoose, partsLoose, arrRep]; with_reducible rfl)); (focus (simp (disch := omega) only [go_sem, decide_eq_true, decide_eq_false, if_pos, if_neg, wrap_in, maxLen, hx, look_upd, zeroLoose, partsLoose, arrRep]; with_reducible rfl))) | (apply end_e; (focus (simp (disch := omega) only [go_sem, decide_eq_true, decide_eq_false, if_pos, if_neg, wrap_in, maxLen, hx, look_upd, zeroLoose, partsLoose, arrRep]; with_reducible rfl)); (focus (simp (disch := omega) only [go_sem, decide_eq_true, decide_eq_false, if_pos, if_neg, wrap_in, maxLen, hx, look_upd, zeroLoose, partsLoose, arrRep]; with_reducible rfl)))
        | rfl)
      rcases hrows.cell _ hv with ⟨h1, h2⟩ | ⟨o, ho1, ho2, h2, h3⟩
      · have hdr := drop_one h2
        have hly := fun y => lay_one (cells := cells) (v := x.fr.toNat) y (by rw [hrows.clen]; omega)
        (apply awp_regm (nst := false) (nst' := false) 11 mixedOK hΓ (by kernel_rfl); (focus (simp (disch := omega) only [go_sem, decide_eq_true, decide_eq_false, if_pos, if_neg, wrap_in, maxLen, hdr, hly, look_upd]; with_reducible rfl)); (focus (simp (disch := omega) only [go_sem]; with_reducible rfl)); (focus rfl); (focus rfl); (focus (simp (disch := omega) only [go_sem, decide_eq_true, decide_eq_false, if_pos, if_neg, wrap_in, maxLen, hdr, hly, look_upd]; with_reducible rfl)); (focus (simp (disch := omega) only [go_sem, decide_eq_true, decide_eq_false, if_pos, if_neg, wrap_in, maxLen, hdr, hly, look_upd]; omega)); (focus (dsimp only [List.take_succ_cons, List.take_zero]; (repeat (apply same2_cons; (focus (first | (left; decide) | (right; simp (disch := omega) only [go_sem, decide_eq_true, decide_eq_false, if_pos, if_neg, wrap_in, maxLen, hdr, hly, look_upd]; done))); (focus (simp (disch := omega) only [go_sem, decide_eq_true, decide_eq_false, if_pos, if_neg, wrap_in, maxLen, hdr, hly, look_upd]; with_reducible rfl)))); exact same2_nil)); (focus (simp (disch := omega) only [go_sem, decide_eq_true, decide_eq_false, if_pos, if_neg, wrap_in, maxLen, hdr, hly, look_upd]; with_reducible rfl)))
        repeat (first
          | refine awp_seq ?_ | refine awp_block ?_ | refine awp_ret ?_ | refine awp_skip ?_ | refine awp_exit ?_ | refine awp_label ?_
          | refine then_normal ?_ | refine then_ret ?_ | refine then_exit ?_ | refine block_normal ?_ | refine block_ret ?_ | refine block_exit ?_ | refine block_out rfl ?_
          | (apply awp_regN hΓ; (focus (simp (disch := omega) only [go_sem, decide_eq_true, decide_eq_false, if_pos, if_neg, wrap_in, maxLen, look_upd, zeroLoose, partsLoose, arrRep]; with_reducible rfl)))
          | (apply awp_regf mixedOK hΓ (by kernel_rfl); (focus (simp (disch := omega) only [go_sem, decide_eq_true, decide_eq_false, if_pos, if_neg, wrap_in, maxLen, look_upd, zeroLoose, partsLoose, arrRep]; with_reducible rfl)); (focus (simp only [go_sem]; with_reducible rfl)))
          | (apply awp_regt mixedOK hΓ rfl; (focus kernel_rfl); (focus (simp (disch := omega) only [go_sem, decide_eq_true, decide_eq_false, if_pos, if_neg, wrap_in, maxLen, look_upd, zeroLoose, partsLoose, arrRep]; with_reducible rfl)); (focus (simp only [go_sem]; with_reducible rfl)); (focus (simp (disch := omega) only [go_sem, decide_eq_true, decide_eq_false, if_pos, if_neg, wrap_in, maxLen, look_upd, zeroLoose, partsLoose, arrRep]; with_reducible rfl)))
          | (apply awp_cond_t; (focus (simp (disch := omega) only [go_sem, decide_eq_true, decide_eq_false, if_pos, if_neg, wrap_in, maxLen, look_upd, zeroLoose, partsLoose, arrRep]; done))) | (apply awp_cond_f; (focus (simp (disch := omega) only [go_sem, decide_eq_true, decide_eq_false, if_pos, if_neg, wrap_in, maxLen, look_upd, zeroLoose, partsLoose, arrRep]; done)))
          | (apply ret_e; (focus (simp (disch := omega) only [go_sem, decide_eq_true, decide_eq_false, if_pos, if_neg, wrap_in, maxLen, look_upd, zeroLoose, partsLoose, arrRep]; with_reducible rfl)); (focus (simp (disch := omega) only [go_sem, decide_eq_true, decide_eq_false, if_pos, if_neg, wrap_in, maxLen, look_upd, zeroLoose, partsLoose, arrRep]; with_reducible rfl))) | (apply end_e; (focus (simp (disch := omega) only [go_sem, decide_eq_true, decide_eq_false, if_pos, if_neg, wrap_in, maxLen, look_upd, zeroLoose, partsLoose, arrRep]; with_reducible rfl)); (focus (simp (disch := omega) only [go_sem, decide_eq_true, decide_eq_false, if_pos, if_neg, wrap_in, maxLen, look_upd, zeroLoose, partsLoose, arrRep]; with_reducible rfl)))
          | rfl)
        have hR := hrows.new hv x.to (nm := 100 + 100 * i + 1 + 1 + 1 + 1 + 1 + 1 + 11) (N' := 100 + 100 * (i + 1)) (by omega) (by omega) (by omega) h1
        refine ⟨(i + 1, L.set x.fr.toNat [x.to], cells.set x.fr.toNat (.row (100 + 100 * i + 1 + 1 + 1 + 1 + 1 + 1 + 11) 1), upd fam (100 + 100 * i + 1 + 1 + 1 + 1 + 1 + 1 + 11) (.row 3 1 [i64 x.to])), ⟨by omega, ?_, hR⟩, by dsimp only; omega, Weak.sub (by omega) (by simp [ConvL, Conv]) (fun o z ho => ?_) (by simp [refsOKs, AV.refsOK]; omega)⟩
        · rw [← hnextL]; simp [nbAdd, ends, h1, List.getElem?_eq_getElem hv]
        by_cases ho5 : o = 5
        · subst ho5
          simp only [look, if_true, Option.some.injEq] at ho ⊢
          refine ⟨ho, by omega, ?_⟩
          rw [← ho]
          exact hR.refs
        simp only [look, if_neg ho5, look_upd] at ho ⊢
        split at ho
        · rename_i he
          rw [if_pos he]
          refine ⟨ho, by omega, ?_⟩
          cases ho
          rfl
        · rename_i he
          obtain ⟨b1, b2, b3⟩ := hrows.bnd o z ho
          repeat rw [if_neg (by omega)]
          exact ⟨ho, by omega, b3 _⟩
      · have hdr := drop_one h2
        have hly := fun y => lay_one (cells := cells) (v := x.fr.toNat) y (by rw [hrows.clen]; omega)
        have hsz := hrows.size _ hv
        (apply awp_regm (nst := false) (nst' := false) 11 mixedOK hΓ (by kernel_rfl); (focus (simp (disch := omega) only [go_sem, decide_eq_true, decide_eq_false, if_pos, if_neg, wrap_in, maxLen, hdr, hly, h3, look_upd]; with_reducible rfl)); (focus (simp (disch := omega) only [go_sem]; with_reducible rfl)); (focus rfl); (focus rfl); (focus (simp (disch := omega) only [go_sem, decide_eq_true, decide_eq_false, if_pos, if_neg, wrap_in, maxLen, hdr, hly, h3, look_upd]; with_reducible rfl)); (focus (simp (disch := omega) only [go_sem, decide_eq_true, decide_eq_false, if_pos, if_neg, wrap_in, maxLen, hdr, hly, h3, look_upd]; omega)); (focus (dsimp only [List.take_succ_cons, List.take_zero]; (repeat (apply same2_cons; (focus (first | (left; decide) | (right; simp (disch := omega) only [go_sem, decide_eq_true, decide_eq_false, if_pos, if_neg, wrap_in, maxLen, hdr, hly, h3, look_upd]; done))); (focus (simp (disch := omega) only [go_sem, decide_eq_true, decide_eq_false, if_pos, if_neg, wrap_in, maxLen, hdr, hly, h3, look_upd]; with_reducible rfl)))); exact same2_nil)); (focus (simp (disch := omega) only [go_sem, decide_eq_true, decide_eq_false, if_pos, if_neg, wrap_in, maxLen, hdr, hly, h3, look_upd]; with_reducible rfl)))
        repeat (first
          | refine awp_seq ?_ | refine awp_block ?_ | refine awp_ret ?_ | refine awp_skip ?_ | refine awp_exit ?_ | refine awp_label ?_
          | refine then_normal ?_ | refine then_ret ?_ | refine then_exit ?_ | refine block_normal ?_ | refine block_ret ?_ | refine block_exit ?_ | refine block_out rfl ?_
          | (apply awp_regN hΓ; (focus (simp (disch := omega) only [go_sem, decide_eq_true, decide_eq_false, if_pos, if_neg, wrap_in, maxLen, look_upd, zeroLoose, partsLoose, arrRep]; with_reducible rfl)))
          | (apply awp_regf mixedOK hΓ (by kernel_rfl); (focus (simp (disch := omega) only [go_sem, decide_eq_true, decide_eq_false, if_pos, if_neg, wrap_in, maxLen, look_upd, zeroLoose, partsLoose, arrRep]; with_reducible rfl)); (focus (simp only [go_sem]; with_reducible rfl)))
          | (apply awp_regt mixedOK hΓ rfl; (focus kernel_rfl); (focus (simp (disch := omega) only [go_sem, decide_eq_true, decide_eq_false, if_pos, if_neg, wrap_in, maxLen, look_upd, zeroLoose, partsLoose, arrRep]; with_reducible rfl)); (focus (simp only [go_sem]; with_reducible rfl)); (focus (simp (disch := omega) only [go_sem, decide_eq_true, decide_eq_false, if_pos, if_neg, wrap_in, maxLen, look_upd, zeroLoose, partsLoose, arrRep]; with_reducible rfl)))
          | (apply awp_cond_t; (focus (simp (disch := omega) only [go_sem, decide_eq_true, decide_eq_false, if_pos, if_neg, wrap_in, maxLen, look_upd, zeroLoose, partsLoose, arrRep]; done))) | (apply awp_cond_f; (focus (simp (disch := omega) only [go_sem, decide_eq_true, decide_eq_false, if_pos, if_neg, wrap_in, maxLen, look_upd, zeroLoose, partsLoose, arrRep]; done)))
          | (apply ret_e; (focus (simp (disch := omega) only [go_sem, decide_eq_true, decide_eq_false, if_pos, if_neg, wrap_in, maxLen, look_upd, zeroLoose, partsLoose, arrRep]; with_reducible rfl)); (focus (simp (disch := omega) only [go_sem, decide_eq_true, decide_eq_false, if_pos, if_neg, wrap_in, maxLen, look_upd, zeroLoose, partsLoose, arrRep]; with_reducible rfl))) | (apply end_e; (focus (simp (disch := omega) only [go_sem, decide_eq_true, decide_eq_false, if_pos, if_neg, wrap_in, maxLen, look_upd, zeroLoose, partsLoose, arrRep]; with_reducible rfl)); (focus (simp (disch := omega) only [go_sem, decide_eq_true, decide_eq_false, if_pos, if_neg, wrap_in, maxLen, look_upd, zeroLoose, partsLoose, arrRep]; with_reducible rfl)))
          | rfl)
        have hR := hrows.add (N' := 100 + 100 * (i + 1)) hv x.to (by omega) h2 h3
        refine ⟨(i + 1, L.set x.fr.toNat (L[x.fr.toNat] ++ [x.to]), cells.set x.fr.toNat (.row o (L[x.fr.toNat].length + 1)), upd fam o (.row 3 1 (L[x.fr.toNat].map i64 ++ [i64 x.to]))), ⟨by omega, ?_, hR⟩, by dsimp only; omega, Weak.sub (by omega) (by simp [ConvL, Conv]) (fun p z ho => ?_) (by simp [refsOKs, AV.refsOK]; omega)⟩
        · rw [← hnextL]; simp [nbAdd, ends, List.getElem?_eq_getElem hv]
        by_cases ho5 : p = 5
        · subst ho5
          simp only [look, if_true, Option.some.injEq] at ho ⊢
          refine ⟨ho, by omega, ?_⟩
          rw [← ho]
          exact hR.refs
        simp only [look, if_neg ho5, look_upd] at ho ⊢
        split at ho
        · rename_i he
          rw [if_pos he]
          refine ⟨ho, by omega, ?_⟩
          cases ho
          rfl
        · rename_i he
          obtain ⟨b1, b2, b3⟩ := hrows.bnd p z ho
          repeat rw [if_neg (by omega)]
          exact ⟨ho, by omega, b3 _⟩

    | true =>
      have hv : x.to.toNat < L.length := by omega
      have hgd : L.getD x.to.toNat [] = L[x.to.toNat] := by simp [hv]
      repeat (first
        | refine awp_seq ?_ | refine awp_block ?_ | refine awp_ret ?_ | refine awp_skip ?_ | refine awp_exit ?_ | refine awp_label ?_
        | refine then_normal ?_ | refine then_ret ?_ | refine then_exit ?_ | refine block_normal ?_ | refine block_ret ?_ | refine block_exit ?_ | refine block_out rfl ?_
        | (apply awp_regN hΓ; (focus (simp (disch := omega) only [go_sem, decide_eq_true, decide_eq_false, if_pos, if_neg, wrap_in, maxLen, hx, look_upd, zeroLoose, partsLoose, arrRep]; with_reducible rfl)))
        | (apply awp_regf mixedOK hΓ (by kernel_rfl); (focus (simp (disch := omega) only [go_sem, decide_eq_true, decide_eq_false, if_pos, if_neg, wrap_in, maxLen, hx, look_upd, zeroLoose, partsLoose, arrRep]; with_reducible rfl)); (focus (simp only [go_sem]; with_reducible rfl)))
        | (apply awp_regt mixedOK hΓ rfl; (focus kernel_rfl); (focus (simp (disch := omega) only [go_sem, decide_eq_true, decide_eq_false, if_pos, if_neg, wrap_in, maxLen, hx, look_upd, zeroLoose, partsLoose, arrRep]; with_reducible rfl)); (focus (simp only [go_sem]; with_reducible rfl)); (focus (simp (disch := omega) only [go_sem, decide_eq_true, decide_eq_false, if_pos, if_neg, wrap_in, maxLen, hx, look_upd, zeroLoose, partsLoose, arrRep]; with_reducible rfl)))
        | (apply awp_cond_t; (focus (simp (disch := omega) only [go_sem, decide_eq_true, decide_eq_false, if_pos, if_neg, wrap_in, maxLen, hx, look_upd, zeroLoose, partsLoose, arrRep]; done))) | (apply awp_cond_f; (focus (simp (disch := omega) only [go_sem, decide_eq_true, decide_eq_false, if_pos, if_neg, wrap_in, maxLen, hx, look_upd, zeroLoose, partsLoose, arrRep]; done)))
        | (apply ret_e; (focus (simp (disch := omega) only [go_sem, decide_eq_true, decide_eq_false, if_pos, if_neg, wrap_in, maxLen, hx, look_upd, zeroLoose, partsLoose, arrRep]; with_reducible rfl)); (focus (simp (disch := omega) only [go_sem, decide_eq_true, decide_eq_false, if_pos, if_neg, wrap_in, maxLen, hx, look_upd, zeroLoose, partsLoose, arrRep]; with_reducible rfl))) | (apply end_e; (focus (simp (disch := omega) only [go_sem, decide_eq_true, decide_eq_false, if_pos, if_neg, wrap_in, maxLen, hx, look_upd, zeroLoose, partsLoose, arrRep]; with_reducible rfl)); (focus (simp (disch := omega) only [go_sem, decide_eq_true, decide_eq_false, if_pos, if_neg, wrap_in, maxLen, hx, look_upd, zeroLoose, partsLoose, arrRep]; with_reducible rfl)))
        | rfl)
      rcases hrows.cell _ hv with ⟨h1, h2⟩ | ⟨o, ho1, ho2, h2, h3⟩
      · have hdr := drop_one h2
        have hly := fun y => lay_one (cells := cells) (v := x.to.toNat) y (by rw [hrows.clen]; omega)
        (apply awp_regm (nst := false) (nst' := false) 11 mixedOK hΓ (by kernel_rfl); (focus (simp (disch := omega) only [go_sem, decide_eq_true, decide_eq_false, if_pos, if_neg, wrap_in, maxLen, hdr, hly, look_upd]; with_reducible rfl)); (focus (simp (disch := omega) only [go_sem]; with_reducible rfl)); (focus rfl); (focus rfl); (focus (simp (disch := omega) only [go_sem, decide_eq_true, decide_eq_false, if_pos, if_neg, wrap_in, maxLen, hdr, hly, look_upd]; with_reducible rfl)); (focus (simp (disch := omega) only [go_sem, decide_eq_true, decide_eq_false, if_pos, if_neg, wrap_in, maxLen, hdr, hly, look_upd]; omega)); (focus (dsimp only [List.take_succ_cons, List.take_zero]; (repeat (apply same2_cons; (focus (first | (left; decide) | (right; simp (disch := omega) only [go_sem, decide_eq_true, decide_eq_false, if_pos, if_neg, wrap_in, maxLen, hdr, hly, look_upd]; done))); (focus (simp (disch := omega) only [go_sem, decide_eq_true, decide_eq_false, if_pos, if_neg, wrap_in, maxLen, hdr, hly, look_upd]; with_reducible rfl)))); exact same2_nil)); (focus (simp (disch := omega) only [go_sem, decide_eq_true, decide_eq_false, if_pos, if_neg, wrap_in, maxLen, hdr, hly, look_upd]; with_reducible rfl)))
        repeat (first
          | refine awp_seq ?_ | refine awp_block ?_ | refine awp_ret ?_ | refine awp_skip ?_ | refine awp_exit ?_ | refine awp_label ?_
          | refine then_normal ?_ | refine then_ret ?_ | refine then_exit ?_ | refine block_normal ?_ | refine block_ret ?_ | refine block_exit ?_ | refine block_out rfl ?_
          | (apply awp_regN hΓ; (focus (simp (disch := omega) only [go_sem, decide_eq_true, decide_eq_false, if_pos, if_neg, wrap_in, maxLen, look_upd, zeroLoose, partsLoose, arrRep]; with_reducible rfl)))
          | (apply awp_regf mixedOK hΓ (by kernel_rfl); (focus (simp (disch := omega) only [go_sem, decide_eq_true, decide_eq_false, if_pos, if_neg, wrap_in, maxLen, look_upd, zeroLoose, partsLoose, arrRep]; with_reducible rfl)); (focus (simp only [go_sem]; with_reducible rfl)))
          | (apply awp_regt mixedOK hΓ rfl; (focus kernel_rfl); (focus (simp (disch := omega) only [go_sem, decide_eq_true, decide_eq_false, if_pos, if_neg, wrap_in, maxLen, look_upd, zeroLoose, partsLoose, arrRep]; with_reducible rfl)); (focus (simp only [go_sem]; with_reducible rfl)); (focus (simp (disch := omega) only [go_sem, decide_eq_true, decide_eq_false, if_pos, if_neg, wrap_in, maxLen, look_upd, zeroLoose, partsLoose, arrRep]; with_reducible rfl)))
          | (apply awp_cond_t; (focus (simp (disch := omega) only [go_sem, decide_eq_true, decide_eq_false, if_pos, if_neg, wrap_in, maxLen, look_upd, zeroLoose, partsLoose, arrRep]; done))) | (apply awp_cond_f; (focus (simp (disch := omega) only [go_sem, decide_eq_true, decide_eq_false, if_pos, if_neg, wrap_in, maxLen, look_upd, zeroLoose, partsLoose, arrRep]; done)))
          | (apply ret_e; (focus (simp (disch := omega) only [go_sem, decide_eq_true, decide_eq_false, if_pos, if_neg, wrap_in, maxLen, look_upd, zeroLoose, partsLoose, arrRep]; with_reducible rfl)); (focus (simp (disch := omega) only [go_sem, decide_eq_true, decide_eq_false, if_pos, if_neg, wrap_in, maxLen, look_upd, zeroLoose, partsLoose, arrRep]; with_reducible rfl))) | (apply end_e; (focus (simp (disch := omega) only [go_sem, decide_eq_true, decide_eq_false, if_pos, if_neg, wrap_in, maxLen, look_upd, zeroLoose, partsLoose, arrRep]; with_reducible rfl)); (focus (simp (disch := omega) only [go_sem, decide_eq_true, decide_eq_false, if_pos, if_neg, wrap_in, maxLen, look_upd, zeroLoose, partsLoose, arrRep]; with_reducible rfl)))
          | rfl)
        have hR := hrows.new hv x.fr (nm := 100 + 100 * i + 1 + 1 + 1 + 1 + 1 + 1 + 1 + 1 + 1 + 1 + 1 + 1 + 1 + 1 + 11) (N' := 100 + 100 * (i + 1)) (by omega) (by omega) (by omega) h1
        refine ⟨(i + 1, L.set x.to.toNat [x.fr], cells.set x.to.toNat (.row (100 + 100 * i + 1 + 1 + 1 + 1 + 1 + 1 + 1 + 1 + 1 + 1 + 1 + 1 + 1 + 1 + 11) 1), upd fam (100 + 100 * i + 1 + 1 + 1 + 1 + 1 + 1 + 1 + 1 + 1 + 1 + 1 + 1 + 1 + 1 + 11) (.row 3 1 [i64 x.fr])), ⟨by omega, ?_, hR⟩, by dsimp only; omega, Weak.sub (by omega) (by simp [ConvL, Conv]) (fun o z ho => ?_) (by simp [refsOKs, AV.refsOK]; omega)⟩
        · rw [← hnextL]; simp [nbAdd, ends, h1, List.getElem?_eq_getElem hv]
        by_cases ho5 : o = 5
        · subst ho5
          simp only [look, if_true, Option.some.injEq] at ho ⊢
          refine ⟨ho, by omega, ?_⟩
          rw [← ho]
          exact hR.refs
        simp only [look, if_neg ho5, look_upd] at ho ⊢
        split at ho
        · rename_i he
          rw [if_pos he]
          refine ⟨ho, by omega, ?_⟩
          cases ho
          rfl
        · rename_i he
          obtain ⟨b1, b2, b3⟩ := hrows.bnd o z ho
          repeat rw [if_neg (by omega)]
          exact ⟨ho, by omega, b3 _⟩
      · have hdr := drop_one h2
        have hly := fun y => lay_one (cells := cells) (v := x.to.toNat) y (by rw [hrows.clen]; omega)
        have hsz := hrows.size _ hv
        (apply awp_regm (nst := false) (nst' := false) 11 mixedOK hΓ (by kernel_rfl); (focus (simp (disch := omega) only [go_sem, decide_eq_true, decide_eq_false, if_pos, if_neg, wrap_in, maxLen, hdr, hly, h3, look_upd]; with_reducible rfl)); (focus (simp (disch := omega) only [go_sem]; with_reducible rfl)); (focus rfl); (focus rfl); (focus (simp (disch := omega) only [go_sem, decide_eq_true, decide_eq_false, if_pos, if_neg, wrap_in, maxLen, hdr, hly, h3, look_upd]; with_reducible rfl)); (focus (simp (disch := omega) only [go_sem, decide_eq_true, decide_eq_false, if_pos, if_neg, wrap_in, maxLen, hdr, hly, h3, look_upd]; omega)); (focus (dsimp only [List.take_succ_cons, List.take_zero]; (repeat (apply same2_cons; (focus (first | (left; decide) | (right; simp (disch := omega) only [go_sem, decide_eq_true, decide_eq_false, if_pos, if_neg, wrap_in, maxLen, hdr, hly, h3, look_upd]; done))); (focus (simp (disch := omega) only [go_sem, decide_eq_true, decide_eq_false, if_pos, if_neg, wrap_in, maxLen, hdr, hly, h3, look_upd]; with_reducible rfl)))); exact same2_nil)); (focus (simp (disch := omega) only [go_sem, decide_eq_true, decide_eq_false, if_pos, if_neg, wrap_in, maxLen, hdr, hly, h3, look_upd]; with_reducible rfl)))
        repeat (first
          | refine awp_seq ?_ | refine awp_block ?_ | refine awp_ret ?_ | refine awp_skip ?_ | refine awp_exit ?_ | refine awp_label ?_
          | refine then_normal ?_ | refine then_ret ?_ | refine then_exit ?_ | refine block_normal ?_ | refine block_ret ?_ | refine block_exit ?_ | refine block_out rfl ?_
          | (apply awp_regN hΓ; (focus (simp (disch := omega) only [go_sem, decide_eq_true, decide_eq_false, if_pos, if_neg, wrap_in, maxLen, look_upd, zeroLoose, partsLoose, arrRep]; with_reducible rfl)))
          | (apply awp_regf mixedOK hΓ (by kernel_rfl); (focus (simp (disch := omega) only [go_sem, decide_eq_true, decide_eq_false, if_pos, if_neg, wrap_in, maxLen, look_upd, zeroLoose, partsLoose, arrRep]; with_reducible rfl)); (focus (simp only [go_sem]; with_reducible rfl)))
          | (apply awp_regt mixedOK hΓ rfl; (focus kernel_rfl); (focus (simp (disch := omega) only [go_sem, decide_eq_true, decide_eq_false, if_pos, if_neg, wrap_in, maxLen, look_upd, zeroLoose, partsLoose, arrRep]; with_reducible rfl)); (focus (simp only [go_sem]; with_reducible rfl)); (focus (simp (disch := omega) only [go_sem, decide_eq_true, decide_eq_false, if_pos, if_neg, wrap_in, maxLen, look_upd, zeroLoose, partsLoose, arrRep]; with_reducible rfl)))
          | (apply awp_cond_t; (focus (simp (disch := omega) only [go_sem, decide_eq_true, decide_eq_false, if_pos, if_neg, wrap_in, maxLen, look_upd, zeroLoose, partsLoose, arrRep]; done))) | (apply awp_cond_f; (focus (simp (disch := omega) only [go_sem, decide_eq_true, decide_eq_false, if_pos, if_neg, wrap_in, maxLen, look_upd, zeroLoose, partsLoose, arrRep]; done)))
          | (apply ret_e; (focus (simp (disch := omega) only [go_sem, decide_eq_true, decide_eq_false, if_pos, if_neg, wrap_in, maxLen, look_upd, zeroLoose, partsLoose, arrRep]; with_reducible rfl)); (focus (simp (disch := omega) only [go_sem, decide_eq_true, decide_eq_false, if_pos, if_neg, wrap_in, maxLen, look_upd, zeroLoose, partsLoose, arrRep]; with_reducible rfl))) | (apply end_e; (focus (simp (disch := omega) only [go_sem, decide_eq_true, decide_eq_false, if_pos, if_neg, wrap_in, maxLen, look_upd, zeroLoose, partsLoose, arrRep]; with_reducible rfl)); (focus (simp (disch := omega) only [go_sem, decide_eq_true, decide_eq_false, if_pos, if_neg, wrap_in, maxLen, look_upd, zeroLoose, partsLoose, arrRep]; with_reducible rfl)))
          | rfl)
        have hR := hrows.add (N' := 100 + 100 * (i + 1)) hv x.fr (by omega) h2 h3
        refine ⟨(i + 1, L.set x.to.toNat (L[x.to.toNat] ++ [x.fr]), cells.set x.to.toNat (.row o (L[x.to.toNat].length + 1)), upd fam o (.row 3 1 (L[x.to.toNat].map i64 ++ [i64 x.fr]))), ⟨by omega, ?_, hR⟩, by dsimp only; omega, Weak.sub (by omega) (by simp [ConvL, Conv]) (fun p z ho => ?_) (by simp [refsOKs, AV.refsOK]; omega)⟩
        · rw [← hnextL]; simp [nbAdd, ends, List.getElem?_eq_getElem hv]
        by_cases ho5 : p = 5
        · subst ho5
          simp only [look, if_true, Option.some.injEq] at ho ⊢
          refine ⟨ho, by omega, ?_⟩
          rw [← ho]
          exact hR.refs
        simp only [look, if_neg ho5, look_upd] at ho ⊢
        split at ho
        · rename_i he
          rw [if_pos he]
          refine ⟨ho, by omega, ?_⟩
          cases ho
          rfl
        · rename_i he
          obtain ⟨b1, b2, b3⟩ := hrows.bnd p z ho
          repeat rw [if_neg (by omega)]
          exact ⟨ho, by omega, b3 _⟩

  · have hfin : ¬ i < g.edges.length := by simpa using hc
    have hrd := fun k => hrows.read (k := k) (.arr 28 1 g.nodes.length cells) 2
    rw [List.take_of_length_le (by omega)] at hL
    repeat (first
      | refine awp_seq ?_ | refine awp_block ?_ | refine awp_ret ?_ | refine awp_skip ?_ | refine awp_exit ?_ | refine awp_label ?_
      | refine then_normal ?_ | refine then_ret ?_ | refine then_exit ?_ | refine block_normal ?_ | refine block_ret ?_ | refine block_exit ?_ | refine block_out rfl ?_
      | (apply awp_regN hΓ; (focus (simp (disch := omega) only [go_sem, decide_eq_true, decide_eq_false, if_pos, if_neg, wrap_in, maxLen, hrd, zeroLoose, partsLoose, arrRep]; with_reducible rfl)))
      | (apply awp_regf mixedOK hΓ (by kernel_rfl); (focus (simp (disch := omega) only [go_sem, decide_eq_true, decide_eq_false, if_pos, if_neg, wrap_in, maxLen, hrd, zeroLoose, partsLoose, arrRep]; with_reducible rfl)); (focus (simp only [go_sem]; with_reducible rfl)))
      | (apply awp_regt mixedOK hΓ rfl; (focus kernel_rfl); (focus (simp (disch := omega) only [go_sem, decide_eq_true, decide_eq_false, if_pos, if_neg, wrap_in, maxLen, hrd, zeroLoose, partsLoose, arrRep]; with_reducible rfl)); (focus (simp only [go_sem]; with_reducible rfl)); (focus (simp (disch := omega) only [go_sem, decide_eq_true, decide_eq_false, if_pos, if_neg, wrap_in, maxLen, hrd, zeroLoose, partsLoose, arrRep]; with_reducible rfl)))
      | (apply awp_cond_t; (focus (simp (disch := omega) only [go_sem, decide_eq_true, decide_eq_false, if_pos, if_neg, wrap_in, maxLen, hrd, zeroLoose, partsLoose, arrRep]; done))) | (apply awp_cond_f; (focus (simp (disch := omega) only [go_sem, decide_eq_true, decide_eq_false, if_pos, if_neg, wrap_in, maxLen, hrd, zeroLoose, partsLoose, arrRep]; done)))
      | (apply ret_e; (focus (simp (disch := omega) only [go_sem, decide_eq_true, decide_eq_false, if_pos, if_neg, wrap_in, maxLen, hrd, zeroLoose, partsLoose, arrRep]; with_reducible rfl)); (focus (simp (disch := omega) only [go_sem, decide_eq_true, decide_eq_false, if_pos, if_neg, wrap_in, maxLen, hrd, zeroLoose, partsLoose, arrRep]; with_reducible rfl))) | (apply end_e; (focus (simp (disch := omega) only [go_sem, decide_eq_true, decide_eq_false, if_pos, if_neg, wrap_in, maxLen, hrd, zeroLoose, partsLoose, arrRep]; with_reducible rfl)); (focus (simp (disch := omega) only [go_sem, decide_eq_true, decide_eq_false, if_pos, if_neg, wrap_in, maxLen, hrd, zeroLoose, partsLoose, arrRep]; with_reducible rfl)))
      | rfl)
    rw [hL]
    rfl
end Go.Ab
