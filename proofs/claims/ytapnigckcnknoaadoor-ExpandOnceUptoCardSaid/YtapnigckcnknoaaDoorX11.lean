/-
  One text of the proof (own work): contracts of functions of the program, by the abstract machine.
-/
import Derived.ChangeSame
import Derived.Carry
import Derived.DataReads
import Derived.OpenShut
import Derived.JoinedCond
import Derived.ProofKit
import Derived.Test.YtapnigckcnknoaaDoorX10
set_option linter.unusedVariables false
set_option linter.unusedSimpArgs false
namespace Go.Ab
open Go Go.RowKit
inductive Ty where
  | bool
  | int (k : IntKind)
  | str
  | slice (t : Ty)
  | struct (fs : List Ty)
  | arr (fs : List Ty)
mutual
def Ty.size : Ty → Nat
  | .struct fs => Ty.sizes fs
  | .arr fs => Ty.sizes fs
  | _ => 1
def Ty.sizes : List Ty → Nat
  | [] => 0
  | t :: r => t.size + Ty.sizes r
end
mutual
def Ty.fits (P : Program) : Ty → TypeId → Bool
  | .bool, t => match P.underlying t with
    | some .bool => true
    | _ => false
  | .int k, t => match P.underlying t with
    | some (.int k') => k' == k
    | _ => false
  | .str, t => match P.underlying t with
    | some .string => true
    | _ => false
  | .slice ty, t => match P.underlying t with
    | some (.slice e) => ty.fits P e && (P.cellsOf e == ty.size) && decide (0 < ty.size)
    | _ => false
  | .struct fs, t => match P.underlying t with
    | some (.struct fds) => Ty.fitsL P 0 fs fds.toList && (P.cellsOf t == Ty.sizes fs)
    | _ => false
  | .arr fs, t => match P.underlying t with
    | some (.array m e) => Ty.fitsA P e fs && (m == fs.length) && (P.cellsOf t == Ty.sizes fs)
    | _ => false
def Ty.fitsL (P : Program) : Nat → List Ty → List Field → Bool
  | _, [], [] => true
  | off, ty :: r, f :: fs => (f.offset == off) && (P.cellsOf f.type == ty.size) && ty.fits P f.type && Ty.fitsL P (off + ty.size) r fs
  | _, _, _ => false
def Ty.fitsA (P : Program) (e : TypeId) : List Ty → Bool
  | [] => true
  | ty :: r => (P.cellsOf e == ty.size) && ty.fits P e && Ty.fitsA P e r
end
def Ty.pack : Ty → List D → D
  | .struct _, cs => .agg cs
  | .arr _, cs => .agg cs
  | _, cs => cs.headD .nilp
mutual
def HasTy (n : Nat) : Ty → List D → Prop
  | .bool, cs => ∃ b, cs = [.bool b]
  | .int k, cs => ∃ x, (Lit.int k x).wf = true ∧ cs = [.int k x]
  | .str, cs => ∃ s, s.length ≤ n ∧ cs = [.str s]
  | .slice t, cs => ∃ ls : List (List D), ls.length ≤ n ∧ (∀ c ∈ ls, HasTy n t c) ∧ cs = [.list (ls.map t.pack)]
  | .struct fs, cs => HasTyL n fs cs
  | .arr fs, cs => HasTyL n fs cs
def HasTyL (n : Nat) : List Ty → List D → Prop
  | [], cs => cs = []
  | t :: r, cs => ∃ a b, HasTy n t a ∧ HasTyL n r b ∧ cs = a ++ b
end
mutual
theorem HasTy.spec {n : Nat} : ∀ (t : Ty) (cs : List D), HasTy n t cs → cs.length = t.size ∧ ∀ d ∈ cs, d.one = true
  | .bool, cs, h => by obtain ⟨b, rfl⟩ := h; simp [Ty.size, D.one]
  | .int k, cs, h => by obtain ⟨b, _, rfl⟩ := h; simp [Ty.size, D.one]
  | .str, cs, h => by obtain ⟨b, _, rfl⟩ := h; simp [Ty.size, D.one]
  | .slice t, cs, h => by obtain ⟨b, _, _, rfl⟩ := h; simp [Ty.size, D.one]
  | .struct fs, cs, h => HasTyL.spec fs cs h
  | .arr fs, cs, h => HasTyL.spec fs cs h
theorem HasTyL.spec {n : Nat} : ∀ (fs : List Ty) (cs : List D), HasTyL n fs cs → cs.length = Ty.sizes fs ∧ ∀ d ∈ cs, d.one = true
  | [], cs, h => by
    simp only [HasTyL] at h
    subst h
    simp [Ty.sizes]
  | t :: r, cs, h => by
    obtain ⟨a, b, h1, h2, rfl⟩ := h
    obtain ⟨i1, i2⟩ := HasTy.spec t a h1
    obtain ⟨j1, j2⟩ := HasTyL.spec r b h2
    refine ⟨by simp [Ty.sizes, i1, j1], fun d hd => ?_⟩
    rcases List.mem_append.1 hd with hd | hd
    · exact i2 d hd
    · exact j2 d hd
end
theorem pack_cells {n : Nat} {t : Ty} {cs : List D} (h : HasTy n t cs) : (t.pack cs).cells = cs := by
  cases t with
  | bool => obtain ⟨b, rfl⟩ := h; rfl
  | int k => obtain ⟨b, _, rfl⟩ := h; rfl
  | str => obtain ⟨b, _, rfl⟩ := h; rfl
  | slice t => obtain ⟨b, _, _, rfl⟩ := h; rfl
  | struct fs => rfl
  | arr fs => rfl
mutual
def bulk {H : Type} : DataW H → Nat
  | .lit (.string b) => b.length + 1
  | .ptr d => bulk d + 1
  | .slice elems spare => bulkAll elems + bulkAll spare + 1
  | .agg parts => bulkAll parts + 1
  | .iface _ d => bulk d + 1
  | _ => 1
def bulkAll {H : Type} : List (DataW H) → Nat
  | [] => 0
  | d :: r => bulk d + bulkAll r
end
theorem bulk_pos {H : Type} (d : DataW H) : 1 ≤ bulk d := by
  cases d with
  | lit l => cases l <;> simp [bulk]
  | _ => simp [bulk]
theorem bulk_mem {H : Type} {d : DataW H} : ∀ {l : List (DataW H)}, d ∈ l → bulk d ≤ bulkAll l
  | [], h => by cases h
  | x :: r, h => by
    simp only [bulkAll]
    rcases List.mem_cons.1 h with rfl | h
    · omega
    · have := bulk_mem h; omega
theorem bulk_len {H : Type} : ∀ l : List (DataW H), l.length ≤ bulkAll l
  | [] => Nat.le_refl _
  | x :: r => by
    have := bulk_pos x
    have := bulk_len r
    simp only [bulkAll, List.length_cons]
    omega
section
variable {H : Type} {enc : TypeId × Value → H} {P : Program} {w : World}
def belowSz (w : World) (b : Nat) : Prop := b < w.heap.size
def CellsR (w : World) (ds : List D) (cs : List Value) : Prop := cs.length = ds.length ∧ ∀ i (hi : i < ds.length) u, cs[i]? = some u → DR w (belowSz w) (ds[i]) u
theorem CellsR.append {a b : List D} {x y : List Value} (h : CellsR w a x) (k : CellsR w b y) : CellsR w (a ++ b) (x ++ y) := by
  refine ⟨by simp [h.1, k.1], fun i hi u hu => ?_⟩
  by_cases c1 : i < a.length
  · rw [List.getElem_append_left c1]
    rw [List.getElem?_append_left (by rw [h.1]; exact c1)] at hu
    exact h.2 i c1 u hu
  · rw [List.getElem_append_right (by omega)]
    rw [List.getElem?_append_right (by rw [h.1]; omega), h.1] at hu
    exact k.2 (i - a.length) (by rw [List.length_append] at hi; omega) u hu
theorem mapM_range {α : Type} {n : Nat} {f : Nat → Option α} {l : List α} (h : (List.range n).mapM f = some l) : l.length = n ∧ ∀ i (hi : i < n) (hl : i < l.length), f i = some l[i] := by
  have h1 := mapM_some_length h
  simp only [List.length_range] at h1
  refine ⟨h1, fun i hi hl => ?_⟩
  have := mapM_some_get h i i (by simp [hi])
  rw [this]
  simp [hl]
theorem slice_readsG {len cap sz : Nat} {a : Addr} {R : Nat → List D → Prop} {pk : List D → D} (hpk : ∀ i ds, R i ds → (pk ds).cells = ds ∧ ds.length = sz ∧ ∀ d ∈ ds, d.one = true) (hsz : 0 < sz) (hcap : len ≤ cap)
    (h : ∀ i, i < len → ∃ cs ds, w.cells? 0 (a.add (i * sz)) sz = some cs ∧ R i ds ∧ CellsR w ds cs) (hb : 0 < len → a.block < w.heap.size) :
    ∃ ls : List (List D), ls.length = len ∧ (∀ i (hi : i < ls.length), R i ls[i]) ∧ CellsR w [.list (ls.map pk)] [.slice (some a) len cap] := by
  have pick : ∃ ls : List (List D), ls.length = len ∧ ∀ i (hi : i < ls.length), R i ls[i] ∧ ∀ j (hj : j < sz), ∃ u, w.cell? (a.add (i * sz + j)) = some u ∧ ∃ hd : j < (ls[i]).length, DR w (belowSz w) ((ls[i])[j]) u := by
    have build : ∀ m, m ≤ len → ∃ ls : List (List D), ls.length = m ∧ ∀ i (hi : i < ls.length), R i ls[i] ∧ ∀ j (hj : j < sz), ∃ u, w.cell? (a.add (i * sz + j)) = some u ∧ ∃ hd : j < (ls[i]).length, DR w (belowSz w) ((ls[i])[j]) u := by
      intro m
      induction m with
      | zero => intro _; exact ⟨[], rfl, fun i hi => by simp at hi⟩
      | succ m ih =>
        intro hm
        obtain ⟨ls, h1, h2⟩ := ih (by omega)
        obtain ⟨cs, ds, h3, h4, h5⟩ := h m (by omega)
        obtain ⟨_, h6, h7⟩ := World.cells?_some h3
        refine ⟨ls ++ [ds], by simp [h1], fun i hi => ?_⟩
        by_cases c1 : i < ls.length
        · rw [List.getElem_append_left c1]
          exact h2 i c1
        · have hi' : i = m := by simp at hi; omega
          subst hi'
          have e : (ls ++ [ds])[i] = ds := by rw [List.getElem_append_right (by omega)]; simp
          rw [e]
          refine ⟨h4, fun j hj => ?_⟩
          have h8 := h7 j hj
          rw [add_add] at h8
          have hcj : cs[j]? = some (cs.getD j undef) := by simp [List.getD, show j < cs.length by omega]
          have hdj : j < ds.length := by rw [← h5.1]; omega
          exact ⟨_, by rw [h8]; exact hcj, hdj, h5.2 j hdj _ hcj⟩
    exact build len (Nat.le_refl _)
  obtain ⟨ls, hl, hls⟩ := pick
  have hall : ∀ d ∈ ls.map pk, d.cells.length = sz := fun d hd => by
    obtain ⟨c, hc, rfl⟩ := List.mem_map.1 hd
    obtain ⟨i, hi, rfl⟩ := List.mem_iff_getElem.1 hc
    obtain ⟨k1, k2, _⟩ := hpk i _ (hls i hi).1
    rw [k1, k2]
  refine ⟨ls, hl, fun i hi => (hls i hi).1, rfl, fun i hi u hu => ?_⟩
  have hi0 : i = 0 := by simp at hi; omega
  subst hi0
  simp only [List.getElem?_cons_zero, Option.some.injEq] at hu
  subst hu
  simp only [List.getElem_cons_zero]
  by_cases h0 : len = 0
  · subst h0
    have : ls = [] := List.eq_nil_of_length_eq_zero hl
    subst this
    exact .empty _ _
  · have hfl := flat_length hall
    have hget : ∀ k, k < (flat (ls.map pk)).length → ∃ u, w.cell? (a.add k) = some u ∧ ∀ hk : k < (flat (ls.map pk)).length, DR w (belowSz w) ((flat (ls.map pk))[k]) u := by
      intro k hk
      have hk2 : k < len * sz := by rw [hfl, List.length_map, hl] at hk; exact hk
      have hq : k / sz < ls.length := by rw [hl]; exact Nat.div_lt_of_lt_mul (by rw [Nat.mul_comm]; exact hk2)
      have hr : k % sz < sz := Nat.mod_lt _ hsz
      have hkk : k / sz * sz + k % sz = k := by rw [Nat.mul_comm]; exact Nat.div_add_mod _ _
      obtain ⟨u, h1, h2, h3⟩ := (hls _ hq).2 _ hr
      rw [hkk] at h1
      refine ⟨u, h1, fun hk => ?_⟩
      obtain ⟨g1, g2, g3⟩ := flat_getElem hall (i := k / sz) (j := k % sz) (d := pk ls[k / sz]) (by rw [List.getElem?_map, List.getElem?_eq_getElem hq]; rfl) hr
      simp only [hkk] at g3
      rw [g3]
      have e := (hpk _ _ (hls _ hq).1).1
      have : (pk ls[k / sz]).cells[k % sz] = ls[k / sz][k % sz] := by simp only [e]
      rw [this]
      exact h3
    have hone : ∀ d ∈ flat (ls.map pk), d.one = true := fun d hd => by
      unfold flat at hd
      obtain ⟨x, hx, hdx⟩ := List.mem_flatMap.1 hd
      obtain ⟨c, hc, rfl⟩ := List.mem_map.1 hx
      obtain ⟨i, hi, rfl⟩ := List.mem_iff_getElem.1 hc
      obtain ⟨k1, _, k3⟩ := hpk i _ (hls i hi).1
      rw [k1] at hdx
      exact k3 d hdx
    have key := DR.list (w := w) (B := belowSz w) (ls.map pk) a cap sz (fun k => (w.cell? (a.add k)).getD undef) (hb (by omega)) (by rw [List.length_map, hl]; exact hcap) hall hone
      (fun k hk => by obtain ⟨u, h1, _⟩ := hget k hk; rw [h1]; rfl) (fun k hk => by
        obtain ⟨u, h1, h2⟩ := hget k hk
        rw [h1]
        exact h2 hk)
    rw [List.length_map, hl] at key
    exact key
theorem slice_reads {ty : Ty} {n len cap sz : Nat} {a : Addr} {elems : List (DataW H × List MemPlace)} (hsz : 0 < sz) (hty : ty.size = sz) (hlen : len ≤ n) (hcap : len ≤ cap) (hel : elems.length = len)
    (h : ∀ i, i < len → ∃ cs ds, w.cells? 0 (a.add (i * sz)) sz = some cs ∧ HasTy n ty ds ∧ CellsR w ds cs) (hb : 0 < len → a.block < w.heap.size) :
    ∃ ds, HasTy n (.slice ty) ds ∧ CellsR w ds [.slice (some a) len cap] := by
  obtain ⟨ls, h1, h2, h3⟩ := slice_readsG (R := fun _ ds => HasTy n ty ds) (pk := ty.pack) (fun i ds hd => ⟨pack_cells hd, (HasTy.spec ty ds hd).1.trans hty, (HasTy.spec ty ds hd).2⟩) hsz hcap h hb
  refine ⟨[.list (ls.map ty.pack)], ⟨ls, by omega, fun c hc => ?_, rfl⟩, h3⟩
  obtain ⟨i, hi, rfl⟩ := List.mem_iff_getElem.1 hc
  exact h2 i hi
mutual
theorem trod_reads {n : Nat} : ∀ (ty : Ty) (fuel : Nat) (t : TypeId) (cs : List Value) (d : DataW H) (ps : List MemPlace), ty.fits P t = true → DataW.trod enc P w 0 (fun _ => true) true fuel t cs = some (d, ps) → bulk d ≤ n →
    ∃ ds, HasTy n ty ds ∧ CellsR w ds cs
  | ty, 0, t, cs, d, ps, hf, h, hb => by simp [DataW.trod] at h
  | .bool, fuel + 1, t, cs, d, ps, hf, h, hb => by
    simp only [Ty.fits] at hf
    split at hf
    · rename_i hu
      unfold DataW.trod at h
      rw [hu] at h
      split at h <;> first | (cases ‹some TypeDesc.bool = some _›; done) | skip
      · rename_i b h1
        refine ⟨[.bool b], ⟨b, rfl⟩, rfl, fun i hi u hu => ?_⟩
        have hi0 : i = 0 := by simp at hi; omega
        subst hi0
        simp at hu
        subst hu
        exact .bool b
      · cases h
    · cases hf
  | .int k, fuel + 1, t, cs, d, ps, hf, h, hb => by
    simp only [Ty.fits] at hf
    split at hf
    · rename_i k' hu
      simp only [beq_iff_eq] at hf
      subst hf
      unfold DataW.trod at h
      rw [hu] at h
      split at h <;> first | (cases ‹some (TypeDesc.int k') = some _›; done) | skip
      · rename_i k1 k2 x h1
        cases h1
        split at h
        · rename_i hc
          obtain ⟨rfl, hw⟩ := hc
          refine ⟨[.int k2 x], ⟨x, hw, rfl⟩, rfl, fun i hi u hu => ?_⟩
          have hi0 : i = 0 := by simp at hi; omega
          subst hi0
          simp at hu
          subst hu
          exact .int k2 x
        · cases h
      · cases h
    · cases hf
  | .str, fuel + 1, t, cs, d, ps, hf, h, hb => by
    simp only [Ty.fits] at hf
    split at hf
    · rename_i hu
      unfold DataW.trod at h
      rw [hu] at h
      split at h <;> first | (cases ‹some TypeDesc.string = some _›; done) | skip
      · rename_i s h1
        split at h
        · simp only [Option.some.injEq, Prod.mk.injEq] at h
          obtain ⟨rfl, rfl⟩ := h
          simp only [bulk] at hb
          refine ⟨[.str s.data.toList], ⟨_, by omega, rfl⟩, rfl, fun i hi u hu => ?_⟩
          have hi0 : i = 0 := by simp at hi; omega
          subst hi0
          simp at hu
          subst hu
          have := DR.str (w := w) (B := belowSz w) s.data.toList
          simpa using this
        · cases h
      · cases h
    · cases hf
  | .slice ty, fuel + 1, t, cs, d, ps, hf, h, hb => by
    simp only [Ty.fits] at hf
    split at hf
    · rename_i e hu
      simp only [Bool.and_eq_true, beq_iff_eq, decide_eq_true_eq] at hf
      obtain ⟨⟨hfe, hsz⟩, hpos⟩ := hf
      unfold DataW.trod at h
      rw [hu] at h
      split at h <;> first | (cases ‹some (TypeDesc.slice e) = some _›; done) | skip
      · refine ⟨[.list []], ⟨[], by simp, by simp, rfl⟩, rfl, fun i hi u hu => ?_⟩
        have hi0 : i = 0 := by simp at hi; omega
        subst hi0
        simp at hu
        subst hu
        exact .empty none 0
      · rename_i _ e1 a len cap h1
        cases h1
        split at h
        · rename_i hc
          simp only [Option.bind_eq_some_iff, Option.map_eq_some_iff] at h
          obtain ⟨elems, he, rest, hr, hdp⟩ := h
          simp only [Prod.mk.injEq] at hdp
          obtain ⟨rfl, rfl⟩ := hdp
          obtain ⟨hel, hget⟩ := mapM_range he
          simp only [bulk] at hb
          have hlen := bulk_len (elems.map (·.1))
          simp only [List.length_map] at hlen
          refine slice_reads (sz := P.cellsOf e) (elems := elems) (by omega) hsz.symm (by omega) hc.2.1 hel (fun i hi => ?_) (fun h0 => ?_)
          · have h2 := hget i hi (by omega)
            simp only [Option.bind_eq_some_iff] at h2
            obtain ⟨ci, h3, h4⟩ := h2
            have hbi : bulk elems[i].1 ≤ n := by
              have : elems[i].1 ∈ elems.map (·.1) := List.mem_map.2 ⟨elems[i], List.getElem_mem _, rfl⟩
              have := bulk_mem this
              omega
            obtain ⟨ds, h5, h6⟩ := trod_reads ty fuel e ci elems[i].1 elems[i].2 hfe h4 hbi
            exact ⟨ci, ds, h3, h5, h6⟩
          · have h2 := hget 0 h0 (by omega)
            simp only [Option.bind_eq_some_iff] at h2
            obtain ⟨ci, h3, _⟩ := h2
            have := World.cells?_block h3 (by omega)
            rw [block_add] at this
            exact this
        · cases h
      · cases h
    · cases hf
  | .struct fs, fuel + 1, t, cs, d, ps, hf, h, hb => by
    simp only [Ty.fits] at hf
    split at hf
    · rename_i fds hu
      simp only [Bool.and_eq_true, beq_iff_eq] at hf
      obtain ⟨hfl, hsz⟩ := hf
      unfold DataW.trod at h
      rw [hu] at h
      split at h <;> first | (cases ‹some (TypeDesc.struct fds) = some _›; done) | skip
      · rename_i fs' h1
        cases h1
        split at h
        · rename_i hc
          simp only [Option.map_eq_some_iff, Prod.mk.injEq] at h
          obtain ⟨xs, hx, rfl, rfl⟩ := h
          simp only [bulk] at hb
          obtain ⟨ds, h2, h3⟩ := trod_readsL (n := n) fs fuel 0 fds.toList _ xs hfl (by rw [hc, hsz]; omega) hx (fun x hx' => by
            have := bulk_mem (List.mem_map.2 ⟨x, hx', rfl⟩ : x.1 ∈ xs.map (·.1))
            omega)
          rw [List.drop_zero] at h3
          exact ⟨ds, h2, h3⟩
        · rename_i hc
          first | (cases h; done) | (rw [if_neg hc] at h; cases h; done)
      · exact absurd rfl (‹∀ (fs : Array Field), some (TypeDesc.struct fds) = some (TypeDesc.struct fs) → False› fds)
    · cases hf
  | .arr fs, fuel + 1, t, cs, d, ps, hf, h, hb => by
    simp only [Ty.fits] at hf
    split at hf
    · rename_i m e hu
      simp only [Bool.and_eq_true, beq_iff_eq] at hf
      obtain ⟨⟨hfl, hm⟩, hsz⟩ := hf
      unfold DataW.trod at h
      rw [hu] at h
      split at h <;> first | (cases ‹some (TypeDesc.array m e) = some _›; done) | skip
      · rename_i m' e' h1
        cases h1
        split at h
        · rename_i hc
          simp only [Option.map_eq_some_iff, Prod.mk.injEq] at h
          obtain ⟨xs, hx, rfl, rfl⟩ := h
          simp only [bulk] at hb
          rw [hm, List.range_eq_range'] at hx
          obtain ⟨ds, h2, h3⟩ := trod_readsA (n := n) fs fuel e 0 _ xs hfl (by rw [hc, hsz]; omega) hx (fun x hx' => by
            have := bulk_mem (List.mem_map.2 ⟨x, hx', rfl⟩ : x.1 ∈ xs.map (·.1))
            omega)
          rw [Nat.zero_mul, List.drop_zero] at h3
          exact ⟨ds, h2, h3⟩
        · rename_i hc
          first | (cases h; done) | (rw [if_neg hc] at h; cases h; done)
      · exact absurd rfl (‹∀ (n : Nat) (e_1 : TypeId), some (TypeDesc.array m e) = some (TypeDesc.array n e_1) → False› m e)
    · cases hf
theorem trod_readsL {n : Nat} : ∀ (fs : List Ty) (fuel : Nat) (off : Nat) (fds : List Field) (cs : List Value) (xs : List (DataW H × List MemPlace)), Ty.fitsL P off fs fds = true → cs.length = off + Ty.sizes fs →
    fds.mapM (fun f => DataW.trod enc P w 0 (fun _ => true) true fuel f.type ((cs.drop f.offset).take (P.cellsOf f.type))) = some xs → (∀ x ∈ xs, bulk x.1 ≤ n) → ∃ ds, HasTyL n fs ds ∧ CellsR w ds (cs.drop off)
  | [], fuel, off, fds, cs, xs, hf, hl, hx, hb => by
    refine ⟨[], rfl, ?_, fun i hi => by simp at hi⟩
    simp only [Ty.sizes] at hl
    simp [hl]
  | ty :: r, fuel, off, [], cs, xs, hf, hl, hx, hb => by simp [Ty.fitsL] at hf
  | ty :: r, fuel, off, f :: fds, cs, xs, hf, hl, hx, hb => by
    simp only [Ty.fitsL, Bool.and_eq_true, beq_iff_eq] at hf
    obtain ⟨⟨⟨ho, hz⟩, hfe⟩, hrest⟩ := hf
    simp only [List.mapM_cons, Option.bind_eq_bind, Option.bind_eq_some_iff, Option.pure_def, Option.some.injEq] at hx
    obtain ⟨y, hy, ys, hys, rfl⟩ := hx
    simp only [Ty.sizes] at hl
    obtain ⟨ds1, g1, g2⟩ := trod_reads ty fuel f.type _ y.1 y.2 hfe hy (hb y (by simp))
    obtain ⟨ds2, g3, g4⟩ := trod_readsL r fuel (off + ty.size) fds cs ys hrest (by omega) hys (fun x hx => hb x (by simp [hx]))
    refine ⟨ds1 ++ ds2, ⟨ds1, ds2, g1, g3, rfl⟩, ?_⟩
    have e : cs.drop off = (cs.drop f.offset).take (P.cellsOf f.type) ++ cs.drop (off + ty.size) := by
      rw [ho, hz, ← List.drop_drop, List.take_append_drop]
    rw [e]
    exact g2.append g4
theorem trod_readsA {n : Nat} : ∀ (fs : List Ty) (fuel : Nat) (e : TypeId) (i : Nat) (cs : List Value) (xs : List (DataW H × List MemPlace)), Ty.fitsA P e fs = true → cs.length = i * P.cellsOf e + Ty.sizes fs →
    (List.range' i fs.length).mapM (fun i => DataW.trod enc P w 0 (fun _ => true) true fuel e ((cs.drop (i * P.cellsOf e)).take (P.cellsOf e))) = some xs → (∀ x ∈ xs, bulk x.1 ≤ n) → ∃ ds, HasTyL n fs ds ∧ CellsR w ds (cs.drop (i * P.cellsOf e))
  | [], fuel, e, i, cs, xs, hf, hl, hx, hb => by
    refine ⟨[], rfl, ?_, fun i hi => by simp at hi⟩
    simp only [Ty.sizes] at hl
    simp [hl]
  | ty :: r, fuel, e, i, cs, xs, hf, hl, hx, hb => by
    simp only [Ty.fitsA, Bool.and_eq_true, beq_iff_eq] at hf
    obtain ⟨⟨hz, hfe⟩, hrest⟩ := hf
    simp only [List.length_cons, List.range'_succ, List.mapM_cons, Option.bind_eq_bind, Option.bind_eq_some_iff, Option.pure_def, Option.some.injEq] at hx
    obtain ⟨y, hy, ys, hys, rfl⟩ := hx
    simp only [Ty.sizes] at hl
    have e1 : (i + 1) * P.cellsOf e = i * P.cellsOf e + ty.size := by rw [Nat.add_mul, Nat.one_mul, hz]
    obtain ⟨ds1, g1, g2⟩ := trod_reads ty fuel e _ y.1 y.2 hfe hy (hb y (by simp))
    obtain ⟨ds2, g3, g4⟩ := trod_readsA r fuel e (i + 1) cs ys hrest (by omega) hys (fun x hx => hb x (by simp [hx]))
    refine ⟨ds1 ++ ds2, ⟨ds1, ds2, g1, g3, rfl⟩, ?_⟩
    have e2 : cs.drop (i * P.cellsOf e) = (cs.drop (i * P.cellsOf e)).take (P.cellsOf e) ++ cs.drop ((i + 1) * P.cellsOf e) := by
      rw [e1, hz, ← List.drop_drop, List.take_append_drop]
    rw [e2]
    exact g2.append g4
end
end
end Go.Ab
namespace Go.Ab
open Go Go.RowKit
section
variable {H : Type} {enc : TypeId × Value → H} {P : Program} {W W' : World}
theorem arg_read {n base : Nat} {ty : Ty} {t : TypeId} {v : Value} {d : DataW H} {ps : List MemPlace} (hf : ty.fits P t = true) (h : DataW.Trod enc P W 0 (fun _ => true) true t v d ps) (hv : Value.okWide P W .any base t v) (hb : bulk d ≤ n) :
    ∃ cs, HasTy n ty cs ∧ DR W (belowSz W) (ty.pack cs) v := by
  obtain ⟨fuel, h⟩ := h
  obtain ⟨cs, h1, h2⟩ := trod_reads ty fuel t _ d ps hf h hb
  refine ⟨cs, h1, ?_⟩
  have one : ∀ (x : D), cs = [x] → ty.pack cs = x → v.oneCell' = true → DR W (belowSz W) (ty.pack cs) v := by
    intro x hx hp ho
    subst hx
    rw [hp]
    have hvc : v.cells.toList = [v] := by cases v <;> simp_all [Value.cells, Value.oneCell']
    rw [hvc] at h2
    have := h2.2 0 (by simp) v rfl
    simpa using this
  cases ty with
  | bool =>
    obtain ⟨b, rfl⟩ := h1
    refine one _ rfl rfl ?_
    simp only [Ty.fits] at hf
    split at hf
    · rename_i hu
      simp only [Value.okWide, hu, Cell.okWide] at hv
      cases v <;> simp_all [Cell.ok, Value.oneCell']
    · cases hf
  | int k =>
    obtain ⟨b, _, rfl⟩ := h1
    refine one _ rfl rfl ?_
    simp only [Ty.fits] at hf
    split at hf
    · rename_i hu
      simp only [Value.okWide, hu, Cell.okWide] at hv
      cases v <;> simp_all [Cell.ok, Value.oneCell']
    · cases hf
  | str =>
    obtain ⟨b, _, rfl⟩ := h1
    refine one _ rfl rfl ?_
    simp only [Ty.fits] at hf
    split at hf
    · rename_i hu
      simp only [Value.okWide, hu, Cell.okWide] at hv
      cases v <;> simp_all [Cell.ok, Value.oneCell']
    · cases hf
  | slice ty =>
    obtain ⟨b, _, _, rfl⟩ := h1
    refine one _ rfl rfl ?_
    simp only [Ty.fits] at hf
    split at hf
    · rename_i hu
      simp only [Value.okWide, hu, Cell.okWide] at hv
      cases v <;> simp_all [Cell.ok, Value.oneCell']
    · cases hf
  | struct fs =>
    simp only [Ty.fits] at hf
    split at hf
    · rename_i hu
      simp only [Value.okWide, hu] at hv
      obtain ⟨vs, rfl, _⟩ := hv
      simp only [Value.cells] at h2
      refine .agg cs vs (fun i => vs.getD i undef) (by have := h2.1; simpa using this) (HasTyL.spec fs cs h1).2 (fun i hi => ?_) (fun i hi => ?_)
      · have : i < vs.size := by have := h2.1; simp at this; omega
        simp [this]
      · have : i < vs.size := by have := h2.1; simp at this; omega
        exact h2.2 i hi _ (by simp [this])
    · cases hf
  | arr fs =>
    simp only [Ty.fits] at hf
    split at hf
    · rename_i hu
      simp only [Value.okWide, hu] at hv
      obtain ⟨vs, rfl, _⟩ := hv
      simp only [Value.cells] at h2
      refine .agg cs vs (fun i => vs.getD i undef) (by have := h2.1; simpa using this) (HasTyL.spec fs cs h1).2 (fun i hi => ?_) (fun i hi => ?_)
      · have : i < vs.size := by have := h2.1; simp at this; omega
        simp [this]
      · have : i < vs.size := by have := h2.1; simp at this; omega
        exact h2.2 i hi _ (by simp [this])
    · cases hf
theorem args_stay (hl : laidOutB P = true) (hb : Below W.heap.size W W') : ∀ (ts : List TypeId) (vs : List Value) (ds : List (DataW H)) (ps : List MemPlace), ts.all (fun t => P.readableRec t && decide (t < P.types.size)) = true →
    DataW.TrodAll enc P W 0 (fun _ => true) true ts vs ds ps → (∀ x ∈ ps, x.block < W.heap.size) → DataW.TrodAll enc P W' 0 (fun b => decide (b < W.heap.size)) true ts vs ds ps
  | [], vs, ds, ps, hr, h, hlt => by
    obtain ⟨rfl, rfl, rfl⟩ := ChangeShapes.trodAll_nil h
    rfl
  | t :: ts, vs, ds, ps, hr, h, hlt => by
    obtain ⟨v, vs', d, ds', p, q, rfl, rfl, rfl, h1, h2⟩ := ChangeShapes.trodAll_cons h
    simp only [List.all_cons, Bool.and_eq_true, decide_eq_true_eq] at hr
    exact ⟨p, q, Below.trod hl hr.1.1 hr.1.2 h1 hb (fun x hx => hlt x (by simp [hx])), args_stay hl hb ts vs' ds' q hr.2 h2 (fun x hx => hlt x (by simp [hx])), rfl⟩
end
end Go.Ab
namespace Go.Ab
open Go Go.RowKit
def Rd (P : Program) (t : TypeId) (R : Nat → D → Prop) : Prop :=
  ∀ (H : Type) (enc : TypeId × Value → H) (W : World) (base n : Nat) (v : Value) (d : DataW H) (ps : List MemPlace), DataW.Trod enc P W 0 (fun _ => true) true t v d ps → Value.okWide P W .any base t v → bulk d ≤ n → ∃ x, R n x ∧ DR W (belowSz W) x v
theorem rd_ty {P : Program} {ty : Ty} {t : TypeId} (hf : ty.fits P t = true) : Rd P t (fun n x => ∃ cs, HasTy n ty cs ∧ x = ty.pack cs) := fun H enc W base n v d ps h hv hb => by
  obtain ⟨cs, h1, h2⟩ := arg_read hf h hv hb
  exact ⟨_, ⟨cs, h1, rfl⟩, h2⟩
def RdAll (P : Program) : List TypeId → List (Nat → D → Prop) → Prop
  | [], [] => True
  | t :: ts, R :: Rs => Rd P t R ∧ RdAll P ts Rs
  | _, _ => False
def HasRs (n : Nat) : List (Nat → D → Prop) → List D → Prop
  | [], xs => xs = []
  | R :: Rs, xs => ∃ x ys, R n x ∧ HasRs n Rs ys ∧ xs = x :: ys
section
variable {H : Type} {enc : TypeId × Value → H} {P : Program} {W W' : World}
theorem args_rd {n base : Nat} : ∀ (Rs : List (Nat → D → Prop)) (ts : List TypeId) (vs : List Value) (ds : List (DataW H)) (ps : List MemPlace), RdAll P ts Rs → DataW.TrodAll enc P W 0 (fun _ => true) true ts vs ds ps →
    (∀ (j : Nat) t v, ts[j]? = some t → vs[j]? = some v → Value.okWide P W .any base t v) → bulkAll ds ≤ n → ∃ xs, HasRs n Rs xs ∧ vs.length = xs.length ∧ ∀ i (hi : i < xs.length) u, vs[i]? = some u → DR W (belowSz W) (xs[i]) u
  | [], [], vs, ds, ps, hf, h, hv, hb => by
    obtain ⟨rfl, rfl, rfl⟩ := ChangeShapes.trodAll_nil h
    exact ⟨[], rfl, rfl, fun i hi => by simp at hi⟩
  | [], t :: ts, vs, ds, ps, hf, h, hv, hb => by simp [RdAll] at hf
  | R :: r, [], vs, ds, ps, hf, h, hv, hb => by simp [RdAll] at hf
  | R :: r, t :: ts, vs, ds, ps, hf, h, hv, hb => by
    obtain ⟨v, vs', d, ds', p, q, rfl, rfl, rfl, h1, h2⟩ := ChangeShapes.trodAll_cons h
    simp only [bulkAll] at hb
    obtain ⟨x, g1, g2⟩ := hf.1 H enc W base n v d p h1 (hv 0 t v rfl rfl) (by omega)
    obtain ⟨xs, g3, g4, g5⟩ := args_rd (n := n) (base := base) r ts vs' ds' q hf.2 h2 (fun j t' v' hj hj' => hv (j + 1) t' v' (by simpa using hj) (by simpa using hj')) (by omega)
    refine ⟨x :: xs, ⟨x, xs, g1, g3, rfl⟩, by simp [g4], fun i hi u hu => ?_⟩
    cases i with
    | zero => simp at hu; subst hu; exact g2
    | succ i => exact g5 i (by simpa using hi) u (by simpa using hu)
theorem law_callsR {f : FuncId} {fn : Func} {s : ChangeSpec} {g : List D → Option D} {fl apart : Bool} {Rs : List (Nat → D → Prop)} {n base : Nat} {tb : TypeId} (hok : PureOK P f fl g) (hl : laidOutB P = true) (hr : fn.params.toList.all (fun t => P.readableRec t && decide (t < P.types.size)) = true)
    (hres : fn.resultTypes.toList = [tb]) (htb : P.underlying tb = some .bool) (hfit : RdAll P fn.params.toList Rs) (hg : ∀ xs, HasRs n Rs xs → g xs = some (.bool true)) (hs : s.vars = []) {args : Array Value} {ds gs : List (DataW H)} {before : List MemPlace}
    (hval : ∀ (j : Nat) t v, fn.params[j]? = some t → args[j]? = some v → Value.okWide P W .any base t v) (hW : DataW.Whole enc P fn.params.toList s.vars apart W args.toList ds gs before)
    (hspec : s.fn H (ds ++ gs) = { results := [.lit (.bool true)], args := ds }) (hbulk : bulkAll ds ≤ n) :
    Calls P f args W fun e W' => ∃ v, e = .returned v ∧ s.post enc P fn apart true false false W args v W' := by
  have hW' := hW
  have hlt := hW.lt
  obtain ⟨p, q, hA, hV, rfl, hfz, hnd⟩ := hW
  rw [hs] at hV
  obtain ⟨rfl, rfl⟩ := ChangeShapes.trodVars_none hV
  obtain ⟨xs, h1, h2, h3⟩ := args_rd (n := n) Rs _ _ _ _ hfit hA (fun j t v hj hv => hval j t v (by simpa using hj) (by simpa using hv)) hbulk
  obtain ⟨_, hcall⟩ := hok xs _ (hg xs h1)
  obtain ⟨_, hc⟩ := hcall W (belowSz W) args (fun b hb => hb) (by simpa using h2) (fun i hi u hu => h3 i hi u (by simpa using hu))
  refine hc.mono ?_
  rintro e W' ⟨v, rfl, hdr, hbel⟩
  have hv := hdr.bool_eq
  subst hv
  have hrs : fn.resultTypes.size = 1 := by
    have := congrArg List.length hres
    simpa using this
  refine ⟨_, rfl, ds, [], p ++ [], [], p, [], hW', ?_, ?_, ?_, ?_, fun h => (by cases h)⟩
  · rw [hspec, hres]
    have : (Value.bool true).resultList fn.resultTypes.size = [.bool true] := by rw [hrs]; rfl
    rw [this]
    exact trodAll_cons_mk (shut_bool htb _) ChangeShapes.trodAll_mk0
  · rw [hspec]
    exact args_stay hl hbel _ _ _ _ hr hA (fun x hx => hlt x (by simp [hx]))
  · rw [hs, hspec]
    rfl
  · exact hbel.frame _
end
end Go.Ab
namespace Go.Ab
open Go Go.RowKit
def lookV : List (Nat × AV) → Nat → AV
  | [], _ => .junk
  | (k, x) :: r, i => if i = k then x else lookV r i
attribute [go_sem] lookV
def frame (n : Nat) (t : List (Nat × AV)) : List AV := (List.range n).map (lookV t)
theorem frame_len (n : Nat) (t : List (Nat × AV)) : (frame n t).length = n := by simp [frame]
@[go_sem] theorem frame_at (n : Nat) (t : List (Nat × AV)) (i : Nat) : (frame n t)[i]? = if i < n then some (lookV t i) else none := by
  unfold frame
  rw [List.getElem?_map]
  by_cases h : i < n
  · rw [List.getElem?_range h, if_pos h]; rfl
  · rw [List.getElem?_eq_none (by simpa using h), if_neg h]; rfl
@[go_sem] theorem frame_get (n : Nat) (t : List (Nat × AV)) (i : Nat) : (frame n t).getD i .junk = if i < n then lookV t i else .junk := by
  rw [List.getD_eq_getElem?_getD, frame_at]
  split <;> rfl
@[go_sem] theorem frame_set (n : Nat) (t : List (Nat × AV)) (i : Nat) (x : AV) : (frame n t).set i x = if i < n then frame n ((i, x) :: t) else frame n t := by
  apply List.ext_getElem?
  intro j
  rw [List.getElem?_set, frame_len]
  split
  · rename_i h
    subst h
    split <;> simp [frame_at, lookV, *]
  · rename_i h
    by_cases h2 : i < n
    · have h3 : ¬ j = i := fun e => h e.symm
      rw [if_pos h2, frame_at, frame_at]
      simp [lookV, h3]
    · rw [if_neg h2]
def enumV : Nat → List D → List (Nat × AV)
  | _, [] => []
  | i, d :: r => (i, .data d) :: enumV (i + 1) r
theorem lookV_enum : ∀ (l : List D) (i j : Nat), lookV (enumV i l) j = if i ≤ j then (match l[j - i]? with | some d => .data d | none => .junk) else .junk
  | [], i, j => by simp [enumV, lookV]
  | d :: r, i, j => by
    simp only [enumV, lookV, lookV_enum r (i + 1) j]
    by_cases h : j = i
    · subst h; simp
    · rw [if_neg h]
      by_cases h2 : i ≤ j
      · rw [if_pos h2, if_pos (by omega), show j - i = (j - (i + 1)) + 1 from by omega, List.getElem?_cons_succ]
      · rw [if_neg h2, if_neg (by omega)]
theorem start_frame {n : Nat} {ds : List D} (h : ds.length ≤ n) : start n ds = frame n (enumV 0 ds) := by
  apply List.ext_getElem?
  intro j
  rw [frame_at, lookV_enum, if_pos (Nat.zero_le _), Nat.sub_zero, start]
  by_cases h1 : j < ds.length
  · rw [List.getElem?_append_left (by simpa using h1), if_pos (by omega), List.getElem?_map, List.getElem?_eq_getElem h1]
    rfl
  · rw [List.getElem?_append_right (by simpa using h1), List.getElem?_replicate, List.getElem?_eq_none (by omega)]
    simp only [List.length_map]
    by_cases h2 : j < n
    · rw [if_pos (by omega), if_pos h2]
    · rw [if_neg (by omega), if_neg h2]
def ConvF (H : Heap) (t : List (Nat × AV)) : List (Nat × AV) → Prop
  | [] => True
  | (i, x) :: r => Conv H (lookV t i) x ∧ ConvF H t r
theorem ConvF.at {H : Heap} {t : List (Nat × AV)} : ∀ {t' : List (Nat × AV)}, ConvF H t t' → ∀ i, Conv H (lookV t i) (lookV t' i)
  | [], _, i => trivial
  | (k, x) :: r, h, i => by
    simp only [lookV]
    split
    · rename_i hk; subst hk; exact h.1
    · exact ConvF.at h.2 i
theorem ConvL_map {H : Heap} {f g : Nat → AV} (h : ∀ i, Conv H (f i) (g i)) : ∀ l : List Nat, ConvL H (l.map f) (l.map g)
  | [] => trivial
  | i :: r => ⟨h i, ConvL_map h r⟩
def refsF (n : Nat) : List (Nat × AV) → Bool
  | [] => true
  | (_, x) :: r => x.refsOK n && refsF n r
theorem refsF_at {n : Nat} : ∀ {t : List (Nat × AV)}, refsF n t = true → ∀ i, (lookV t i).refsOK n = true
  | [], _, i => rfl
  | (k, x) :: r, h, i => by
    simp only [refsF, Bool.and_eq_true] at h
    simp only [lookV]
    split
    · exact h.1
    · exact refsF_at h.2 i
theorem refsOKs_map {n : Nat} {f : Nat → AV} (h : ∀ i, (f i).refsOK n = true) : ∀ l : List Nat, refsOKs n (l.map f) = true
  | [] => rfl
  | i :: r => by simp only [List.map_cons, refsOKs, h i, refsOKs_map h r, Bool.and_self]
theorem Weak.ofF {b m : Nat} {t t' : List (Nat × AV)} {tab tab' : List (Nat × Obj)} {n n' : Nat} (hb : b ≤ n') (h1 : ConvF ⟨tab, n⟩ t t') (h2 : TabSub n' tab tab') (h3 : refsF n' t' = true) : Weak b (frame m t) ⟨tab, n⟩ (frame m t') ⟨tab', n'⟩ :=
  Weak.of hb (ConvL_map h1.at _) h2 (refsOKs_map (refsF_at h3) _)
theorem Weak.nilrowF {b m i n : Nat} {t : List (Nat × AV)} {tab : List (Nat × Obj)} (e : TypeId) {sz : Nat} (hsz : 0 < sz) (him : i < m) (hi : lookV t i = .nils) : Weak b (frame m t) ⟨tab, n⟩ (frame m ((i, .row n 0) :: t)) ⟨upd tab n (.row e sz []), n + 1⟩ := by
  have h := Weak.nilrow (b := b) (sl := frame m t) (H := ⟨tab, n⟩) (i := i) e hsz (by rw [frame_at, if_pos him, hi])
  rw [frame_set, if_pos him] at h
  exact h
end Go.Ab
namespace Go.Ab
open Go Go.RowKit
theorem ConvL.at {H : Heap} : ∀ {l r : List AV}, ConvL H l r → r.length = l.length ∧ ∀ (i : Nat) (hi : i < r.length) (hj : i < l.length), Conv H (l[i]) (r[i])
  | [], [], _ => ⟨rfl, fun i hi => by simp at hi⟩
  | x :: l, y :: r, h => by
    obtain ⟨h1, h2⟩ := ConvL.at h.2
    refine ⟨by simp [h1], fun i hi hj => ?_⟩
    cases i with
    | zero => exact h.1
    | succ i => exact h2 i (by simpa using hi) (by simpa using hj)
  | [], _ :: _, h => h.elim
  | _ :: _, [], h => h.elim
theorem Weak.boxConv {b o : Nat} {sl : List AV} {H : Heap} {cs cs' : List AV} (hg : H.get o = some (.box cs)) (hc : ConvL H cs cs') : Weak b sl H sl (H.set o (.box cs')) := fun c θ w a hb hs => by
  obtain ⟨hlen, hat⟩ := hc.at
  have hT := hs.st.sim.turn (w' := w) (k := o) (x0 := .box cs) (x := .box cs') (val := θ o) hg rfl rfl (fun b _ _ => rfl) (Nat.le_refl _) (fun b hb => .inl hb) trivial (fun _ => rfl)
    (fun hvr => by
      obtain ⟨bk, e, vs, h1, h2, h3, h4, h5⟩ := hs.st.sim.objs o _ hg
      refine ⟨bk, e, vs, h1, h2, by rw [h3, hlen], h4, fun i hi u hu => ?_⟩
      have hi' : i < cs.length := by omega
      obtain ⟨h6, h7⟩ := h5 i hi' u hu
      exact ⟨hvr _ _ ((hat i hi hi').sound hs.st.sim h6), h7⟩)
  refine ⟨updθ θ o (θ o), ⟨⟨hT.1, hs.st.defers, hs.st.size, fun i y u h1 h2 => hT.2.1 y u (hs.st.vals i y u h1 h2)⟩, fun p hp => ?_, hs.base⟩, hT.2.2.evo (by rw [← hb]; exact hs.base)⟩
  rw [Heap.get_set] at hp
  by_cases h : p = o
  · subst h; exact hs.wf p (by rw [hg]; rfl)
  · rw [if_neg h] at hp; exact hs.wf p hp
section
variable {P : Program} {Γ : FuncId → Option CSpec} {c : Ctx} {nst : Bool} {ops : Array Oper}
def runTill (P : Program) (Γ : FuncId → Option CSpec) (nst : Bool) (ops : Array Oper) : Nat → List Oper → List AV → Heap → Option (Nat × List AV × Heap)
  | k, [], sl, H => some (k, sl, H)
  | k, o :: l, sl, H => match runOp P Γ nst k ops o sl H with
    | some (sl', H') => runTill P Γ nst ops (nextK k H') l sl' H'
    | none => none
end
end Go.Ab
namespace Go.Ab
open Go Go.RowKit
def RetX (P : Program) (rs : List ResultVar) (good : D → Prop) (e : Exit) (sl : List AV) (H : Heap) : Prop := ∃ d, good d ∧ RetD P rs d e sl H
section
variable {P : Program} {c : Ctx} {H H' : Heap} {θ θ' : Nat → Value} {w w' : World} {sl : List AV} {a : Act} {o : Oper} {r : AV} {Γ : FuncId → Option CSpec}
theorem runTill_sound {ops : Array Oper} {nst : Bool} (hΓ : ∀ f s, Γ f = some s → SpecOK P f s) {Q : Exit → Act → World → Prop} {rest : List Oper} : ∀ (l : List Oper) (k k1 : Nat) (sl : List AV) (H : Heap) (θ : Nat → Value) (w : World) (a : Act) (sl' : List AV) (H' : Heap),
    runTill P Γ nst ops k l sl H = some (k1, sl', H') → St c H θ w sl a → H.bnd k → H.next ≤ k → (∀ a' w' θ', St c H' θ' w' sl' a' → H'.bnd k1 → H'.next ≤ k1 → k ≤ k1 → Kept c w w' → HLe H θ H' θ' → wpList P ops Q rest a' w') → wpList P ops Q (l ++ rest) a w
  | [], k, k1, sl, H, θ, w, a, sl', H', h, hs, hb, hn, hQ => by
    simp only [runTill, Option.some.injEq, Prod.mk.injEq] at h
    obtain ⟨rfl, rfl, rfl⟩ := h
    exact hQ a w θ hs hb hn (Nat.le_refl _) (Kept.refl c w) (HLe.refl _ _)
  | o :: l, k, k1, sl, H, θ, w, a, sl', H', h, hs, hb, hn, hQ => by
    simp only [runTill] at h
    split at h
    · rename_i sl1 H1 h1
      unfold runOp at h1
      rw [List.cons_append]
      split at h1
      · rename_i hw
        have hwant := wanted_sound hs hw
        split at h1
        · rename_i r H2 hstep
          simp only [Option.some.injEq, Prod.mk.injEq] at h1
          obtain ⟨rfl, rfl⟩ := h1
          obtain ⟨hy, hkey⟩ := astep_sound hΓ hs hb hn hstep
          refine wpList_step fun K hK => ?_
          rw [if_pos hwant]
          refine hy K Q fun v w' θ' hv hs' hk' hl' => hK _ _ ?_
          refine runTill_sound hΓ l (nextK k H2) k1 _ _ θ' w' _ sl' H' h (hs'.putA hv _) hkey.2 (nextK_ge _ _) fun a' w2 θ2 hs2 hb2 hn2 hk3 hk2 hl2 => hQ a' w2 θ2 hs2 hb2 hn2 (by have := nextK_gt k H2; omega) (hk'.trans hk2) (hl'.trans hl2)
        · cases h1
      · rename_i hw
        have hwant := wanted_sound hs hw
        simp only [Option.some.injEq, Prod.mk.injEq] at h1
        obtain ⟨rfl, rfl⟩ := h1
        refine wpList_step fun K hK => ?_
        rw [if_neg (by rw [hwant]; simp)]
        refine hK _ _ ?_
        exact runTill_sound hΓ l (nextK k H) k1 _ _ θ w _ sl' H' h (hs.putA vr_undef _) (fun p hp => by have := hb p hp; have := nextK_gt k H; omega) (nextK_ge _ _) fun a' w2 θ2 hs2 hb2 hn2 hk3 hk2 hl2 => hQ a' w2 θ2 hs2 hb2 hn2 (by have := nextK_gt k H; omega) hk2 hl2
      · cases h1
    · cases h
end
end Go.Ab
namespace Go.Ab
open Go Go.RowKit
def Keep (H H' : Heap) : Prop := ∀ o x, H.get o = some x → H'.get o = some x
def KeepT (tab' : List (Nat × Obj)) : List (Nat × Obj) → Prop
  | [] => True
  | (o, x) :: r => look tab' o = some x ∧ KeepT tab' r
theorem KeepT.keep {tab' : List (Nat × Obj)} : ∀ {tab : List (Nat × Obj)}, KeepT tab' tab → ∀ (o : Nat) (x : Obj), look tab o = some x → look tab' o = some x
  | [], _, o, x, h => by simp [look] at h
  | (p, y) :: r, ht, o, x, h => by
    simp only [KeepT] at ht
    simp only [look] at h
    split at h
    · rename_i hp
      simp only [Option.some.injEq] at h
      subst h
      subst hp
      exact ht.1
    · exact KeepT.keep ht.2 o x h
section
variable {P : Program} {Γ : FuncId → Option CSpec} {c : Ctx} {H H' : Heap} {θ θ' : Nat → Value} {w w' : World} {sl : List AV} {a : Act} {o : Oper} {r : AV}
def laneOrd (ops : Array Oper) (n1 : Nat) (bs : List Bool) : Bool := (List.range n1).all fun j => !bs.getD j false || (List.range j).all fun i => !bs.getD i false || beforeB ops 8 j i
theorem laneOrd_spec {ops : Array Oper} {n1 : Nat} {bs : List Bool} (h : laneOrd ops n1 bs = true) {i j : Nat} (hj : j < n1) (hij : i < j) (hbj : bs.getD j false = true) (hbi : bs.getD i false = true) : beforeB ops 8 j i = true := by
  simp only [laneOrd, List.all_eq_true, List.mem_range, Bool.or_eq_true, Bool.not_eq_true'] at h
  rcases h j hj with h1 | h1
  · rw [h1] at hbj; cases hbj
  rcases h1 i hij with h2 | h2
  · rw [h2] at hbi; cases hbi
  exact h2
variable {ops : Array Oper} {n1 : Nat} {L : Nat → List AV} {Hs : Nat → Heap}
theorem Keep.bump {n : Nat} (h : Keep H H') : Keep H (H'.bump n) := h
end
end Go.Ab
namespace Go.Ab
open Go Go.RowKit
def AtS (e : Exit) (sl : List AV) (H : Heap) : Exit → List AV → Heap → Prop := fun e2 s2 H2 => e2 = e ∧ s2 = sl ∧ H2 = H
def axp (P : Program) (b : Nat) (code : Code) (Q : Exit → List AV → Heap → Prop) (sl : List AV) (H : Heap) : Prop :=
  ∃ e sl' H', Q e sl' H' ∧ ∀ c : Ctx, c.base = b → awp P c code (AtS e sl' H') sl H
section
variable {P : Program} {b : Nat} {Q Q' : Exit → List AV → Heap → Prop} {sl sl' : List AV} {H H' : Heap}
theorem axp_skip (h : Q .normal sl H) : axp P b .skip Q sl H := ⟨_, _, _, h, fun _ _ => awp_skip ⟨rfl, rfl, rfl⟩⟩
theorem axp_label {l : Nat} (h : Q .normal sl H) : axp P b (.label l) Q sl H := ⟨_, _, _, h, fun _ _ => awp_label ⟨rfl, rfl, rfl⟩⟩
theorem axp_exit {id : Nat} (h : Q (.exit id) sl H) : axp P b (.exit id) Q sl H := ⟨_, _, _, h, fun _ _ => awp_exit ⟨rfl, rfl, rfl⟩⟩
theorem axp_ret (h : Q .ret sl H) : axp P b .ret Q sl H := ⟨_, _, _, h, fun _ _ => awp_ret ⟨rfl, rfl, rfl⟩⟩
theorem axp_seq {x y : Code} (h : axp P b x (thenA (axp P b y Q) Q) sl H) : axp P b (.seq x y) Q sl H := by
  obtain ⟨e, s1, H1, hq, hx⟩ := h
  cases e with
  | normal =>
    obtain ⟨e2, s2, H2, hq2, hy⟩ := hq
    refine ⟨e2, s2, H2, hq2, fun c hb => awp_seq (awp_mono (hx c hb) ?_)⟩
    rintro _ _ _ ⟨rfl, rfl, rfl⟩
    exact hy c hb
  | exit id => exact ⟨_, s1, H1, hq, fun c hb => awp_seq (awp_mono (hx c hb) (by rintro _ _ _ ⟨rfl, rfl, rfl⟩; exact ⟨rfl, rfl, rfl⟩))⟩
  | goto l => exact ⟨_, s1, H1, hq, fun c hb => awp_seq (awp_mono (hx c hb) (by rintro _ _ _ ⟨rfl, rfl, rfl⟩; exact ⟨rfl, rfl, rfl⟩))⟩
  | ret => exact ⟨_, s1, H1, hq, fun c hb => awp_seq (awp_mono (hx c hb) (by rintro _ _ _ ⟨rfl, rfl, rfl⟩; exact ⟨rfl, rfl, rfl⟩))⟩
  | panic ch => exact ⟨_, s1, H1, hq, fun c hb => awp_seq (awp_mono (hx c hb) (by rintro _ _ _ ⟨rfl, rfl, rfl⟩; exact ⟨rfl, rfl, rfl⟩))⟩
  | outgrown => exact ⟨_, s1, H1, hq, fun c hb => awp_seq (awp_mono (hx c hb) (by rintro _ _ _ ⟨rfl, rfl, rfl⟩; exact ⟨rfl, rfl, rfl⟩))⟩
theorem axp_block {id : Nat} {x : Code} (h : axp P b x (inBlockA id Q) sl H) : axp P b (.block id x) Q sl H := by
  obtain ⟨e, s1, H1, hq, hx⟩ := h
  cases e with
  | exit id' =>
    by_cases he : id' = id
    · simp only [inBlockA, if_pos he] at hq
      refine ⟨.normal, s1, H1, hq, fun c hb => awp_block (awp_mono (hx c hb) ?_)⟩
      rintro _ _ _ ⟨rfl, rfl, rfl⟩
      simp only [inBlockA, if_pos he]
      exact ⟨rfl, rfl, rfl⟩
    · simp only [inBlockA, if_neg he] at hq
      refine ⟨_, s1, H1, hq, fun c hb => awp_block (awp_mono (hx c hb) ?_)⟩
      rintro _ _ _ ⟨rfl, rfl, rfl⟩
      simp only [inBlockA, if_neg he]
      exact ⟨rfl, rfl, rfl⟩
  | normal => exact ⟨_, s1, H1, hq, fun c hb => awp_block (awp_mono (hx c hb) (by rintro _ _ _ ⟨rfl, rfl, rfl⟩; exact ⟨rfl, rfl, rfl⟩))⟩
  | goto l => exact ⟨_, s1, H1, hq, fun c hb => awp_block (awp_mono (hx c hb) (by rintro _ _ _ ⟨rfl, rfl, rfl⟩; exact ⟨rfl, rfl, rfl⟩))⟩
  | ret => exact ⟨_, s1, H1, hq, fun c hb => awp_block (awp_mono (hx c hb) (by rintro _ _ _ ⟨rfl, rfl, rfl⟩; exact ⟨rfl, rfl, rfl⟩))⟩
  | panic ch => exact ⟨_, s1, H1, hq, fun c hb => awp_block (awp_mono (hx c hb) (by rintro _ _ _ ⟨rfl, rfl, rfl⟩; exact ⟨rfl, rfl, rfl⟩))⟩
  | outgrown => exact ⟨_, s1, H1, hq, fun c hb => awp_block (awp_mono (hx c hb) (by rintro _ _ _ ⟨rfl, rfl, rfl⟩; exact ⟨rfl, rfl, rfl⟩))⟩
theorem axp_cond {cond : Operand} {tc ec : Code} {v : Bool} (hc : aev sl cond = .data (.bool v)) (ht : v = true → axp P b tc Q sl H) (he : v = false → axp P b ec Q sl H) : axp P b (.cond cond tc ec) Q sl H := by
  cases v with
  | true =>
    obtain ⟨e, s1, H1, hq, h⟩ := ht rfl
    exact ⟨e, s1, H1, hq, fun c hb => awp_cond_t hc (h c hb)⟩
  | false =>
    obtain ⟨e, s1, H1, hq, h⟩ := he rfl
    exact ⟨e, s1, H1, hq, fun c hb => awp_cond_f hc (h c hb)⟩
theorem axp_cond_t {cond : Operand} {tc ec : Code} (hc : aev sl cond = .data (.bool true)) (ht : axp P b tc Q sl H) : axp P b (.cond cond tc ec) Q sl H := axp_cond hc (fun _ => ht) (fun h => by cases h)
theorem axp_cond_f {cond : Operand} {tc ec : Code} (hc : aev sl cond = .data (.bool false)) (he : axp P b ec Q sl H) : axp P b (.cond cond tc ec) Q sl H := axp_cond hc (fun h => by cases h) (fun _ => he)
inductive Path (P : Program) (b : Nat) (x : Code) {X : Type} (S : X → List AV) (T : X → List (Nat × Obj)) (N : X → Nat) (μ : X → Nat) (E : Exit × List AV × Heap) : X → Prop where
  | out (y : X) (hne : E.1 ≠ .normal) (h : ∀ c : Ctx, c.base = b → awp P c x (AtS E.1 E.2.1 E.2.2) (S y) ⟨T y, N y⟩) : Path P b x S T N μ E y
  | next (y z : X) (s : List AV) (H : Heap) (h : ∀ c : Ctx, c.base = b → awp P c x (AtS .normal s H) (S y) ⟨T y, N y⟩) (hlt : μ z < μ y) (hw : Weak b s H (S z) ⟨T z, N z⟩) (hz : Path P b x S T N μ E z) : Path P b x S T N μ E y
theorem axp_loop_atN {X : Type} {x : Code} (S : X → List AV) (T : X → List (Nat × Obj)) (N : X → Nat) (I : X → Prop) (μ : X → Nat) (x0 : X) (hI : I x0) (h0 : Weak b sl H (S x0) ⟨T x0, N x0⟩)
    (round : ∀ y, I y → axp P b x (thenA (fun sl' H' => ∃ z, I z ∧ μ z < μ y ∧ Weak b sl' H' (S z) ⟨T z, N z⟩) Q) (S y) ⟨T y, N y⟩) : axp P b (.loop x) Q sl H := by
  have key : ∀ n y, I y → μ y = n → ∃ E : Exit × List AV × Heap, Q E.1 E.2.1 E.2.2 ∧ Path P b x S T N μ E y := by
    intro n
    induction n using Nat.strongRecOn with
    | _ n ih =>
      intro y hy hn
      obtain ⟨e, s1, H1, hq, h⟩ := round y hy
      cases e with
      | normal =>
        obtain ⟨z, hz, hlt, hw⟩ := hq
        obtain ⟨E, hE, hp⟩ := ih _ (hn ▸ hlt) z hz rfl
        exact ⟨E, hE, .next y z s1 H1 h hlt hw hp⟩
      | exit id => exact ⟨(.exit id, s1, H1), hq, .out y (by simp) h⟩
      | goto l => exact ⟨(.goto l, s1, H1), hq, .out y (by simp) h⟩
      | ret => exact ⟨(.ret, s1, H1), hq, .out y (by simp) h⟩
      | panic ch => exact ⟨(.panic ch, s1, H1), hq, .out y (by simp) h⟩
      | outgrown => exact ⟨(.outgrown, s1, H1), hq, .out y (by simp) h⟩
  obtain ⟨⟨e, s1, H1⟩, hE, hp⟩ := key _ x0 hI rfl
  refine ⟨e, s1, H1, hE, fun c hb => ?_⟩
  refine awp_loop_atN (c := c) S T N (Path P b x S T N μ (e, s1, H1)) μ x0 hp (by rw [hb]; exact h0) fun y hy => ?_
  cases hy with
  | out _ hne h =>
    refine awp_mono (h c hb) fun e' s' H' he => ?_
    obtain ⟨he1, he2, he3⟩ := he
    rw [he1, he2, he3]
    dsimp only at hne ⊢
    cases e with
    | normal => exact absurd rfl hne
    | exit id => exact ⟨rfl, rfl, rfl⟩
    | goto l => exact ⟨rfl, rfl, rfl⟩
    | ret => exact ⟨rfl, rfl, rfl⟩
    | panic ch => exact ⟨rfl, rfl, rfl⟩
    | outgrown => exact ⟨rfl, rfl, rfl⟩
  | next _ z s H h hlt hw hz =>
    refine awp_mono (h c hb) ?_
    rintro _ _ _ ⟨rfl, rfl, rfl⟩
    exact ⟨z, hz, hlt, by rw [hb]; exact hw⟩
theorem axp_loop_at {X : Type} {x : Code} (S : X → List AV) (T : X → List (Nat × Obj)) (N : Nat) (I : X → Prop) (μ : X → Nat) (x0 : X) (hI : I x0) (h0 : Weak b sl H (S x0) ⟨T x0, N⟩)
    (round : ∀ y, I y → axp P b x (thenA (fun sl' H' => ∃ z, I z ∧ μ z < μ y ∧ Weak b sl' H' (S z) ⟨T z, N⟩) Q) (S y) ⟨T y, N⟩) : axp P b (.loop x) Q sl H := axp_loop_atN S T (fun _ => N) I μ x0 hI h0 round
end
section
variable {P : Program} {Γ : FuncId → Option CSpec} {b : Nat} {sl sl1 sl2 sl' : List AV} {tab tab1 tab2 tab' : List (Nat × Obj)} {n n' n1 n2 m k k1 : Nat} {ops : Array Oper} {Q : Exit → List AV → Heap → Prop} {id : Nat} {om : Oper}
theorem axp_reg (hΓ : ∀ f s, Γ f = some s → SpecOK P f s) (h : runOps P Γ false ops n ops.toList sl ⟨tab, n⟩ = some (sl', ⟨tab', m⟩)) (hQ : Q .normal sl' ⟨tab', m⟩) : axp P b (.region id ops false) Q sl ⟨tab, n⟩ :=
  ⟨_, _, _, hQ, fun _ _ => awp_reg hΓ h ⟨rfl, rfl, rfl⟩⟩
end
def RetLX (P : Program) (rs : List ResultVar) (b : Nat) (good : AV → List Obj → Prop) (e : Exit) (sl : List AV) (H : Heap) : Prop := ∃ r os, good r os ∧ RetL P rs b r os e sl H
theorem loc_ex {P : Program} {X : Type} {enc : X → List AV} {eno : X → List Obj} {dom : X → Prop} {good : X → AV → List Obj → Prop} {f : FuncId} {fn : Func} {code : Code} {n : Nat} {rs : List ResultVar} (hf : P.funcs[f]? = some fn) (hname : (fn.name == "runtime.NumGoroutine") = false)
    (hb : fn.body = some code) (hn : fn.ntmps = n) (hrs : fn.results.toList = rs) (inj : ∀ x y, enc x = enc y → eno x = eno y → x = y)
    (h : ∀ x, dom x → axp P (eno x).length code (RetLX P rs (eno x).length (good x)) (enc x ++ List.replicate (n - (enc x).length) .junk) ⟨enumO 0 (eno x), (eno x).length⟩) :
    ∃ g : List AV → List Obj → Option (AV × List Obj), LocOK P f g ∧ ∀ x, dom x → ∃ r os, good x r os ∧ g (enc x) (eno x) = some (r, os) := by
  have h1 : ∀ x : X, ∃ p : AV × List Obj, dom x → good x p.1 p.2 ∧ ∀ c : Ctx, c.base = (eno x).length → awp P c code (RetL P rs (eno x).length p.1 p.2) (enc x ++ List.replicate (n - (enc x).length) .junk) ⟨enumO 0 (eno x), (eno x).length⟩ := fun x => by
    by_cases hx : dom x
    · obtain ⟨e, s1, H1, ⟨r, os, hg, hr⟩, hc⟩ := h x hx
      refine ⟨(r, os), fun _ => ⟨hg, fun c hcb => awp_mono (hc c hcb) ?_⟩⟩
      rintro _ _ _ ⟨rfl, rfl, rfl⟩
      exact hr
    · exact ⟨(.junk, []), fun hx' => absurd hx' hx⟩
  obtain ⟨out, hout⟩ := Classical.axiomOfChoice h1
  classical
  refine ⟨fun xs os => if h : ∃ x, enc x = xs ∧ eno x = os ∧ dom x then some (out h.choose) else none, loc_of_awp hf hname hb hn hrs fun xs os r os' hg _ c hcb => ?_, fun x hx => ⟨(out x).1, (out x).2, (hout x hx).1, ?_⟩⟩
  · split at hg
    · rename_i hh
      obtain ⟨e1, e2, hd⟩ := hh.choose_spec
      simp only [Option.some.injEq] at hg
      have h2 := (hout _ hd).2 c (by rw [e2]; exact hcb)
      rw [e1, e2, hg] at h2
      exact h2
    · cases hg
  · have hh : ∃ y, enc y = enc x ∧ eno y = eno x ∧ dom y := ⟨x, rfl, rfl, hx⟩
    dsimp only
    rw [dif_pos hh]
    obtain ⟨e1, e2, _⟩ := hh.choose_spec
    rw [inj _ _ e1 e2]
end Go.Ab
namespace Go.Ab
open Go Go.RowKit
def enumA : Nat → List AV → List (Nat × AV)
  | _, [] => []
  | i, x :: r => (i, x) :: enumA (i + 1) r
theorem lookV_enumA : ∀ (l : List AV) (i j : Nat), lookV (enumA i l) j = if i ≤ j then (match l[j - i]? with | some x => x | none => .junk) else .junk
  | [], i, j => by simp [enumA, lookV]
  | x :: r, i, j => by
    simp only [enumA, lookV, lookV_enumA r (i + 1) j]
    by_cases h : j = i
    · subst h; simp
    · rw [if_neg h]
      by_cases h2 : i ≤ j
      · rw [if_pos h2, if_pos (by omega), show j - i = (j - (i + 1)) + 1 from by omega, List.getElem?_cons_succ]
      · rw [if_neg h2, if_neg (by omega)]
theorem start_frameA {n : Nat} {xs : List AV} (h : xs.length ≤ n) : xs ++ List.replicate (n - xs.length) .junk = frame n (enumA 0 xs) := by
  apply List.ext_getElem?
  intro j
  rw [frame_at, lookV_enumA, if_pos (Nat.zero_le _), Nat.sub_zero]
  by_cases h1 : j < xs.length
  · rw [List.getElem?_append_left h1, if_pos (by omega), List.getElem?_eq_getElem h1]
  · rw [List.getElem?_append_right (by omega), List.getElem?_replicate, List.getElem?_eq_none (by omega)]
    by_cases h2 : j < n
    · rw [if_pos (by omega), if_pos h2]
    · rw [if_neg (by omega), if_neg h2]
theorem retl_x {P : Program} {rs : List ResultVar} {b : Nat} {good : AV → List Obj → Prop} {e : Exit} {sl : List AV} {H : Heap} {r x : AV} {os : List Obj} (he : Exit.over e = true) (hx : resA P rs sl H = some x) (hw : Weak b [x] H [r] ⟨enumO 0 os, os.length⟩) (hg : good r os) : RetLX P rs b good e sl H := ⟨r, os, hg, he, x, hx, hw⟩
end Go.Ab
namespace Go.Ab
open Go Go.RowKit
section
variable {P : Program} {Γ : FuncId → Option CSpec} {c : Ctx} {H H' : Heap} {θ θ' : Nat → Value} {w w' : World} {sl : List AV} {a : Act} {o : Oper} {r : AV}
variable {ops : Array Oper} {n1 : Nat} {L : Nat → List AV} {Hs : Nat → Heap}
def allQ1 (P : Program) (Γ : FuncId → Option CSpec) (ops : Array Oper) (H : Heap) : List (List AV × Oper × AV) → Prop
  | [] => True
  | q :: qs => qval P Γ ops H q.1 q.2.1 = some q.2.2 ∧ allQ1 P Γ ops H qs
def allQ (P : Program) (Γ : FuncId → Option CSpec) (ops : Array Oper) : List Heap → List (List AV × Oper × AV) → Prop
  | [], _ => True
  | H :: hs, qs => allQ1 P Γ ops H qs ∧ allQ P Γ ops hs qs
theorem allQ1.at {ops : Array Oper} {H : Heap} : ∀ {qs : List (List AV × Oper × AV)}, allQ1 P Γ ops H qs → ∀ q ∈ qs, qval P Γ ops H q.1 q.2.1 = some q.2.2
  | [], _, q, h => by cases h
  | q' :: qs, h, q, hq => by
    rcases List.mem_cons.1 hq with rfl | hq
    · exact h.1
    · exact allQ1.at h.2 q hq
theorem allQ.at {ops : Array Oper} {qs : List (List AV × Oper × AV)} : ∀ {hs : List Heap}, allQ P Γ ops hs qs → ∀ H ∈ hs, ∀ q ∈ qs, qval P Γ ops H q.1 q.2.1 = some q.2.2
  | [], _, H, h => by cases h
  | H' :: hs, h, H, hH => by
    rcases List.mem_cons.1 hH with rfl | hH
    · exact h.1.at
    · exact allQ.at h.2 H hH
end
end Go.Ab
namespace Go.Ab
open Go Go.RowKit
end Go.Ab
