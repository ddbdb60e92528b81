/-
  One text of the proof (own work): contracts of functions of the program, by the abstract machine.
-/
import Derived.Test.YtdodjhiofpiaaaaGreatDoorChecked
import Derived.Test.YtdodjhiofpiaaaaGreatDoorX17
import Derived.Test.YtdodjhiofpiaaaaGreatDoorX20
import Derived.Test.YtdodjhiofpiaaaaGreatDoorX19
set_option linter.unusedVariables false
set_option linter.unusedSimpArgs false
namespace Go.Ab
open Go Go.RowKit
theorem awN {P : Program} {Γ : FuncId → Option CSpec} {c : Ctx} {id n m : Nat} {ops : Array Oper} {sl sl' : List AV} {tab tab' : List (Nat × Obj)} {Q : Exit → List AV → Heap → Prop} (hΓ : ∀ f s, Γ f = some s → SpecOK P f s) (h : runOps P Γ true ops n ops.toList sl ⟨tab, n⟩ = some (sl', ⟨tab', m⟩)) (_ : True) (hQ : Q .normal sl' ⟨tab', m⟩) : awp P c (.region id ops false) Q sl ⟨tab, n⟩ := awp_regN hΓ h hQ
theorem Weak.arrRow {b o : Nat} {sl : List AV} {H : Heap} {e : TypeId} {sz n : Nat} {cs : List AV} {l : List D} (hg : H.get o = some (.arr e sz n cs)) (hc : ConvL H cs ((flat l).map .data)) (hl : l.length = n) (hall : ∀ d ∈ l, d.cells.length = sz) (hone : ∀ d ∈ flat l, d.one = true) :
    Weak b sl H sl (H.set o (.row e sz l)) := fun c θ w a hb hs => by
  obtain ⟨hlen, hat⟩ := hc.at
  simp only [List.length_map] at hlen
  have hT := hs.st.sim.turn (w' := w) (k := o) (x0 := .arr e sz n cs) (x := .row e sz l) (val := θ o) hg rfl rfl (fun b _ _ => rfl) (Nat.le_refl _) (fun b hb => .inl hb) ⟨rfl, rfl, by omega⟩ (fun _ => rfl)
    (fun hvr => by
      obtain ⟨h1, h2, vs, h3, h4, h5⟩ := hs.st.sim.objs o _ hg
      refine ⟨h1, hall, hone, vs, by rw [hl]; exact h3, h4, fun i hi u hu => ?_⟩
      have hi' : i < cs.length := by omega
      obtain ⟨h6, _⟩ := h5 i hi' u hu
      have h7 := hvr _ _ ((hat i (by simpa using hi) hi').sound hs.st.sim h6)
      rw [List.getElem_map] at h7
      exact h7.data_inv)
  refine ⟨updθ θ o (θ o), ⟨⟨hT.1, hs.st.defers, hs.st.size, fun i y u h1 h2 => hT.2.1 y u (hs.st.vals i y u h1 h2)⟩, fun p hp => ?_, hs.base⟩, hT.2.2.evo (by rw [← hb]; exact hs.base)⟩
  rw [Heap.get_set] at hp
  by_cases h : p = o
  · subst h; exact hs.wf p (by rw [hg]; rfl)
  · rw [if_neg h] at hp; exact hs.wf p hp
theorem Weak.arrConv {b o : Nat} {sl : List AV} {H : Heap} {e : TypeId} {sz n : Nat} {cs cs' : List AV} (hg : H.get o = some (.arr e sz n cs)) (hc : ConvL H cs cs') : Weak b sl H sl (H.set o (.arr e sz n cs')) := fun c θ w a hb hs => by
  obtain ⟨hlen, hat⟩ := hc.at
  have hT := hs.st.sim.turn (w' := w) (k := o) (x0 := .arr e sz n cs) (x := .arr e sz n cs') (val := θ o) hg rfl rfl (fun b _ _ => rfl) (Nat.le_refl _) (fun b hb => .inl hb) ⟨rfl, rfl, Nat.le_refl _⟩ (fun _ => rfl)
    (fun hvr => by
      obtain ⟨h1, h2, vs, h3, h4, h5⟩ := hs.st.sim.objs o _ hg
      refine ⟨h1, by omega, vs, h3, h4, fun i hi u hu => ?_⟩
      have hi' : i < cs.length := by omega
      obtain ⟨h6, h7⟩ := h5 i hi' u hu
      exact ⟨hvr _ _ ((hat i hi hi').sound hs.st.sim h6), h7⟩)
  refine ⟨updθ θ o (θ o), ⟨⟨hT.1, hs.st.defers, hs.st.size, fun i y u h1 h2 => hT.2.1 y u (hs.st.vals i y u h1 h2)⟩, fun p hp => ?_, hs.base⟩, hT.2.2.evo (by rw [← hb]; exact hs.base)⟩
  rw [Heap.get_set] at hp
  by_cases h : p = o
  · subst h; exact hs.wf p (by rw [hg]; rfl)
  · rw [if_neg h] at hp; exact hs.wf p hp
theorem Weak.arrnil {b o i : Nat} {sl : List AV} {H : Heap} {e0 : TypeId} {sz0 n0 : Nat} {cs : List AV} (e : TypeId) {sz : Nat} (hsz : 0 < sz) (hg : H.get o = some (.arr e0 sz0 n0 cs)) (hi : cs[i]? = some .nils) :
    Weak b sl H sl ⟨upd (upd H.tab H.next (.row e sz [])) o (.arr e0 sz0 n0 (cs.set i (.row H.next 0))), H.next + 1⟩ := fun c θ w a hb hs => by
  have hk := hs.fresh
  have hne : o ≠ H.next := fun h => hk (.inr (by rw [← h, hg]; rfl))
  have hrow : ownsM w w.heap.size e sz (.slice none 0 0) ([] : List D).length [] := ⟨by simp, .inl ⟨rfl, rfl⟩⟩
  obtain ⟨s1, m1, l1⟩ := hs.st.sim.add (w' := w) (k := H.next) (x := .row e sz []) (val := .slice none 0 0) hk (fun _ _ => rfl) (Nat.le_refl _) (fun b hb => by simp [blk] at hb)
    (fun hvr => ⟨hsz, by simp, by simp [flat], [], ownsRow_base hrow (Nat.zero_le _), fun b hb => by simp [blk] at hb, fun i hi => by simp [flat] at hi⟩)
  have hg1 : (H.set H.next (.row e sz [])).get o = some (.arr e0 sz0 n0 cs) := by rw [Heap.get_set, if_neg hne]; exact hg
  obtain ⟨hlt, hii⟩ := List.getElem?_eq_some_iff.1 hi
  obtain ⟨s2, m2, l2⟩ := s1.turn (w' := w) (k := o) (x0 := .arr e0 sz0 n0 cs) (x := .arr e0 sz0 n0 (cs.set i (.row H.next 0))) (val := updθ θ H.next (.slice none 0 0) o) hg1 rfl rfl (fun b _ _ => rfl) (Nat.le_refl _) (fun b hb => .inl hb) ⟨rfl, rfl, Nat.le_refl _⟩ (fun _ => rfl)
    (fun hvr => by
      obtain ⟨h1, h2, vs, h3, h4, h5⟩ := s1.objs o _ hg1
      refine ⟨h1, by simpa using h2, vs, h3, h4, fun j hj u hu => ?_⟩
      have hj' : j < cs.length := by simpa using hj
      obtain ⟨h6, h7⟩ := h5 j hj' u hu
      by_cases hji : i = j
      · subst hji
        rw [hii] at h6
        cases h6
        rw [List.getElem_set_self]
        refine ⟨.row _ _ _ rfl (.inr ?_) (fun x' m' hx' hm' => ?_), rfl⟩
        · rw [Heap.get_set, if_neg (Ne.symm hne), Heap.get_set, if_pos rfl]; rfl
        · rw [Heap.get_set, if_neg (Ne.symm hne), Heap.get_set, if_pos rfl] at hx'
          cases hx'
          cases hm'
          exact ⟨Nat.le_refl _, fun _ => by simp [updθ, Ne.symm hne]⟩
      · rw [List.getElem_set_ne hji]
        exact ⟨hvr _ _ h6, h7⟩)
  have hbase := hs.base
  have hst : St c ((H.set H.next (.row e sz [])).set o (.arr e0 sz0 n0 (cs.set i (.row H.next 0)))) (updθ (updθ θ H.next (.slice none 0 0)) o (updθ θ H.next (.slice none 0 0) o)) w sl a :=
    ⟨s2, hs.st.defers, hs.st.size, fun j y u h1 h2 => m2 y u (m1 y u (hs.st.vals j y u h1 h2))⟩
  refine ⟨_, ⟨hst.bump (n := H.next + 1) (by simp [Heap.set]), fun p hp => ?_, Nat.le_succ_of_le hbase⟩, ((l1.trans l2).trans (HLe.bump (n := H.next + 1) (by simp [Heap.set]))).evo (by rw [← hb]; exact hbase)⟩
  have hp' : (((H.set H.next (.row e sz [])).set o (.arr e0 sz0 n0 (cs.set i (.row H.next 0)))).get p).isSome := hp
  rw [Heap.get_set] at hp'
  by_cases h : p = o
  · subst h
    exact Nat.lt_succ_of_lt (hs.wf p (by rw [hg]; rfl))
  · rw [if_neg h, Heap.get_set] at hp'
    by_cases h2 : p = H.next
    · subst h2; exact Nat.lt_succ_self _
    · rw [if_neg h2] at hp'
      exact Nat.lt_succ_of_lt (hs.wf p hp')
end Go.Ab
namespace Go.Ab
open Go Go.RowKit Go.Proofs
@[go_sem] theorem ty_size3 : tsize Tryz.prog 3 = (Option.some 1) := by kernel_rfl
@[go_sem] theorem ty_bytes3 : tbytes Tryz.prog 3 = (Option.some 8) := by kernel_rfl
@[go_sem] theorem ty_zero3 : tzero Tryz.prog 3 = (Option.some (Go.Value.int Go.IntKind.i64 0)) := by kernel_rfl
@[go_sem] theorem ty_agg3 : tagg Tryz.prog 3 = (Option.some Bool.false) := by kernel_rfl
@[go_sem] theorem ty_und3 : Program.underlying Tryz.prog 3 = (Option.some (Go.TypeDesc.int Go.IntKind.i64)) := by kernel_rfl
@[go_sem] theorem ty_elem3 : telem Tryz.prog 3 = Option.none := by kernel_rfl
@[go_sem] theorem ty_size4 : tsize Tryz.prog 4 = (Option.some 1) := by kernel_rfl
@[go_sem] theorem ty_bytes4 : tbytes Tryz.prog 4 = (Option.some 1) := by kernel_rfl
@[go_sem] theorem ty_zero4 : tzero Tryz.prog 4 = (Option.some (Go.Value.bool Bool.false)) := by kernel_rfl
@[go_sem] theorem ty_agg4 : tagg Tryz.prog 4 = (Option.some Bool.false) := by kernel_rfl
@[go_sem] theorem ty_und4 : Program.underlying Tryz.prog 4 = (Option.some Go.TypeDesc.bool) := by kernel_rfl
@[go_sem] theorem ty_elem4 : telem Tryz.prog 4 = Option.none := by kernel_rfl
@[go_sem] theorem ty_size5 : tsize Tryz.prog 5 = (Option.some 1) := by kernel_rfl
@[go_sem] theorem ty_bytes5 : tbytes Tryz.prog 5 = (Option.some 1) := by kernel_rfl
@[go_sem] theorem ty_zero5 : tzero Tryz.prog 5 = (Option.some (Go.Value.int Go.IntKind.u8 0)) := by kernel_rfl
@[go_sem] theorem ty_agg5 : tagg Tryz.prog 5 = (Option.some Bool.false) := by kernel_rfl
@[go_sem] theorem ty_und5 : Program.underlying Tryz.prog 5 = (Option.some (Go.TypeDesc.int Go.IntKind.u8)) := by kernel_rfl
@[go_sem] theorem ty_elem5 : telem Tryz.prog 5 = Option.none := by kernel_rfl
@[go_sem] theorem ty_size9 : tsize Tryz.prog 9 = (Option.some 1) := by kernel_rfl
@[go_sem] theorem ty_bytes9 : tbytes Tryz.prog 9 = (Option.some 16) := by kernel_rfl
@[go_sem] theorem ty_zero9 : tzero Tryz.prog 9 = (Option.some (Go.Value.string ⟨#[]⟩)) := by kernel_rfl
@[go_sem] theorem ty_agg9 : tagg Tryz.prog 9 = (Option.some Bool.false) := by kernel_rfl
@[go_sem] theorem ty_und9 : Program.underlying Tryz.prog 9 = (Option.some Go.TypeDesc.string) := by kernel_rfl
@[go_sem] theorem ty_elem9 : telem Tryz.prog 9 = Option.none := by kernel_rfl
@[go_sem] theorem ty_size21 : tsize Tryz.prog 21 = (Option.some 1) := by kernel_rfl
@[go_sem] theorem ty_bytes21 : tbytes Tryz.prog 21 = (Option.some 4) := by kernel_rfl
@[go_sem] theorem ty_zero21 : tzero Tryz.prog 21 = (Option.some (Go.Value.int Go.IntKind.i32 0)) := by kernel_rfl
@[go_sem] theorem ty_agg21 : tagg Tryz.prog 21 = (Option.some Bool.false) := by kernel_rfl
@[go_sem] theorem ty_und21 : Program.underlying Tryz.prog 21 = (Option.some (Go.TypeDesc.int Go.IntKind.i32)) := by kernel_rfl
@[go_sem] theorem ty_elem21 : telem Tryz.prog 21 = Option.none := by kernel_rfl
@[go_sem] theorem ty_size23 : tsize Tryz.prog 23 = (Option.some 1) := by kernel_rfl
@[go_sem] theorem ty_bytes23 : tbytes Tryz.prog 23 = (Option.some 24) := by kernel_rfl
@[go_sem] theorem ty_zero23 : tzero Tryz.prog 23 = (Option.some (Go.Value.slice Option.none 0 0)) := by kernel_rfl
@[go_sem] theorem ty_agg23 : tagg Tryz.prog 23 = (Option.some Bool.false) := by kernel_rfl
@[go_sem] theorem ty_und23 : Program.underlying Tryz.prog 23 = (Option.some (Go.TypeDesc.slice 31)) := by kernel_rfl
@[go_sem] theorem ty_elem23 : telem Tryz.prog 23 = (Option.some 31) := by kernel_rfl
@[go_sem] theorem ty_size24 : tsize Tryz.prog 24 = (Option.some 1) := by kernel_rfl
@[go_sem] theorem ty_bytes24 : tbytes Tryz.prog 24 = (Option.some 8) := by kernel_rfl
@[go_sem] theorem ty_zero24 : tzero Tryz.prog 24 = (Option.some (Go.Value.int Go.IntKind.i64 0)) := by kernel_rfl
@[go_sem] theorem ty_agg24 : tagg Tryz.prog 24 = (Option.some Bool.false) := by kernel_rfl
@[go_sem] theorem ty_und24 : Program.underlying Tryz.prog 24 = (Option.some (Go.TypeDesc.int Go.IntKind.i64)) := by kernel_rfl
@[go_sem] theorem ty_elem24 : telem Tryz.prog 24 = Option.none := by kernel_rfl
@[go_sem] theorem ty_size28 : tsize Tryz.prog 28 = (Option.some 1) := by kernel_rfl
@[go_sem] theorem ty_bytes28 : tbytes Tryz.prog 28 = (Option.some 8) := by kernel_rfl
@[go_sem] theorem ty_zero28 : tzero Tryz.prog 28 = (Option.some Go.Value.nilFunc) := by kernel_rfl
@[go_sem] theorem ty_agg28 : tagg Tryz.prog 28 = (Option.some Bool.false) := by kernel_rfl
@[go_sem] theorem ty_und28 : Program.underlying Tryz.prog 28 = (Option.some (Go.TypeDesc.func #[9] #[4] Bool.false)) := by kernel_rfl
@[go_sem] theorem ty_elem28 : telem Tryz.prog 28 = Option.none := by kernel_rfl
@[go_sem] theorem ty_size29 : tsize Tryz.prog 29 = (Option.some 1) := by kernel_rfl
@[go_sem] theorem ty_bytes29 : tbytes Tryz.prog 29 = (Option.some 24) := by kernel_rfl
@[go_sem] theorem ty_zero29 : tzero Tryz.prog 29 = (Option.some (Go.Value.slice Option.none 0 0)) := by kernel_rfl
@[go_sem] theorem ty_agg29 : tagg Tryz.prog 29 = (Option.some Bool.false) := by kernel_rfl
@[go_sem] theorem ty_und29 : Program.underlying Tryz.prog 29 = (Option.some (Go.TypeDesc.slice 9)) := by kernel_rfl
@[go_sem] theorem ty_elem29 : telem Tryz.prog 29 = (Option.some 9) := by kernel_rfl
@[go_sem] theorem ty_size30 : tsize Tryz.prog 30 = (Option.some 6) := by kernel_rfl
@[go_sem] theorem ty_bytes30 : tbytes Tryz.prog 30 = (Option.some 104) := by kernel_rfl
@[go_sem] theorem ty_zero30 : tzero Tryz.prog 30 = (Option.some (Go.Value.agg #[(Go.Value.int Go.IntKind.i64 0), (Go.Value.int Go.IntKind.i64 0), (Go.Value.slice Option.none 0 0), (Go.Value.slice Option.none 0 0), (Go.Value.slice Option.none 0 0), (Go.Value.string ⟨#[]⟩)])) := by kernel_rfl
@[go_sem] theorem ty_agg30 : tagg Tryz.prog 30 = (Option.some Bool.true) := by kernel_rfl
@[go_sem] theorem ty_field30_0 : tfield Tryz.prog 30 0 = (Option.some ⟨"Line", 3, 0, Bool.false, "", "", 0⟩) := by kernel_rfl
@[go_sem] theorem ty_field30_1 : tfield Tryz.prog 30 1 = (Option.some ⟨"Kind", 3, 1, Bool.false, "", "", 8⟩) := by kernel_rfl
@[go_sem] theorem ty_field30_2 : tfield Tryz.prog 30 2 = (Option.some ⟨"In", 29, 2, Bool.false, "", "", 16⟩) := by kernel_rfl
@[go_sem] theorem ty_field30_3 : tfield Tryz.prog 30 3 = (Option.some ⟨"Using", 29, 3, Bool.false, "", "", 40⟩) := by kernel_rfl
@[go_sem] theorem ty_field30_4 : tfield Tryz.prog 30 4 = (Option.some ⟨"Words", 29, 4, Bool.false, "", "", 64⟩) := by kernel_rfl
@[go_sem] theorem ty_field30_5 : tfield Tryz.prog 30 5 = (Option.some ⟨"Out", 9, 5, Bool.false, "", "", 88⟩) := by kernel_rfl
@[go_sem] theorem ty_build30 (parts : List (Nat × AV)) : abuild Tryz.prog 30 parts = (setCells [(Go.Ab.AV.data (Go.Ab.D.int Go.IntKind.i64 0)), (Go.Ab.AV.data (Go.Ab.D.int Go.IntKind.i64 0)), Go.Ab.AV.nils, Go.Ab.AV.nils, Go.Ab.AV.nils, (Go.Ab.AV.data (Go.Ab.D.str []))] ([(0, 1), (1, 1), (2, 1), (3, 1), (4, 1), (5, 1)][·]?) parts).map mkAgg := abuild_of (z := (Go.Value.agg #[(Go.Value.int Go.IntKind.i64 0), (Go.Value.int Go.IntKind.i64 0), (Go.Value.slice Option.none 0 0), (Go.Value.slice Option.none 0 0), (Go.Value.slice Option.none 0 0), (Go.Value.string ⟨#[]⟩)])) (by kernel_rfl) (by kernel_rfl) (by kernel_rfl)
@[go_sem] theorem ty_size31 : tsize Tryz.prog 31 = (Option.some 6) := by kernel_rfl
@[go_sem] theorem ty_bytes31 : tbytes Tryz.prog 31 = (Option.some 104) := by kernel_rfl
@[go_sem] theorem ty_zero31 : tzero Tryz.prog 31 = (Option.some (Go.Value.agg #[(Go.Value.int Go.IntKind.i64 0), (Go.Value.int Go.IntKind.i64 0), (Go.Value.slice Option.none 0 0), (Go.Value.slice Option.none 0 0), (Go.Value.slice Option.none 0 0), (Go.Value.string ⟨#[]⟩)])) := by kernel_rfl
@[go_sem] theorem ty_agg31 : tagg Tryz.prog 31 = (Option.some Bool.true) := by kernel_rfl
@[go_sem] theorem ty_field31_0 : tfield Tryz.prog 31 0 = (Option.some ⟨"Line", 3, 0, Bool.false, "", "", 0⟩) := by kernel_rfl
@[go_sem] theorem ty_field31_1 : tfield Tryz.prog 31 1 = (Option.some ⟨"Kind", 3, 1, Bool.false, "", "", 8⟩) := by kernel_rfl
@[go_sem] theorem ty_field31_2 : tfield Tryz.prog 31 2 = (Option.some ⟨"In", 29, 2, Bool.false, "", "", 16⟩) := by kernel_rfl
@[go_sem] theorem ty_field31_3 : tfield Tryz.prog 31 3 = (Option.some ⟨"Using", 29, 3, Bool.false, "", "", 40⟩) := by kernel_rfl
@[go_sem] theorem ty_field31_4 : tfield Tryz.prog 31 4 = (Option.some ⟨"Words", 29, 4, Bool.false, "", "", 64⟩) := by kernel_rfl
@[go_sem] theorem ty_field31_5 : tfield Tryz.prog 31 5 = (Option.some ⟨"Out", 9, 5, Bool.false, "", "", 88⟩) := by kernel_rfl
@[go_sem] theorem ty_build31 (parts : List (Nat × AV)) : abuild Tryz.prog 31 parts = (setCells [(Go.Ab.AV.data (Go.Ab.D.int Go.IntKind.i64 0)), (Go.Ab.AV.data (Go.Ab.D.int Go.IntKind.i64 0)), Go.Ab.AV.nils, Go.Ab.AV.nils, Go.Ab.AV.nils, (Go.Ab.AV.data (Go.Ab.D.str []))] ([(0, 1), (1, 1), (2, 1), (3, 1), (4, 1), (5, 1)][·]?) parts).map mkAgg := abuild_of (z := (Go.Value.agg #[(Go.Value.int Go.IntKind.i64 0), (Go.Value.int Go.IntKind.i64 0), (Go.Value.slice Option.none 0 0), (Go.Value.slice Option.none 0 0), (Go.Value.slice Option.none 0 0), (Go.Value.string ⟨#[]⟩)])) (by kernel_rfl) (by kernel_rfl) (by kernel_rfl)
@[go_sem] theorem ty_size59 : tsize Tryz.prog 59 = (Option.some 1) := by kernel_rfl
@[go_sem] theorem ty_bytes59 : tbytes Tryz.prog 59 = (Option.some 24) := by kernel_rfl
@[go_sem] theorem ty_zero59 : tzero Tryz.prog 59 = (Option.some (Go.Value.slice Option.none 0 0)) := by kernel_rfl
@[go_sem] theorem ty_agg59 : tagg Tryz.prog 59 = (Option.some Bool.false) := by kernel_rfl
@[go_sem] theorem ty_und59 : Program.underlying Tryz.prog 59 = (Option.some (Go.TypeDesc.slice 29)) := by kernel_rfl
@[go_sem] theorem ty_elem59 : telem Tryz.prog 59 = (Option.some 29) := by kernel_rfl
@[go_sem] theorem ty_size63 : tsize Tryz.prog 63 = (Option.some 1) := by kernel_rfl
@[go_sem] theorem ty_bytes63 : tbytes Tryz.prog 63 = (Option.some 8) := by kernel_rfl
@[go_sem] theorem ty_zero63 : tzero Tryz.prog 63 = (Option.some (Go.Value.int Go.IntKind.u64 0)) := by kernel_rfl
@[go_sem] theorem ty_agg63 : tagg Tryz.prog 63 = (Option.some Bool.false) := by kernel_rfl
@[go_sem] theorem ty_und63 : Program.underlying Tryz.prog 63 = (Option.some (Go.TypeDesc.int Go.IntKind.u64)) := by kernel_rfl
@[go_sem] theorem ty_elem63 : telem Tryz.prog 63 = Option.none := by kernel_rfl
@[go_sem] theorem ty_size64 : tsize Tryz.prog 64 = (Option.some 1) := by kernel_rfl
@[go_sem] theorem ty_bytes64 : tbytes Tryz.prog 64 = (Option.some 24) := by kernel_rfl
@[go_sem] theorem ty_zero64 : tzero Tryz.prog 64 = (Option.some (Go.Value.slice Option.none 0 0)) := by kernel_rfl
@[go_sem] theorem ty_agg64 : tagg Tryz.prog 64 = (Option.some Bool.false) := by kernel_rfl
@[go_sem] theorem ty_und64 : Program.underlying Tryz.prog 64 = (Option.some (Go.TypeDesc.slice 70)) := by kernel_rfl
@[go_sem] theorem ty_elem64 : telem Tryz.prog 64 = (Option.some 70) := by kernel_rfl
@[go_sem] theorem ty_size67 : tsize Tryz.prog 67 = (Option.some 1) := by kernel_rfl
@[go_sem] theorem ty_bytes67 : tbytes Tryz.prog 67 = (Option.some 24) := by kernel_rfl
@[go_sem] theorem ty_zero67 : tzero Tryz.prog 67 = (Option.some (Go.Value.slice Option.none 0 0)) := by kernel_rfl
@[go_sem] theorem ty_agg67 : tagg Tryz.prog 67 = (Option.some Bool.false) := by kernel_rfl
@[go_sem] theorem ty_und67 : Program.underlying Tryz.prog 67 = (Option.some (Go.TypeDesc.slice 75)) := by kernel_rfl
@[go_sem] theorem ty_elem67 : telem Tryz.prog 67 = (Option.some 75) := by kernel_rfl
@[go_sem] theorem ty_size70 : tsize Tryz.prog 70 = (Option.some 1) := by kernel_rfl
@[go_sem] theorem ty_bytes70 : tbytes Tryz.prog 70 = (Option.some 24) := by kernel_rfl
@[go_sem] theorem ty_zero70 : tzero Tryz.prog 70 = (Option.some (Go.Value.slice Option.none 0 0)) := by kernel_rfl
@[go_sem] theorem ty_agg70 : tagg Tryz.prog 70 = (Option.some Bool.false) := by kernel_rfl
@[go_sem] theorem ty_und70 : Program.underlying Tryz.prog 70 = (Option.some (Go.TypeDesc.slice 106)) := by kernel_rfl
@[go_sem] theorem ty_elem70 : telem Tryz.prog 70 = (Option.some 106) := by kernel_rfl
@[go_sem] theorem ty_size72 : tsize Tryz.prog 72 = (Option.some 1) := by kernel_rfl
@[go_sem] theorem ty_bytes72 : tbytes Tryz.prog 72 = (Option.some 8) := by kernel_rfl
@[go_sem] theorem ty_zero72 : tzero Tryz.prog 72 = (Option.some Go.Value.nilFunc) := by kernel_rfl
@[go_sem] theorem ty_agg72 : tagg Tryz.prog 72 = (Option.some Bool.false) := by kernel_rfl
@[go_sem] theorem ty_und72 : Program.underlying Tryz.prog 72 = (Option.some (Go.TypeDesc.func #[70] #[4] Bool.false)) := by kernel_rfl
@[go_sem] theorem ty_elem72 : telem Tryz.prog 72 = Option.none := by kernel_rfl
@[go_sem] theorem ty_size74 : tsize Tryz.prog 74 = (Option.some 2) := by kernel_rfl
@[go_sem] theorem ty_bytes74 : tbytes Tryz.prog 74 = (Option.some 40) := by kernel_rfl
@[go_sem] theorem ty_zero74 : tzero Tryz.prog 74 = (Option.some (Go.Value.agg #[(Go.Value.string ⟨#[]⟩), (Go.Value.slice Option.none 0 0)])) := by kernel_rfl
@[go_sem] theorem ty_agg74 : tagg Tryz.prog 74 = (Option.some Bool.true) := by kernel_rfl
@[go_sem] theorem ty_field74_0 : tfield Tryz.prog 74 0 = (Option.some ⟨"separator", 9, 0, Bool.false, "", "licit/recipe", 0⟩) := by kernel_rfl
@[go_sem] theorem ty_field74_1 : tfield Tryz.prog 74 1 = (Option.some ⟨"words", 29, 1, Bool.false, "", "licit/recipe", 16⟩) := by kernel_rfl
@[go_sem] theorem ty_build74 (parts : List (Nat × AV)) : abuild Tryz.prog 74 parts = (setCells [(Go.Ab.AV.data (Go.Ab.D.str [])), Go.Ab.AV.nils] ([(0, 1), (1, 1)][·]?) parts).map mkAgg := abuild_of (z := (Go.Value.agg #[(Go.Value.string ⟨#[]⟩), (Go.Value.slice Option.none 0 0)])) (by kernel_rfl) (by kernel_rfl) (by kernel_rfl)
@[go_sem] theorem ty_size75 : tsize Tryz.prog 75 = (Option.some 2) := by kernel_rfl
@[go_sem] theorem ty_bytes75 : tbytes Tryz.prog 75 = (Option.some 40) := by kernel_rfl
@[go_sem] theorem ty_zero75 : tzero Tryz.prog 75 = (Option.some (Go.Value.agg #[(Go.Value.string ⟨#[]⟩), (Go.Value.slice Option.none 0 0)])) := by kernel_rfl
@[go_sem] theorem ty_agg75 : tagg Tryz.prog 75 = (Option.some Bool.true) := by kernel_rfl
@[go_sem] theorem ty_field75_0 : tfield Tryz.prog 75 0 = (Option.some ⟨"separator", 9, 0, Bool.false, "", "licit/recipe", 0⟩) := by kernel_rfl
@[go_sem] theorem ty_field75_1 : tfield Tryz.prog 75 1 = (Option.some ⟨"words", 29, 1, Bool.false, "", "licit/recipe", 16⟩) := by kernel_rfl
@[go_sem] theorem ty_build75 (parts : List (Nat × AV)) : abuild Tryz.prog 75 parts = (setCells [(Go.Ab.AV.data (Go.Ab.D.str [])), Go.Ab.AV.nils] ([(0, 1), (1, 1)][·]?) parts).map mkAgg := abuild_of (z := (Go.Value.agg #[(Go.Value.string ⟨#[]⟩), (Go.Value.slice Option.none 0 0)])) (by kernel_rfl) (by kernel_rfl) (by kernel_rfl)
@[go_sem] theorem ty_size77 : tsize Tryz.prog 77 = (Option.some 1) := by kernel_rfl
@[go_sem] theorem ty_bytes77 : tbytes Tryz.prog 77 = (Option.some 8) := by kernel_rfl
@[go_sem] theorem ty_zero77 : tzero Tryz.prog 77 = (Option.some Go.Value.nilFunc) := by kernel_rfl
@[go_sem] theorem ty_agg77 : tagg Tryz.prog 77 = (Option.some Bool.false) := by kernel_rfl
@[go_sem] theorem ty_und77 : Program.underlying Tryz.prog 77 = (Option.some (Go.TypeDesc.func #[75] #[4] Bool.false)) := by kernel_rfl
@[go_sem] theorem ty_elem77 : telem Tryz.prog 77 = Option.none := by kernel_rfl
@[go_sem] theorem ty_size81 : tsize Tryz.prog 81 = (Option.some 1) := by kernel_rfl
@[go_sem] theorem ty_bytes81 : tbytes Tryz.prog 81 = (Option.some 24) := by kernel_rfl
@[go_sem] theorem ty_zero81 : tzero Tryz.prog 81 = (Option.some (Go.Value.slice Option.none 0 0)) := by kernel_rfl
@[go_sem] theorem ty_agg81 : tagg Tryz.prog 81 = (Option.some Bool.false) := by kernel_rfl
@[go_sem] theorem ty_und81 : Program.underlying Tryz.prog 81 = (Option.some (Go.TypeDesc.slice 116)) := by kernel_rfl
@[go_sem] theorem ty_elem81 : telem Tryz.prog 81 = (Option.some 116) := by kernel_rfl
@[go_sem] theorem ty_size85 : tsize Tryz.prog 85 = (Option.some 1) := by kernel_rfl
@[go_sem] theorem ty_bytes85 : tbytes Tryz.prog 85 = (Option.some 8) := by kernel_rfl
@[go_sem] theorem ty_zero85 : tzero Tryz.prog 85 = (Option.some Go.Value.nilFunc) := by kernel_rfl
@[go_sem] theorem ty_agg85 : tagg Tryz.prog 85 = (Option.some Bool.false) := by kernel_rfl
@[go_sem] theorem ty_und85 : Program.underlying Tryz.prog 85 = (Option.some (Go.TypeDesc.func #[29] #[29] Bool.true)) := by kernel_rfl
@[go_sem] theorem ty_elem85 : telem Tryz.prog 85 = Option.none := by kernel_rfl
@[go_sem] theorem ty_size91 : tsize Tryz.prog 91 = (Option.some 1) := by kernel_rfl
@[go_sem] theorem ty_bytes91 : tbytes Tryz.prog 91 = (Option.some 8) := by kernel_rfl
@[go_sem] theorem ty_zero91 : tzero Tryz.prog 91 = (Option.some (Go.Value.int Go.IntKind.i64 0)) := by kernel_rfl
@[go_sem] theorem ty_agg91 : tagg Tryz.prog 91 = (Option.some Bool.false) := by kernel_rfl
@[go_sem] theorem ty_und91 : Program.underlying Tryz.prog 91 = (Option.some (Go.TypeDesc.int Go.IntKind.i64)) := by kernel_rfl
@[go_sem] theorem ty_elem91 : telem Tryz.prog 91 = Option.none := by kernel_rfl
@[go_sem] theorem ty_size99 : tsize Tryz.prog 99 = (Option.some 1) := by kernel_rfl
@[go_sem] theorem ty_bytes99 : tbytes Tryz.prog 99 = (Option.some 4) := by kernel_rfl
@[go_sem] theorem ty_zero99 : tzero Tryz.prog 99 = (Option.some (Go.Value.int Go.IntKind.u32 0)) := by kernel_rfl
@[go_sem] theorem ty_agg99 : tagg Tryz.prog 99 = (Option.some Bool.false) := by kernel_rfl
@[go_sem] theorem ty_und99 : Program.underlying Tryz.prog 99 = (Option.some (Go.TypeDesc.int Go.IntKind.u32)) := by kernel_rfl
@[go_sem] theorem ty_elem99 : telem Tryz.prog 99 = Option.none := by kernel_rfl
@[go_sem] theorem ty_size101 : tsize Tryz.prog 101 = (Option.some 1) := by kernel_rfl
@[go_sem] theorem ty_bytes101 : tbytes Tryz.prog 101 = (Option.some 8) := by kernel_rfl
@[go_sem] theorem ty_zero101 : tzero Tryz.prog 101 = (Option.some (Go.Value.int Go.IntKind.u64 0)) := by kernel_rfl
@[go_sem] theorem ty_agg101 : tagg Tryz.prog 101 = (Option.some Bool.false) := by kernel_rfl
@[go_sem] theorem ty_und101 : Program.underlying Tryz.prog 101 = (Option.some (Go.TypeDesc.int Go.IntKind.u64)) := by kernel_rfl
@[go_sem] theorem ty_elem101 : telem Tryz.prog 101 = Option.none := by kernel_rfl
@[go_sem] theorem ty_size105 : tsize Tryz.prog 105 = (Option.some 3) := by kernel_rfl
@[go_sem] theorem ty_bytes105 : tbytes Tryz.prog 105 = (Option.some 32) := by kernel_rfl
@[go_sem] theorem ty_zero105 : tzero Tryz.prog 105 = (Option.some (Go.Value.agg #[(Go.Value.string ⟨#[]⟩), (Go.Value.int Go.IntKind.i64 0), (Go.Value.bool Bool.false)])) := by kernel_rfl
@[go_sem] theorem ty_agg105 : tagg Tryz.prog 105 = (Option.some Bool.true) := by kernel_rfl
@[go_sem] theorem ty_field105_0 : tfield Tryz.prog 105 0 = (Option.some ⟨"separator", 9, 0, Bool.false, "", "licit/recipe", 0⟩) := by kernel_rfl
@[go_sem] theorem ty_field105_1 : tfield Tryz.prog 105 1 = (Option.some ⟨"least", 3, 1, Bool.false, "", "licit/recipe", 16⟩) := by kernel_rfl
@[go_sem] theorem ty_field105_2 : tfield Tryz.prog 105 2 = (Option.some ⟨"many", 4, 2, Bool.false, "", "licit/recipe", 24⟩) := by kernel_rfl
@[go_sem] theorem ty_build105 (parts : List (Nat × AV)) : abuild Tryz.prog 105 parts = (setCells [(Go.Ab.AV.data (Go.Ab.D.str [])), (Go.Ab.AV.data (Go.Ab.D.int Go.IntKind.i64 0)), (Go.Ab.AV.data (Go.Ab.D.bool Bool.false))] ([(0, 1), (1, 1), (2, 1)][·]?) parts).map mkAgg := abuild_of (z := (Go.Value.agg #[(Go.Value.string ⟨#[]⟩), (Go.Value.int Go.IntKind.i64 0), (Go.Value.bool Bool.false)])) (by kernel_rfl) (by kernel_rfl) (by kernel_rfl)
@[go_sem] theorem ty_size106 : tsize Tryz.prog 106 = (Option.some 3) := by kernel_rfl
@[go_sem] theorem ty_bytes106 : tbytes Tryz.prog 106 = (Option.some 32) := by kernel_rfl
@[go_sem] theorem ty_zero106 : tzero Tryz.prog 106 = (Option.some (Go.Value.agg #[(Go.Value.string ⟨#[]⟩), (Go.Value.int Go.IntKind.i64 0), (Go.Value.bool Bool.false)])) := by kernel_rfl
@[go_sem] theorem ty_agg106 : tagg Tryz.prog 106 = (Option.some Bool.true) := by kernel_rfl
@[go_sem] theorem ty_field106_0 : tfield Tryz.prog 106 0 = (Option.some ⟨"separator", 9, 0, Bool.false, "", "licit/recipe", 0⟩) := by kernel_rfl
@[go_sem] theorem ty_field106_1 : tfield Tryz.prog 106 1 = (Option.some ⟨"least", 3, 1, Bool.false, "", "licit/recipe", 16⟩) := by kernel_rfl
@[go_sem] theorem ty_field106_2 : tfield Tryz.prog 106 2 = (Option.some ⟨"many", 4, 2, Bool.false, "", "licit/recipe", 24⟩) := by kernel_rfl
@[go_sem] theorem ty_build106 (parts : List (Nat × AV)) : abuild Tryz.prog 106 parts = (setCells [(Go.Ab.AV.data (Go.Ab.D.str [])), (Go.Ab.AV.data (Go.Ab.D.int Go.IntKind.i64 0)), (Go.Ab.AV.data (Go.Ab.D.bool Bool.false))] ([(0, 1), (1, 1), (2, 1)][·]?) parts).map mkAgg := abuild_of (z := (Go.Value.agg #[(Go.Value.string ⟨#[]⟩), (Go.Value.int Go.IntKind.i64 0), (Go.Value.bool Bool.false)])) (by kernel_rfl) (by kernel_rfl) (by kernel_rfl)
@[go_sem] theorem ty_size111 : tsize Tryz.prog 111 = (Option.some 1) := by kernel_rfl
@[go_sem] theorem ty_bytes111 : tbytes Tryz.prog 111 = (Option.some 8) := by kernel_rfl
@[go_sem] theorem ty_zero111 : tzero Tryz.prog 111 = (Option.some Go.Value.nilFunc) := by kernel_rfl
@[go_sem] theorem ty_agg111 : tagg Tryz.prog 111 = (Option.some Bool.false) := by kernel_rfl
@[go_sem] theorem ty_und111 : Program.underlying Tryz.prog 111 = (Option.some (Go.TypeDesc.func #[75, 106] #[4] Bool.false)) := by kernel_rfl
@[go_sem] theorem ty_elem111 : telem Tryz.prog 111 = Option.none := by kernel_rfl
@[go_sem] theorem ty_size115 : tsize Tryz.prog 115 = (Option.some 2) := by kernel_rfl
@[go_sem] theorem ty_bytes115 : tbytes Tryz.prog 115 = (Option.some 40) := by kernel_rfl
@[go_sem] theorem ty_zero115 : tzero Tryz.prog 115 = (Option.some (Go.Value.agg #[(Go.Value.string ⟨#[]⟩), (Go.Value.slice Option.none 0 0)])) := by kernel_rfl
@[go_sem] theorem ty_agg115 : tagg Tryz.prog 115 = (Option.some Bool.true) := by kernel_rfl
@[go_sem] theorem ty_field115_0 : tfield Tryz.prog 115 0 = (Option.some ⟨"name", 9, 0, Bool.false, "", "licit/licitref14", 0⟩) := by kernel_rfl
@[go_sem] theorem ty_field115_1 : tfield Tryz.prog 115 1 = (Option.some ⟨"words", 29, 1, Bool.false, "", "licit/licitref14", 16⟩) := by kernel_rfl
@[go_sem] theorem ty_build115 (parts : List (Nat × AV)) : abuild Tryz.prog 115 parts = (setCells [(Go.Ab.AV.data (Go.Ab.D.str [])), Go.Ab.AV.nils] ([(0, 1), (1, 1)][·]?) parts).map mkAgg := abuild_of (z := (Go.Value.agg #[(Go.Value.string ⟨#[]⟩), (Go.Value.slice Option.none 0 0)])) (by kernel_rfl) (by kernel_rfl) (by kernel_rfl)
@[go_sem] theorem ty_size116 : tsize Tryz.prog 116 = (Option.some 2) := by kernel_rfl
@[go_sem] theorem ty_bytes116 : tbytes Tryz.prog 116 = (Option.some 40) := by kernel_rfl
@[go_sem] theorem ty_zero116 : tzero Tryz.prog 116 = (Option.some (Go.Value.agg #[(Go.Value.string ⟨#[]⟩), (Go.Value.slice Option.none 0 0)])) := by kernel_rfl
@[go_sem] theorem ty_agg116 : tagg Tryz.prog 116 = (Option.some Bool.true) := by kernel_rfl
@[go_sem] theorem ty_field116_0 : tfield Tryz.prog 116 0 = (Option.some ⟨"name", 9, 0, Bool.false, "", "licit/licitref14", 0⟩) := by kernel_rfl
@[go_sem] theorem ty_field116_1 : tfield Tryz.prog 116 1 = (Option.some ⟨"words", 29, 1, Bool.false, "", "licit/licitref14", 16⟩) := by kernel_rfl
@[go_sem] theorem ty_build116 (parts : List (Nat × AV)) : abuild Tryz.prog 116 parts = (setCells [(Go.Ab.AV.data (Go.Ab.D.str [])), Go.Ab.AV.nils] ([(0, 1), (1, 1)][·]?) parts).map mkAgg := abuild_of (z := (Go.Value.agg #[(Go.Value.string ⟨#[]⟩), (Go.Value.slice Option.none 0 0)])) (by kernel_rfl) (by kernel_rfl) (by kernel_rfl)
@[go_sem] theorem ty_size118 : tsize Tryz.prog 118 = (Option.some 1) := by kernel_rfl
@[go_sem] theorem ty_bytes118 : tbytes Tryz.prog 118 = (Option.some 8) := by kernel_rfl
@[go_sem] theorem ty_zero118 : tzero Tryz.prog 118 = (Option.some (Go.Value.pointer Option.none)) := by kernel_rfl
@[go_sem] theorem ty_agg118 : tagg Tryz.prog 118 = (Option.some Bool.false) := by kernel_rfl
@[go_sem] theorem ty_und118 : Program.underlying Tryz.prog 118 = (Option.some (Go.TypeDesc.pointer 121)) := by kernel_rfl
@[go_sem] theorem ty_elem118 : telem Tryz.prog 118 = Option.none := by kernel_rfl
@[go_sem] theorem ty_size119 : tsize Tryz.prog 119 = (Option.some 1) := by kernel_rfl
@[go_sem] theorem ty_bytes119 : tbytes Tryz.prog 119 = (Option.some 24) := by kernel_rfl
@[go_sem] theorem ty_zero119 : tzero Tryz.prog 119 = (Option.some (Go.Value.slice Option.none 0 0)) := by kernel_rfl
@[go_sem] theorem ty_agg119 : tagg Tryz.prog 119 = (Option.some Bool.false) := by kernel_rfl
@[go_sem] theorem ty_und119 : Program.underlying Tryz.prog 119 = (Option.some (Go.TypeDesc.slice 5)) := by kernel_rfl
@[go_sem] theorem ty_elem119 : telem Tryz.prog 119 = (Option.some 5) := by kernel_rfl
@[go_sem] theorem ty_size120 : tsize Tryz.prog 120 = (Option.some 2) := by kernel_rfl
@[go_sem] theorem ty_bytes120 : tbytes Tryz.prog 120 = (Option.some 32) := by kernel_rfl
@[go_sem] theorem ty_zero120 : tzero Tryz.prog 120 = (Option.some (Go.Value.agg #[(Go.Value.pointer Option.none), (Go.Value.slice Option.none 0 0)])) := by kernel_rfl
@[go_sem] theorem ty_agg120 : tagg Tryz.prog 120 = (Option.some Bool.true) := by kernel_rfl
@[go_sem] theorem ty_field120_0 : tfield Tryz.prog 120 0 = (Option.some ⟨"addr", 118, 0, Bool.false, "", "strings", 0⟩) := by kernel_rfl
@[go_sem] theorem ty_field120_1 : tfield Tryz.prog 120 1 = (Option.some ⟨"buf", 119, 1, Bool.false, "", "strings", 8⟩) := by kernel_rfl
@[go_sem] theorem ty_build120 (parts : List (Nat × AV)) : abuild Tryz.prog 120 parts = (setCells [(Go.Ab.AV.data Go.Ab.D.nilp), Go.Ab.AV.nils] ([(0, 1), (1, 1)][·]?) parts).map mkAgg := abuild_of (z := (Go.Value.agg #[(Go.Value.pointer Option.none), (Go.Value.slice Option.none 0 0)])) (by kernel_rfl) (by kernel_rfl) (by kernel_rfl)
@[go_sem] theorem ty_size121 : tsize Tryz.prog 121 = (Option.some 2) := by kernel_rfl
@[go_sem] theorem ty_bytes121 : tbytes Tryz.prog 121 = (Option.some 32) := by kernel_rfl
@[go_sem] theorem ty_zero121 : tzero Tryz.prog 121 = (Option.some (Go.Value.agg #[(Go.Value.pointer Option.none), (Go.Value.slice Option.none 0 0)])) := by kernel_rfl
@[go_sem] theorem ty_agg121 : tagg Tryz.prog 121 = (Option.some Bool.true) := by kernel_rfl
@[go_sem] theorem ty_field121_0 : tfield Tryz.prog 121 0 = (Option.some ⟨"addr", 118, 0, Bool.false, "", "strings", 0⟩) := by kernel_rfl
@[go_sem] theorem ty_field121_1 : tfield Tryz.prog 121 1 = (Option.some ⟨"buf", 119, 1, Bool.false, "", "strings", 8⟩) := by kernel_rfl
@[go_sem] theorem ty_build121 (parts : List (Nat × AV)) : abuild Tryz.prog 121 parts = (setCells [(Go.Ab.AV.data Go.Ab.D.nilp), Go.Ab.AV.nils] ([(0, 1), (1, 1)][·]?) parts).map mkAgg := abuild_of (z := (Go.Value.agg #[(Go.Value.pointer Option.none), (Go.Value.slice Option.none 0 0)])) (by kernel_rfl) (by kernel_rfl) (by kernel_rfl)
@[go_sem] theorem ty_size131 : tsize Tryz.prog 131 = (Option.some 1) := by kernel_rfl
@[go_sem] theorem ty_bytes131 : tbytes Tryz.prog 131 = (Option.some 8) := by kernel_rfl
@[go_sem] theorem ty_zero131 : tzero Tryz.prog 131 = (Option.some (Go.Value.int Go.IntKind.u64 0)) := by kernel_rfl
@[go_sem] theorem ty_agg131 : tagg Tryz.prog 131 = (Option.some Bool.false) := by kernel_rfl
@[go_sem] theorem ty_und131 : Program.underlying Tryz.prog 131 = (Option.some (Go.TypeDesc.int Go.IntKind.u64)) := by kernel_rfl
@[go_sem] theorem ty_elem131 : telem Tryz.prog 131 = Option.none := by kernel_rfl
@[go_sem] theorem ty_size135 : tsize Tryz.prog 135 = (Option.some 1) := by kernel_rfl
@[go_sem] theorem ty_bytes135 : tbytes Tryz.prog 135 = (Option.some 8) := by kernel_rfl
@[go_sem] theorem ty_zero135 : tzero Tryz.prog 135 = (Option.some (Go.Value.pointer Option.none)) := by kernel_rfl
@[go_sem] theorem ty_agg135 : tagg Tryz.prog 135 = (Option.some Bool.false) := by kernel_rfl
@[go_sem] theorem ty_und135 : Program.underlying Tryz.prog 135 = (Option.some (Go.TypeDesc.pointer 3)) := by kernel_rfl
@[go_sem] theorem ty_elem135 : telem Tryz.prog 135 = Option.none := by kernel_rfl
@[go_sem] theorem ty_size138 : tsize Tryz.prog 138 = (Option.some 2) := by kernel_rfl
@[go_sem] theorem ty_bytes138 : tbytes Tryz.prog 138 = (Option.some 24) := by kernel_rfl
@[go_sem] theorem ty_zero138 : tzero Tryz.prog 138 = (Option.some (Go.Value.agg #[(Go.Value.int Go.IntKind.i64 0), (Go.Value.string ⟨#[]⟩)])) := by kernel_rfl
@[go_sem] theorem ty_agg138 : tagg Tryz.prog 138 = (Option.some Bool.true) := by kernel_rfl
@[go_sem] theorem ty_field138_0 : tfield Tryz.prog 138 0 = (Option.some ⟨"Kind", 3, 0, Bool.false, "", "", 0⟩) := by kernel_rfl
@[go_sem] theorem ty_field138_1 : tfield Tryz.prog 138 1 = (Option.some ⟨"Text", 9, 1, Bool.false, "", "", 8⟩) := by kernel_rfl
@[go_sem] theorem ty_build138 (parts : List (Nat × AV)) : abuild Tryz.prog 138 parts = (setCells [(Go.Ab.AV.data (Go.Ab.D.int Go.IntKind.i64 0)), (Go.Ab.AV.data (Go.Ab.D.str []))] ([(0, 1), (1, 1)][·]?) parts).map mkAgg := abuild_of (z := (Go.Value.agg #[(Go.Value.int Go.IntKind.i64 0), (Go.Value.string ⟨#[]⟩)])) (by kernel_rfl) (by kernel_rfl) (by kernel_rfl)
@[go_sem] theorem ty_size139 : tsize Tryz.prog 139 = (Option.some 2) := by kernel_rfl
@[go_sem] theorem ty_bytes139 : tbytes Tryz.prog 139 = (Option.some 24) := by kernel_rfl
@[go_sem] theorem ty_zero139 : tzero Tryz.prog 139 = (Option.some (Go.Value.agg #[(Go.Value.int Go.IntKind.i64 0), (Go.Value.string ⟨#[]⟩)])) := by kernel_rfl
@[go_sem] theorem ty_agg139 : tagg Tryz.prog 139 = (Option.some Bool.true) := by kernel_rfl
@[go_sem] theorem ty_field139_0 : tfield Tryz.prog 139 0 = (Option.some ⟨"Kind", 3, 0, Bool.false, "", "", 0⟩) := by kernel_rfl
@[go_sem] theorem ty_field139_1 : tfield Tryz.prog 139 1 = (Option.some ⟨"Text", 9, 1, Bool.false, "", "", 8⟩) := by kernel_rfl
@[go_sem] theorem ty_build139 (parts : List (Nat × AV)) : abuild Tryz.prog 139 parts = (setCells [(Go.Ab.AV.data (Go.Ab.D.int Go.IntKind.i64 0)), (Go.Ab.AV.data (Go.Ab.D.str []))] ([(0, 1), (1, 1)][·]?) parts).map mkAgg := abuild_of (z := (Go.Value.agg #[(Go.Value.int Go.IntKind.i64 0), (Go.Value.string ⟨#[]⟩)])) (by kernel_rfl) (by kernel_rfl) (by kernel_rfl)
@[go_sem] theorem ty_size151 : tsize Tryz.prog 151 = (Option.some 1) := by kernel_rfl
@[go_sem] theorem ty_bytes151 : tbytes Tryz.prog 151 = (Option.some 8) := by kernel_rfl
@[go_sem] theorem ty_zero151 : tzero Tryz.prog 151 = (Option.some Go.Value.nilFunc) := by kernel_rfl
@[go_sem] theorem ty_agg151 : tagg Tryz.prog 151 = (Option.some Bool.false) := by kernel_rfl
@[go_sem] theorem ty_und151 : Program.underlying Tryz.prog 151 = (Option.some (Go.TypeDesc.func #[21] #[4] Bool.false)) := by kernel_rfl
@[go_sem] theorem ty_elem151 : telem Tryz.prog 151 = Option.none := by kernel_rfl
end Go.Ab
