/-
  One text of the proof (own work): contracts of functions of the program, by the abstract machine.
-/
import Derived.Test.YtdodjhiofpiaaaaDoorX17
import Derived.Test.YtdodjhiofpiaaaaDoorX20
import Derived.Test.YtdodjhiofpiaaaaDoorX19
set_option linter.unusedVariables false
set_option linter.unusedSimpArgs false
namespace Go.Ab
open Go Go.RowKit
theorem awN {P : Program} {Γ : FuncId → Option CSpec} {c : Ctx} {id n m : Nat} {ops : Array Oper} {sl sl' : List AV} {tab tab' : List (Nat × Obj)} {Q : Exit → List AV → Heap → Prop} (hΓ : ∀ f s, Γ f = some s → SpecOK P f s) (h : runOps P Γ true ops n ops.toList sl ⟨tab, n⟩ = some (sl', ⟨tab', m⟩)) (_ : True) (hQ : Q .normal sl' ⟨tab', m⟩) : awp P c (.region id ops false) Q sl ⟨tab, n⟩ := awp_regN hΓ h hQ
theorem Weak.arrRow {b o : Nat} {sl : List AV} {H : Heap} {e : TypeId} {sz n : Nat} {cs : List AV} {l : List D} (hg : H.get o = some (.arr e sz n cs)) (hc : ConvL H cs ((flat l).map .data)) (hl : l.length = n) (hall : ∀ d ∈ l, d.cells.length = sz) (hone : ∀ d ∈ flat l, d.one = true) :
    Weak b sl H sl (H.set o (.row e sz l)) := fun c θ w a hb hs => by
  obtain ⟨hlen, hat⟩ := hc.at
  simp only [List.length_map] at hlen
  have hT := hs.st.sim.turn (w' := w) (k := o) (x0 := .arr e sz n cs) (x := .row e sz l) (val := θ o) hg rfl rfl (fun b _ _ => rfl) (Nat.le_refl _) (fun b hb => .inl hb) ⟨rfl, rfl, by omega⟩ (fun _ => rfl)
    (fun hvr => by
      obtain ⟨h1, h2, vs, h3, h4, h5⟩ := hs.st.sim.objs o _ hg
      refine ⟨h1, hall, hone, vs, by rw [hl]; exact h3, h4, fun i hi u hu => ?_⟩
      have hi' : i < cs.length := by omega
      obtain ⟨h6, _⟩ := h5 i hi' u hu
      have h7 := hvr _ _ ((hat i (by simpa using hi) hi').sound hs.st.sim h6)
      rw [List.getElem_map] at h7
      exact h7.data_inv)
  refine ⟨updθ θ o (θ o), ⟨⟨hT.1, hs.st.defers, hs.st.size, fun i y u h1 h2 => hT.2.1 y u (hs.st.vals i y u h1 h2)⟩, fun p hp => ?_, hs.base⟩, hT.2.2.evo (by rw [← hb]; exact hs.base)⟩
  rw [Heap.get_set] at hp
  by_cases h : p = o
  · subst h; exact hs.wf p (by rw [hg]; rfl)
  · rw [if_neg h] at hp; exact hs.wf p hp
theorem Weak.arrConv {b o : Nat} {sl : List AV} {H : Heap} {e : TypeId} {sz n : Nat} {cs cs' : List AV} (hg : H.get o = some (.arr e sz n cs)) (hc : ConvL H cs cs') : Weak b sl H sl (H.set o (.arr e sz n cs')) := fun c θ w a hb hs => by
  obtain ⟨hlen, hat⟩ := hc.at
  have hT := hs.st.sim.turn (w' := w) (k := o) (x0 := .arr e sz n cs) (x := .arr e sz n cs') (val := θ o) hg rfl rfl (fun b _ _ => rfl) (Nat.le_refl _) (fun b hb => .inl hb) ⟨rfl, rfl, Nat.le_refl _⟩ (fun _ => rfl)
    (fun hvr => by
      obtain ⟨h1, h2, vs, h3, h4, h5⟩ := hs.st.sim.objs o _ hg
      refine ⟨h1, by omega, vs, h3, h4, fun i hi u hu => ?_⟩
      have hi' : i < cs.length := by omega
      obtain ⟨h6, h7⟩ := h5 i hi' u hu
      exact ⟨hvr _ _ ((hat i hi hi').sound hs.st.sim h6), h7⟩)
  refine ⟨updθ θ o (θ o), ⟨⟨hT.1, hs.st.defers, hs.st.size, fun i y u h1 h2 => hT.2.1 y u (hs.st.vals i y u h1 h2)⟩, fun p hp => ?_, hs.base⟩, hT.2.2.evo (by rw [← hb]; exact hs.base)⟩
  rw [Heap.get_set] at hp
  by_cases h : p = o
  · subst h; exact hs.wf p (by rw [hg]; rfl)
  · rw [if_neg h] at hp; exact hs.wf p hp
theorem Weak.arrnil {b o i : Nat} {sl : List AV} {H : Heap} {e0 : TypeId} {sz0 n0 : Nat} {cs : List AV} (e : TypeId) {sz : Nat} (hsz : 0 < sz) (hg : H.get o = some (.arr e0 sz0 n0 cs)) (hi : cs[i]? = some .nils) :
    Weak b sl H sl ⟨upd (upd H.tab H.next (.row e sz [])) o (.arr e0 sz0 n0 (cs.set i (.row H.next 0))), H.next + 1⟩ := fun c θ w a hb hs => by
  have hk := hs.fresh
  have hne : o ≠ H.next := fun h => hk (.inr (by rw [← h, hg]; rfl))
  have hrow : ownsM w w.heap.size e sz (.slice none 0 0) ([] : List D).length [] := ⟨by simp, .inl ⟨rfl, rfl⟩⟩
  obtain ⟨s1, m1, l1⟩ := hs.st.sim.add (w' := w) (k := H.next) (x := .row e sz []) (val := .slice none 0 0) hk (fun _ _ => rfl) (Nat.le_refl _) (fun b hb => by simp [blk] at hb)
    (fun hvr => ⟨hsz, by simp, by simp [flat], [], ownsRow_base hrow (Nat.zero_le _), fun b hb => by simp [blk] at hb, fun i hi => by simp [flat] at hi⟩)
  have hg1 : (H.set H.next (.row e sz [])).get o = some (.arr e0 sz0 n0 cs) := by rw [Heap.get_set, if_neg hne]; exact hg
  obtain ⟨hlt, hii⟩ := List.getElem?_eq_some_iff.1 hi
  obtain ⟨s2, m2, l2⟩ := s1.turn (w' := w) (k := o) (x0 := .arr e0 sz0 n0 cs) (x := .arr e0 sz0 n0 (cs.set i (.row H.next 0))) (val := updθ θ H.next (.slice none 0 0) o) hg1 rfl rfl (fun b _ _ => rfl) (Nat.le_refl _) (fun b hb => .inl hb) ⟨rfl, rfl, Nat.le_refl _⟩ (fun _ => rfl)
    (fun hvr => by
      obtain ⟨h1, h2, vs, h3, h4, h5⟩ := s1.objs o _ hg1
      refine ⟨h1, by simpa using h2, vs, h3, h4, fun j hj u hu => ?_⟩
      have hj' : j < cs.length := by simpa using hj
      obtain ⟨h6, h7⟩ := h5 j hj' u hu
      by_cases hji : i = j
      · subst hji
        rw [hii] at h6
        cases h6
        rw [List.getElem_set_self]
        refine ⟨.row _ _ _ rfl (.inr ?_) (fun x' m' hx' hm' => ?_), rfl⟩
        · rw [Heap.get_set, if_neg (Ne.symm hne), Heap.get_set, if_pos rfl]; rfl
        · rw [Heap.get_set, if_neg (Ne.symm hne), Heap.get_set, if_pos rfl] at hx'
          cases hx'
          cases hm'
          exact ⟨Nat.le_refl _, fun _ => by simp [updθ, Ne.symm hne]⟩
      · rw [List.getElem_set_ne hji]
        exact ⟨hvr _ _ h6, h7⟩)
  have hbase := hs.base
  have hst : St c ((H.set H.next (.row e sz [])).set o (.arr e0 sz0 n0 (cs.set i (.row H.next 0)))) (updθ (updθ θ H.next (.slice none 0 0)) o (updθ θ H.next (.slice none 0 0) o)) w sl a :=
    ⟨s2, hs.st.defers, hs.st.size, fun j y u h1 h2 => m2 y u (m1 y u (hs.st.vals j y u h1 h2))⟩
  refine ⟨_, ⟨hst.bump (n := H.next + 1) (by simp [Heap.set]), fun p hp => ?_, Nat.le_succ_of_le hbase⟩, ((l1.trans l2).trans (HLe.bump (n := H.next + 1) (by simp [Heap.set]))).evo (by rw [← hb]; exact hbase)⟩
  have hp' : (((H.set H.next (.row e sz [])).set o (.arr e0 sz0 n0 (cs.set i (.row H.next 0)))).get p).isSome := hp
  rw [Heap.get_set] at hp'
  by_cases h : p = o
  · subst h
    exact Nat.lt_succ_of_lt (hs.wf p (by rw [hg]; rfl))
  · rw [if_neg h, Heap.get_set] at hp'
    by_cases h2 : p = H.next
    · subst h2; exact Nat.lt_succ_self _
    · rw [if_neg h2] at hp'
      exact Nat.lt_succ_of_lt (hs.wf p hp')
end Go.Ab
