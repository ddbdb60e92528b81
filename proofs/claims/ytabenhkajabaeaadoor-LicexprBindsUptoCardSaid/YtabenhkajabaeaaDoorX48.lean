/-
  One text of the proof (own work): contracts of functions of the program, by the abstract machine.
-/
import Derived.Test.YtabenhkajabaeaaDoorX47
set_option linter.unusedVariables false
set_option linter.unusedSimpArgs false
namespace Go.Ab
open Go Go.RowKit Go.Proofs
set_option maxRecDepth 10000
set_option maxHeartbeats 4000000
theorem parse_reads {s : List UInt8} {x : LX} {l : List Tk} (hr : ReadsE Fo2 (fun s => rOrs s (rAtom s 24)) x l) (hl : Lay l s) (hs : s.length ≤ 1024) (h1 : x.size ≤ 64) (h2 : x.hgt ≤ 24) : pParse s = (x, 0, 0) := by
  obtain ⟨b, h4, h5, h6⟩ := hr s 0 [] ⟨Nat.zero_le _, by simpa using hl⟩ ⟨⟨⟨by simp [headW, wWith], rfl⟩, by simp [headW, wAnd]⟩, by simp [headW, wOr]⟩
  have h7 := at_end h5
  rw [h6] at h7
  subst h7
  dsimp only at h4
  have hp : rParse s = ⟨x, 0, 0⟩ := by
    unfold rParse
    rw [decide_eq_false (by omega), if_neg (by decide), h4]
    dsimp only
    rw [if_neg (by decide), decide_eq_false (by omega), if_neg (by decide), decide_eq_false (by omega), if_neg (by decide), decide_eq_false (by omega), if_neg (by decide)]
  have h8 := (parse_rel s).2 (by rw [hp])
  rw [hp] at h8
  exact h8.1
def xA : LX := .mk 0 [97] [] []
def parN : Nat → List Tk
  | 0 => [.w [97]]
  | n + 1 => par1 (parN n)
def nest (k m : Nat) : List UInt8 := List.replicate k 40 ++ [97] ++ List.replicate m 41
theorem xA_form : formE xA = 0 := form_leaf (.inl rfl) (by decide) (.inl rfl)
theorem reads_parN : ∀ (n d : Nat), n ≤ d → Reads Fo0 (fun s => rAtom s d) xA (parN n)
  | 0, d, _ => rd_leaf d xA_form (.inl rfl)
  | n + 1, 0, h => by omega
  | n + 1, d + 1, h => rd_paren (rd_one2 (rd_one (reads_parN n d (by omega))).r).r
theorem lay_nest : ∀ n : Nat, Lay (parN n) (nest n n)
  | 0 => by
    show Lay [.w [97]] [97]
    exact lay_w1 (by decide)
  | n + 1 => by
    have e : nest (n + 1) (n + 1) = 40 :: (nest n n ++ [41]) := by
      unfold nest
      rw [List.replicate_succ, List.replicate_succ']
      simp
    rw [e]
    exact .p (.inl rfl) (lay_app (lay_nest n) (.p (.inr (.inl rfl)) .nil) (fun x r e => by cases e; decide))
theorem nest_len (k m : Nat) : (nest k m).length = k + m + 1 := by unfold nest; simp; omega
theorem nest_ok {k : Nat} (h : k ≤ 24) : pParse (nest k k) = (xA, 0, 0) :=
  parse_reads (rd_one2 (rd_one (reads_parN k 24 h)).r) (lay_nest k) (by rw [nest_len]; omega) (by decide) (by decide)
theorem nest_nobl (k m : Nat) : ∀ b ∈ nest k m, isBl b = false := by
  intro b hb
  unfold nest at hb
  simp only [List.mem_append, List.mem_replicate, List.mem_singleton] at hb
  rcases hb with (⟨_, rfl⟩ | rfl) | ⟨_, rfl⟩ <;> decide
theorem lay_nobl {l : List Tk} {t : List UInt8} (h : Lay l t) : l = [] → (∀ b ∈ t, isBl b = false) → t = [] := by
  induction h with
  | nil => intros; rfl
  | bl h ih => intro _ hb; exact absurd (hb 32 (by simp)) (by decide)
  | p hc h ih => intro e; cases e
  | w hb ha ht h ih => intro e; cases e
theorem nest_more {k : Nat} (h : k ≤ 24) : pParse (nest k (k + 1)) = (x0, ((2 * k + 1 : Nat) : Int), 4) := by
  have hl : Lay (parN k ++ [.p 41]) (nest k (k + 1)) := by
    have e : nest k (k + 1) = nest k k ++ [41] := by unfold nest; rw [List.replicate_succ']; simp
    rw [e]
    exact lay_app (lay_nest k) (.p (.inr (.inl rfl)) .nil) (fun x r e => by cases e; decide)
  have hn := nest_len k (k + 1)
  have hnb := nest_nobl k (k + 1)
  generalize nest k (k + 1) = s at *
  obtain ⟨b, h4, h5, h6⟩ := rd_one2 (rd_one (reads_parN k 24 h)).r s 0 [.p 41] ⟨Nat.zero_le _, by simpa using hl⟩ ⟨⟨⟨by simp [headW, wWith], rfl⟩, by simp [headW, wAnd]⟩, by simp [headW, wOr]⟩
  dsimp only at h4
  have hb : b + 1 = s.length := by
    obtain ⟨_, t', h7, h8⟩ := lay_p h5.2 rfl
    rw [← drop_skip, h6] at h7
    have h9 := lay_nobl h8 rfl (fun x hx => hnb x (List.mem_of_mem_drop (i := b) (by rw [h7]; exact List.mem_cons_of_mem _ hx)))
    rw [h9] at h7
    have := congrArg List.length h7
    rw [List.length_drop] at this
    simp only [List.length_cons, List.length_nil] at this
    omega
  have hp : rParse s = wrongR b 4 := by
    unfold rParse
    rw [decide_eq_false (by omega), if_neg (by decide), h4]
    dsimp only
    rw [if_neg (by decide), decide_eq_true (by omega), if_pos rfl]
  have h8 := (parse_rel s).1 (by rw [hp]; exact fun h => absurd h (show (4 : Int) ≠ 0 by decide))
  rw [hp] at h8
  rw [h8]
  show (x0, (b : Int), (4 : Int)) = _
  rw [show b = 2 * k + 1 by omega]
theorem w11 (a : Nat) : ((wrongR a 11).err != 0) = true := rfl
theorem atom_deep {s : List UInt8} : ∀ (d a j : Nat) (t : List UInt8), s.drop a = List.replicate (d + 1 + j) 40 ++ t → rAtom s d a = wrongR (a + d) 11
  | 0, a, j, t, h => by
    have h0 : s.drop a = 40 :: (List.replicate j 40 ++ t) := by rw [h, show 0 + 1 + j = j + 1 by omega, List.replicate_succ]; rfl
    have hs : skipN s a = a := by
      unfold skipN runN
      rw [h0, List.takeWhile_cons, if_neg (by decide)]
      rfl
    show rAtomF s none a = _
    unfold rAtomF
    have hat : isAtI s a 40 = true := isAt_drop.2 ⟨_, h0⟩
    rw [hs, if_pos hat]
    rfl
  | d + 1, a, j, t, h => by
    have h0 : s.drop a = 40 :: (List.replicate (d + 1 + j) 40 ++ t) := by rw [h, show d + 1 + 1 + j = (d + 1 + j) + 1 by omega, List.replicate_succ]; rfl
    have h1 : s.drop (a + 1) = List.replicate (d + 1 + j) 40 ++ t := by rw [← List.drop_drop, h0]; rfl
    have hs : skipN s a = a := by
      unfold skipN runN
      rw [h0, List.takeWhile_cons, if_neg (by decide)]
      rfl
    have ih := atom_deep d (a + 1) j t h1
    have hn : rAnds s (rAtom s d) (a + 1) = wrongR (a + 1 + d) 11 := by
      unfold rAnds
      rw [rLoop, ih, if_pos (w11 _)]
    have ho : rOrs s (rAtom s d) (a + 1) = wrongR (a + 1 + d) 11 := by
      unfold rOrs
      rw [rLoop, hn, if_pos (w11 _)]
    show rAtomF s (some (rOrs s (rAtom s d))) a = _
    unfold rAtomF
    have hat : isAtI s a 40 = true := isAt_drop.2 ⟨_, h0⟩
    rw [hs, if_pos hat]
    dsimp only
    rw [ho, if_pos (w11 _), show a + 1 + d = a + (d + 1) by omega]
theorem nest_deep {k m : Nat} (h : 24 < k) (hs : k + m + 1 ≤ 1024) : pParse (nest k m) = (x0, 24, 11) := by
  have hn := nest_len k m
  have ha : rAtom (nest k m) 24 0 = wrongR (0 + 24) 11 := atom_deep 24 0 (k - 25) ([97] ++ List.replicate m 41) (by
    rw [List.drop_zero, show 24 + 1 + (k - 25) = k by omega]
    unfold nest
    rw [List.append_assoc])
  generalize nest k m = s at *
  have hn2 : rAnds s (rAtom s 24) 0 = wrongR 24 11 := by
    unfold rAnds
    rw [rLoop, ha, if_pos (w11 _)]
  have ho : rOrs s (rAtom s 24) 0 = wrongR 24 11 := by
    unfold rOrs
    rw [rLoop, hn2, if_pos (w11 _)]
  have hp : rParse s = wrongR 24 11 := by
    unfold rParse
    rw [decide_eq_false (by omega), if_neg (by decide), ho, if_pos (w11 _)]
  have h8 := (parse_rel s).1 (by rw [hp]; exact fun h => absurd h (show (11 : Int) ≠ 0 by decide))
  rw [hp] at h8
  exact h8
theorem joinK_snoc (w : List UInt8) (x : List Tk) : ∀ (l : List (List Tk)), l ≠ [] → joinK w (l ++ [x]) = joinK w l ++ .w w :: x
  | [], h => absurd rfl h
  | [y], _ => rfl
  | y :: z :: r, _ => by
    have := joinK_snoc w x (z :: r) (by simp)
    show y ++ .w w :: joinK w ((z :: r) ++ [x]) = (y ++ .w w :: joinK w (z :: r)) ++ _
    rw [this]
    simp
theorem joinK_last (w : List UInt8) (x y : List Tk) : ∀ (l : List (List Tk)), joinK w (l ++ [x ++ y]) = joinK w (l ++ [x]) ++ y
  | [] => rfl
  | [z] => by show z ++ .w w :: (x ++ y) = (z ++ .w w :: x) ++ y; simp
  | z :: z' :: r => by
    have := joinK_last w x y (z' :: r)
    show z ++ .w w :: joinK w ((z' :: r) ++ [x ++ y]) = (z ++ .w w :: joinK w ((z' :: r) ++ [x])) ++ y
    rw [this]
    simp
def nmS (i : Nat) : List UInt8 := [97, UInt8.ofNat (97 + i)]
def nmX (i : Nat) : LX := .mk 0 (nmS i) [] []
structure Bst where
  s : List UInt8
  all : List LX
  part : List LX
def bstep (b : Bst) (i : Nat) (o : Bool) : Bst := if o then ⟨b.s ++ [32, 111, 114, 32] ++ nmS (i + 1), b.all ++ [listX 2 b.part], [nmX (i + 1)]⟩ else ⟨b.s ++ [32, 97, 110, 100, 32] ++ nmS (i + 1), b.all, b.part ++ [nmX (i + 1)]⟩
def bRun (l : List Bool) : Nat → Bst
  | 0 => ⟨nmS 0, [], [nmX 0]⟩
  | i + 1 => bstep (bRun l i) i (l.getD i false)
def nTok (x : LX) : List Tk := [.w x.name]
def aTok (p : List LX) : List Tk := joinK wAnd (p.map nTok)
structure BInv (n : Nat) (b : Bst) (ps : List (List LX)) : Prop where
  all : b.all = ps.map (listX 2)
  lay : Lay (joinK wOr ((ps ++ [b.part]).map aTok)) b.s
  nm : ∀ p ∈ ps ++ [b.part], p ≠ [] ∧ ∀ x ∈ p, ∃ i, i ≤ 20 ∧ x = nmX i
  sz : LX.size.sizes b.all + b.part.length ≤ 2 * n + 1
  ln : b.s.length ≤ 2 + 7 * n
theorem nm_ok {i : Nat} (h : i ≤ 20) : isNameB (nmS i) = true := by
  have : ∀ i, i < 21 → isNameB (nmS i) = true := by decide
  exact this i (by omega)
theorem sizes_nm : ∀ (p : List LX), (∀ x ∈ p, ∃ i, i ≤ 20 ∧ x = nmX i) → LX.size.sizes p = p.length
  | [], _ => rfl
  | x :: p, h => by
    obtain ⟨i, _, rfl⟩ := h x (by simp)
    have := sizes_nm p fun y hy => h y (by simp [hy])
    simp only [LX.size.sizes, List.length_cons, this]
    show 1 + _ = _
    omega
theorem listX_size {k : Int} {p : List LX} (hp : ∀ x ∈ p, ∃ i, i ≤ 20 ∧ x = nmX i) : (listX k p).size ≤ p.length + 1 := by
  have := sizes_nm p hp
  match p with
  | [] => simp [listX, LX.size, LX.size.sizes]
  | [x] =>
    obtain ⟨i, _, rfl⟩ := hp x (by simp)
    show 1 ≤ _
    simp
  | x :: y :: r =>
    show (LX.mk k [] [] (x :: y :: r)).size ≤ _
    rw [LX.size, this]
    omega
theorem bInv (l : List Bool) : ∀ n, n ≤ 20 → ∃ ps, BInv n (bRun l n) ps
  | 0, _ => ⟨[], rfl, by show Lay [.w (nmS 0)] (nmS 0); exact lay_w1 (name_w (nm_ok (by omega))), fun p hp => by
      have : p = [nmX 0] := by simpa [bRun] using hp
      subst this
      exact ⟨by simp, fun x hx => ⟨0, by omega, by simpa using hx⟩⟩, by simp [bRun, LX.size.sizes], by simp [bRun, nmS]⟩
  | n + 1, h => by
    obtain ⟨ps, hb⟩ := bInv l n (by omega)
    obtain ⟨h1, h2, h3, h4, h5⟩ := hb
    have hname := name_w (nm_ok (i := n + 1) h)
    have hpart := h3 (bRun l n).part (by simp)
    show ∃ ps, BInv (n + 1) (bstep (bRun l n) n (l.getD n false)) ps
    generalize bRun l n = b at *
    generalize l.getD n false = o
    unfold bstep
    cases o
    · rw [if_neg (by decide)]
      refine ⟨ps, h1, ?_, fun p hp => ?_, ?_, ?_⟩
      · have e : aTok (b.part ++ [nmX (n + 1)]) = aTok b.part ++ [.w wAnd, .w (nmS (n + 1))] := by
          unfold aTok
          rw [List.map_append, List.map_cons, List.map_nil, joinK_snoc _ _ _ (by simpa using hpart.1)]
          rfl
        dsimp only
        rw [List.map_append, List.map_cons, List.map_nil, e, joinK_last, ← List.map_nil (f := aTok), ← List.map_cons, ← List.map_append]
        have := lay_app h2 (lay_sep (w := wAnd) (by decide) (lay_w1 hname)) hd_bl
        rw [List.append_assoc]
        exact this
      · dsimp only at hp ⊢
        rcases List.mem_append.1 hp with hp | hp
        · exact h3 p (by simp [hp])
        · rw [List.mem_singleton.1 hp]
          refine ⟨by simp, fun x hx => ?_⟩
          rcases List.mem_append.1 hx with hx | hx
          · exact hpart.2 x hx
          · exact ⟨n + 1, h, List.mem_singleton.1 hx⟩
      · dsimp only
        rw [List.length_append]
        simp only [List.length_cons, List.length_nil]
        omega
      · dsimp only
        simp only [List.length_append, List.length_cons, List.length_nil, nmS]
        omega
    · rw [if_pos rfl]
      refine ⟨ps ++ [b.part], ?_, ?_, fun p hp => ?_, ?_, ?_⟩
      · dsimp only
        rw [h1, List.map_append]
        rfl
      · dsimp only
        rw [List.map_append, List.map_cons, List.map_nil, joinK_snoc _ _ _ (by simp)]
        have := lay_app h2 (lay_sep (w := wOr) (by decide) (lay_w1 hname)) hd_bl
        rw [List.append_assoc b.s]
        exact this
      · dsimp only at hp
        rcases List.mem_append.1 hp with hp | hp
        · exact h3 p hp
        · rw [List.mem_singleton.1 hp]
          exact ⟨by simp, fun x hx => ⟨n + 1, h, List.mem_singleton.1 hx⟩⟩
      · dsimp only
        have := listX_size (k := 2) hpart.2
        rw [LX.sizes_append]
        simp only [LX.size.sizes, List.length_cons, List.length_nil]
        omega
      · dsimp only
        simp only [List.length_append, List.length_cons, List.length_nil, nmS]
        omega
theorem hgts_le {l : List LX} {n : Nat} (h : ∀ x ∈ l, x.hgt ≤ n) : LX.hgt.hgts l ≤ n := by
  induction l with
  | nil => exact Nat.zero_le _
  | cons x l ih =>
    have h1 := h x (by simp)
    have h2 := ih fun y hy => h y (by simp [hy])
    simp only [LX.hgt.hgts]
    omega
theorem listX_hgt {k : Int} {l : List LX} {n : Nat} (h : ∀ x ∈ l, x.hgt ≤ n) : (listX k l).hgt ≤ n + 1 := by
  have := hgts_le h
  match l with
  | [] => show LX.hgt.hgts [] + 1 ≤ _; simp only [LX.hgt.hgts]; omega
  | [x] => have := h x (by simp); show x.hgt ≤ _; omega
  | x :: y :: r => show LX.hgt.hgts (x :: y :: r) + 1 ≤ _; omega
def bWant (b : Bst) : LX := listX 3 (b.all ++ [listX 2 b.part])
theorem binds_ok (l : List Bool) (n : Nat) (hn : n ≤ 20) : pParse (bRun l n).s = (bWant (bRun l n), 0, 0) ∧ (bWant (bRun l n)).Bd 1048576 := by
  obtain ⟨ps, h1, h2, h3, h4, h5⟩ := bInv l n hn
  generalize bRun l n = b at *
  have hall : ∀ p ∈ ps ++ [b.part], Reads Fo1 (fun s => rAnds s (rAtom s 24)) (listX 2 p) (aTok p) := fun p hp => by
    obtain ⟨g1, g2⟩ := h3 p hp
    have h := rd_ands (d := 24) (p.map fun x => (x, nTok x)) (by simpa using g1) (fun q hq => by
      obtain ⟨x, hx, rfl⟩ := List.mem_map.1 hq
      obtain ⟨i, hi, rfl⟩ := g2 x hx
      exact rd_leaf 24 (form_leaf (.inl rfl) (nm_ok hi) (.inl rfl)) (.inl rfl))
    rw [(map_pairs nTok p).1, (map_pairs nTok p).2] at h
    exact h.r
  have ho := rd_ors (d := 24) ((ps ++ [b.part]).map fun p => (listX 2 p, aTok p)) (by simp) (fun q hq => by
    obtain ⟨p, hp, rfl⟩ := List.mem_map.1 hq
    exact hall p hp)
  rw [List.map_map, List.map_map] at ho
  have e1 : (ps ++ [b.part]).map ((fun x : LX × List Tk => x.1) ∘ fun p => (listX 2 p, aTok p)) = b.all ++ [listX 2 b.part] := by rw [h1, List.map_append]; rfl
  have e2 : (ps ++ [b.part]).map ((fun x : LX × List Tk => x.2) ∘ fun p => (listX 2 p, aTok p)) = (ps ++ [b.part]).map aTok := rfl
  rw [e1, e2] at ho
  have hlast := listX_size (k := 2) (h3 b.part (by simp)).2
  have hs : (bWant b).size ≤ 64 := by
    have e : LX.size.sizes (b.all ++ [listX 2 b.part]) = LX.size.sizes b.all + (listX 2 b.part).size := by rw [LX.sizes_append]; simp [LX.size.sizes]
    have : ∀ (l : List LX), (listX 3 l).size ≤ LX.size.sizes l + 1 := fun l => by
      match l with
      | [] => simp [listX, LX.size, LX.size.sizes]
      | [x] => show x.size ≤ _; simp only [LX.size.sizes]; omega
      | x :: y :: r => show (LX.mk 3 [] [] (x :: y :: r)).size ≤ _; rw [LX.size]; omega
    have := this (b.all ++ [listX 2 b.part])
    unfold bWant
    omega
  have hkid : ∀ x ∈ b.all ++ [listX 2 b.part], x.hgt ≤ 2 ∧ x.Bd 1048576 := fun x hx => by
    have hx2 : ∃ p ∈ ps ++ [b.part], x = listX 2 p := by
      rw [h1] at hx
      rcases List.mem_append.1 hx with hx | hx
      · obtain ⟨p, hp, rfl⟩ := List.mem_map.1 hx
        exact ⟨p, by simp [hp], rfl⟩
      · exact ⟨b.part, by simp, List.mem_singleton.1 hx⟩
    obtain ⟨p, hp, rfl⟩ := hx2
    obtain ⟨_, g2⟩ := h3 p hp
    have hsz : (listX 2 p).size ≤ LX.size.sizes (b.all ++ [listX 2 b.part]) := by
      have : ∀ (l : List LX) (x : LX), x ∈ l → x.size ≤ LX.size.sizes l := fun l x hx => by
        obtain ⟨s, t, rfl⟩ := List.append_of_mem hx
        rw [LX.sizes_append]
        simp only [LX.size.sizes]
        omega
      exact this _ _ hx
    have e : LX.size.sizes (b.all ++ [listX 2 b.part]) = LX.size.sizes b.all + (listX 2 b.part).size := by rw [LX.sizes_append]; simp [LX.size.sizes]
    refine ⟨listX_hgt (n := 1) fun y hy => ?_, ?_⟩
    · obtain ⟨i, _, rfl⟩ := g2 y hy
      exact Nat.le_refl _
    · have hb : ∀ y ∈ p, y.Bd 1048576 := fun y hy => by
        obtain ⟨i, _, rfl⟩ := g2 y hy
        exact bd_leaf (by decide) (by simp [nmS]) (by simp)
      match p, hb, hsz with
      | [], _, hsz => exact bd_list (by show (listX 2 []).size ≤ _; omega) (fun y hy => by cases hy)
      | [y], hb, _ => exact hb y (by simp)
      | y :: z :: r, hb, hsz => exact bd_list (by show (listX 2 (y :: z :: r)).size ≤ _; omega) hb
  refine ⟨parse_reads ho h2 (by omega) hs (Nat.le_trans (listX_hgt (n := 2) fun x hx => (hkid x hx).1) (by decide)), ?_⟩
  · unfold bWant at hs ⊢
    generalize b.all ++ [listX 2 b.part] = l at *
    match l, hkid, hs with
    | [], _, _ => exact bd_list (by decide) (fun y hy => by cases hy)
    | [y], hb, _ => exact (hb y (by simp)).2
    | y :: z :: r, hb, hs => exact bd_list (by show (listX 3 (y :: z :: r)).size ≤ _; omega) fun x hx => (hb x hx).2
inductive Blow : List UInt8 → List UInt8 → Prop where
  | nil : Blow [] []
  | sp (n : Nat) {s t : List UInt8} (h : Blow s t) : Blow (32 :: s) (32 :: (List.replicate n 32 ++ t))
  | pu (m n : Nat) {c : UInt8} {s t : List UInt8} (hc : pun c) (h : Blow s t) : Blow (c :: s) (List.replicate m 32 ++ c :: (List.replicate n 32 ++ t))
  | ot {c : UInt8} {s t : List UInt8} (hc : ¬ pun c) (hb : c ≠ 32) (h : Blow s t) : Blow (c :: s) (c :: t)
theorem Blow.app {a t b u : List UInt8} (h1 : Blow a t) (h2 : Blow b u) : Blow (a ++ b) (t ++ u) := by
  induction h1 with
  | nil => exact h2
  | sp n h ih => simp only [List.cons_append, List.append_assoc]; exact .sp n ih
  | pu m n hc h ih => simp only [List.cons_append, List.append_assoc]; exact .pu m n hc ih
  | ot hc hb h ih => exact .ot hc hb ih
theorem lay_bls {l : List Tk} {t : List UInt8} (h : Lay l t) : ∀ n : Nat, Lay l (List.replicate n 32 ++ t)
  | 0 => h
  | n + 1 => by rw [List.replicate_succ]; exact .bl (lay_bls h n)
theorem blow_word {b s t : List UInt8} (hb : b.all letter = true) (h : Blow (b ++ s) t) : ∃ t', t = b ++ t' ∧ Blow s t' := by
  induction b generalizing t with
  | nil => exact ⟨t, rfl, h⟩
  | cons x b ih =>
    rw [List.all_cons, Bool.and_eq_true] at hb
    rw [List.cons_append] at h
    cases h with
    | sp n h => exact absurd hb.1 (by decide)
    | pu m n hc h => rw [(pun_bl hc).2] at hb; exact absurd hb.1 (by decide)
    | ot hc hn h =>
      obtain ⟨t', rfl, h'⟩ := ih hb.2 h
      exact ⟨t', rfl, h'⟩
theorem blow_head {s t : List UInt8} (h : Blow s t) (hs : ∀ x r, s = x :: r → letter x = false) : ∀ x r, t = x :: r → letter x = false := by
  cases h with
  | nil => intro x r e; cases e
  | sp n h => intro x r e; cases e; decide
  | pu m n hc h =>
    intro x r e
    cases m with
    | zero => cases e; exact (pun_bl hc).2
    | succ m => rw [List.replicate_succ] at e; cases e; decide
  | ot hc hb h => intro x r e; cases e; exact hs _ _ rfl
theorem lay_blow {l : List Tk} {s : List UInt8} (h : Lay l s) : ∀ t, Blow s t → Lay l t := by
  induction h with
  | nil => intro t hb; cases hb; exact .nil
  | bl h ih =>
    intro t hb
    cases hb with
    | sp n hb => exact .bl (lay_bls (ih _ hb) n)
    | pu m n hc hb => rcases hc with h | h | h <;> exact absurd h (by decide)
    | ot hc hn hb => exact absurd rfl hn
  | p hc h ih =>
    intro t hb
    cases hb with
    | sp n hb => rcases hc with h | h | h <;> exact absurd h (by decide)
    | pu m n hc' hb => exact lay_bls (.p hc (lay_bls (ih _ hb) n)) m
    | ot hn hb' hb => exact absurd hc hn
  | w hb ha ht h ih =>
    intro t hbl
    obtain ⟨t', rfl, h'⟩ := blow_word ha hbl
    exact .w hb ha (blow_head h' ht) (ih _ h')
def moreS (bs : List UInt8) (n : Nat) : List UInt8 := match bs[n]? with
  | some b => List.replicate (b.toNat % 4) 32
  | none => []
structure Wst where
  t : List UInt8
  n : Nat
def wstep (bs : List UInt8) (w : Wst) (c : UInt8) : Wst :=
  if c == 32 then ⟨w.t ++ (32 :: moreS bs w.n), w.n + 1⟩ else if c == 40 || c == 41 || c == 43 then ⟨w.t ++ (moreS bs w.n ++ [c] ++ moreS bs (w.n + 1)), w.n + 2⟩ else ⟨w.t ++ [c], w.n⟩
def wRun (bs s : List UInt8) : Nat → Wst
  | 0 => ⟨[], 0⟩
  | i + 1 => wstep bs (wRun bs s i) (s.getD i 0)
theorem more_rep (bs : List UInt8) (n : Nat) : ∃ k, k ≤ 3 ∧ moreS bs n = List.replicate k 32 := by
  unfold moreS
  split
  · exact ⟨_, by omega, rfl⟩
  · exact ⟨0, by omega, rfl⟩
theorem wstep_blow (bs : List UInt8) (w : Wst) (c : UInt8) {a : List UInt8} (h : Blow a w.t) : Blow (a ++ [c]) (wstep bs w c).t := by
  obtain ⟨k1, _, e1⟩ := more_rep bs w.n
  obtain ⟨k2, _, e2⟩ := more_rep bs (w.n + 1)
  unfold wstep
  split
  · rename_i hc
    rw [eq_of_beq hc, e1]
    have := h.app (Blow.sp k1 .nil)
    rw [List.append_nil] at this
    exact this
  · rename_i hn
    split
    · rename_i hc
      have hp : pun c := by
        simp only [Bool.or_eq_true, beq_iff_eq] at hc
        rcases hc with (h | h) | h
        · exact .inl h
        · exact .inr (.inl h)
        · exact .inr (.inr h)
      rw [e1, e2]
      have := h.app (Blow.pu k1 k2 hp .nil)
      rw [List.append_nil] at this
      dsimp only
      rw [List.append_assoc (List.replicate k1 32)]
      exact this
    · rename_i hc
      refine h.app (.ot (fun hp => hc ?_) (fun e => hn (by rw [e]; rfl)) .nil)
      rcases hp with rfl | rfl | rfl <;> rfl
theorem wRun_blow (bs s : List UInt8) : ∀ i, i ≤ s.length → Blow (s.take i) (wRun bs s i).t
  | 0, _ => .nil
  | i + 1, h => by
    have := wstep_blow bs (wRun bs s i) (s.getD i 0) (wRun_blow bs s i (by omega))
    rw [List.take_add_one, List.getElem?_eq_getElem (by omega)]
    rw [show s.getD i 0 = s[i] by simp [List.getD, show i < s.length by omega]] at this
    show Blow _ (wstep bs (wRun bs s i) (s.getD i 0)).t
    rw [show s.getD i 0 = s[i] by simp [List.getD, show i < s.length by omega]]
    exact this
theorem wRun_bd (bs s : List UInt8) : ∀ i, (wRun bs s i).t.length ≤ 7 * i ∧ (wRun bs s i).n ≤ 2 * i
  | 0 => ⟨Nat.le_refl _, Nat.le_refl _⟩
  | i + 1 => by
    obtain ⟨h1, h2⟩ := wRun_bd bs s i
    show (wstep bs (wRun bs s i) (s.getD i 0)).t.length ≤ _ ∧ (wstep bs (wRun bs s i) (s.getD i 0)).n ≤ _
    generalize wRun bs s i = w at *
    generalize s.getD i 0 = c
    obtain ⟨k1, g1, e1⟩ := more_rep bs w.n
    obtain ⟨k2, g2, e2⟩ := more_rep bs (w.n + 1)
    unfold wstep
    split
    · refine ⟨?_, by dsimp only; omega⟩
      rw [e1]
      simp only [List.length_append, List.length_cons, List.length_replicate]
      omega
    · split
      · refine ⟨?_, by dsimp only; omega⟩
        rw [e1, e2]
        simp only [List.length_append, List.length_cons, List.length_replicate, List.length_nil]
        omega
      · refine ⟨?_, by dsimp only; omega⟩
        simp only [List.length_append, List.length_cons, List.length_nil]
        omega
theorem blanks_ok {x : LX} (hc : checkE x = 0) (bs : List UInt8) (h : (wRun bs (textX x) (textX x).length).t.length ≤ 1000) (k1 k2 : Nat) (hk1 : k1 ≤ 3) (hk2 : k2 ≤ 3) :
    pParse (wRun bs (textX x) (textX x).length).t = (x, 0, 0) ∧ pParse (List.replicate k1 32 ++ [40] ++ (wRun bs (textX x) (textX x).length).t ++ [41] ++ List.replicate k2 32) = (x, 0, 0) := by
  obtain ⟨h1, h2, h3⟩ := check_ok hc
  have hb := wRun_blow bs (textX x) _ (Nat.le_refl _)
  rw [List.take_length] at hb
  have hl := lay_blow (lay_text x h3) _ hb
  generalize (wRun bs (textX x) (textX x).length).t = t at *
  refine ⟨parse_lay hl hc (by omega), parse_reads (l := par1 (tks x)) ?_ ?_ ?_ h1 h2⟩
  · exact rd_one2 (rd_one (rd_paren (d := 23) (reads_x x h3 23 (by omega)).1.r)).r
  · have := lay_bls (Lay.p (c := 40) (.inl rfl) (lay_app hl (.p (c := 41) (.inr (.inl rfl)) (lay_bls .nil k2)) (fun y r e => by cases e; decide))) k1
    rw [List.append_nil] at this
    simpa [par1] using this
  · simp only [List.length_append, List.length_cons, List.length_replicate, List.length_nil]
    omega
end Go.Ab
