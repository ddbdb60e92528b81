/-
  One text of the proof (own work): contracts of functions of the program, by the abstract machine.
-/
import Derived.Shelf.Strings.SlTrimAscii
import Derived.Shelf.Small.Strs
import Derived.Test.YtabenhkajabaeaaDoorX24
import Derived.Test.YtabenhkajabaeaaDoorX28
set_option linter.unusedVariables false
set_option linter.unusedSimpArgs false
namespace Go.Ab
open Go Go.RowKit Go.Proofs Go.Shelf
set_option maxRecDepth 100000
set_option maxHeartbeats 4000000
def shRen : Ren := ⟨fun | 119 => 95 | 120 => 96 | 137 => 55 | 151 => 86 | 152 => 93 | 160 => 77 | 161 => 54 | 197 => 85 | 217 => 74 | 224 => 82 | 225 => 81 | 227 => 71 | 228 => 84 | 231 => 70 | 232 => 88 | 233 => 72 | 234 => 89 | 235 => 73 | 236 => 90 | 260 => 92 | 266 => 87 | 271 => 94 | n => n, fun | 46 => 64 | 116 => 95 | 117 => 96 | 119 => 110 | 124 => 99 | 138 => 112 | 139 => 113 | n => n, fun | 3 => 1 | 4 => 2 | n => n⟩
theorem lay160 : Lays.n160 Tryd.prog shRen := {
  mixed := by kernel_rfl
  f119 := by kernel_rfl
  f120 := by kernel_rfl
  f137 := by kernel_rfl
  f151 := by kernel_rfl
  f152 := by kernel_rfl
  f160 := by kernel_rfl
  f197 := by kernel_rfl
  f217 := by kernel_rfl
  f224 := by kernel_rfl
  f225 := by kernel_rfl
  f227 := by kernel_rfl
  f228 := by kernel_rfl
  f231 := by kernel_rfl
  f232 := by kernel_rfl
  f233 := by kernel_rfl
  f234 := by kernel_rfl
  f235 := by kernel_rfl
  f236 := by kernel_rfl
  f260 := by kernel_rfl
  f266 := by kernel_rfl
  f271 := by kernel_rfl
  t0 := by kernel_rfl
  a0 := by intro w; kernel_rfl
  z0 := by intro w; kernel_rfl
  v0 := by intro w; kernel_rfl
  t3 := by kernel_rfl
  a3 := by intro w; kernel_rfl
  z3 := by intro w; kernel_rfl
  v3 := by intro w; kernel_rfl
  t4 := by kernel_rfl
  a4 := by intro w; kernel_rfl
  z4 := by intro w; kernel_rfl
  v4 := by intro w; kernel_rfl
  t5 := by kernel_rfl
  a5 := by intro w; kernel_rfl
  z5 := by intro w; kernel_rfl
  v5 := by intro w; kernel_rfl
  t9 := by kernel_rfl
  a9 := by intro w; kernel_rfl
  z9 := by intro w; kernel_rfl
  v9 := by intro w; kernel_rfl
  t21 := by kernel_rfl
  a21 := by intro w; kernel_rfl
  z21 := by intro w; kernel_rfl
  v21 := by intro w; kernel_rfl
  t46 := by kernel_rfl
  a46 := by intro w; kernel_rfl
  z46 := by intro w; kernel_rfl
  v46 := by intro w; kernel_rfl
  t105 := by kernel_rfl
  a105 := by intro w; kernel_rfl
  z105 := by intro w; kernel_rfl
  v105 := by intro w; kernel_rfl
  t116 := by kernel_rfl
  a116 := by intro w; kernel_rfl
  z116 := by intro w; kernel_rfl
  t117 := by kernel_rfl
  a117 := by intro w; kernel_rfl
  z117 := by intro w; kernel_rfl
  v117 := by intro w; kernel_rfl
  t119 := by kernel_rfl
  a119 := by intro w; kernel_rfl
  z119 := by intro w; kernel_rfl
  t124 := by kernel_rfl
  a124 := by intro w; kernel_rfl
  z124 := by intro w; kernel_rfl
  v124 := by intro w; kernel_rfl
  t138 := by kernel_rfl
  a138 := by intro w; kernel_rfl
  z138 := by intro w; kernel_rfl
  v138 := by intro w; kernel_rfl
  t139 := by kernel_rfl
  a139 := by intro w; kernel_rfl
  z139 := by intro w; kernel_rfl
  v139 := by intro w; kernel_rfl
  g3 := by kernel_rfl
  g4 := by kernel_rfl }
theorem lay161 : Lays.n161 Tryd.prog shRen := {
  mixed := by kernel_rfl
  f119 := by kernel_rfl
  f137 := by kernel_rfl
  f151 := by kernel_rfl
  f152 := by kernel_rfl
  f161 := by kernel_rfl
  f197 := by kernel_rfl
  f217 := by kernel_rfl
  f224 := by kernel_rfl
  f225 := by kernel_rfl
  f227 := by kernel_rfl
  f228 := by kernel_rfl
  f231 := by kernel_rfl
  f233 := by kernel_rfl
  f235 := by kernel_rfl
  f260 := by kernel_rfl
  f266 := by kernel_rfl
  t0 := by kernel_rfl
  a0 := by intro w; kernel_rfl
  z0 := by intro w; kernel_rfl
  v0 := by intro w; kernel_rfl
  t3 := by kernel_rfl
  a3 := by intro w; kernel_rfl
  z3 := by intro w; kernel_rfl
  v3 := by intro w; kernel_rfl
  t4 := by kernel_rfl
  a4 := by intro w; kernel_rfl
  z4 := by intro w; kernel_rfl
  v4 := by intro w; kernel_rfl
  t5 := by kernel_rfl
  a5 := by intro w; kernel_rfl
  z5 := by intro w; kernel_rfl
  v5 := by intro w; kernel_rfl
  t9 := by kernel_rfl
  a9 := by intro w; kernel_rfl
  z9 := by intro w; kernel_rfl
  v9 := by intro w; kernel_rfl
  t21 := by kernel_rfl
  a21 := by intro w; kernel_rfl
  z21 := by intro w; kernel_rfl
  v21 := by intro w; kernel_rfl
  t46 := by kernel_rfl
  a46 := by intro w; kernel_rfl
  z46 := by intro w; kernel_rfl
  v46 := by intro w; kernel_rfl
  t105 := by kernel_rfl
  a105 := by intro w; kernel_rfl
  z105 := by intro w; kernel_rfl
  v105 := by intro w; kernel_rfl
  t116 := by kernel_rfl
  a116 := by intro w; kernel_rfl
  z116 := by intro w; kernel_rfl
  t117 := by kernel_rfl
  a117 := by intro w; kernel_rfl
  z117 := by intro w; kernel_rfl
  v117 := by intro w; kernel_rfl
  t119 := by kernel_rfl
  a119 := by intro w; kernel_rfl
  z119 := by intro w; kernel_rfl
  t124 := by kernel_rfl
  a124 := by intro w; kernel_rfl
  z124 := by intro w; kernel_rfl
  v124 := by intro w; kernel_rfl
  t138 := by kernel_rfl
  a138 := by intro w; kernel_rfl
  z138 := by intro w; kernel_rfl
  v138 := by intro w; kernel_rfl
  t139 := by kernel_rfl
  a139 := by intro w; kernel_rfl
  z139 := by intro w; kernel_rfl
  v139 := by intro w; kernel_rfl
  g3 := by kernel_rfl
  g4 := by kernel_rfl }
theorem lay137 : Lays.n137 Tryd.prog shRen := {
  mixed := by kernel_rfl
  f137 := by kernel_rfl
  f217 := by kernel_rfl
  f266 := by kernel_rfl
  t3 := by kernel_rfl
  a3 := by intro w; kernel_rfl
  z3 := by intro w; kernel_rfl
  v3 := by intro w; kernel_rfl
  t5 := by kernel_rfl
  a5 := by intro w; kernel_rfl
  z5 := by intro w; kernel_rfl
  v5 := by intro w; kernel_rfl
  t9 := by kernel_rfl
  a9 := by intro w; kernel_rfl
  z9 := by intro w; kernel_rfl
  v9 := by intro w; kernel_rfl }
def cutset : List UInt8 := [97, 98, 99, 100, 101, 102, 103, 104, 105, 106, 107, 108, 109, 110, 111, 112, 113, 114, 115, 116, 117, 118, 119, 120, 121, 122, 48, 49, 50, 51, 52, 53, 54, 55, 56, 57, 45, 46]
theorem cut_ascii : ∀ (j : Nat) b, cutset[j]? = some b → b.toNat < 128 := by
  have h : ∀ b ∈ cutset, b.toNat < 128 := by decide
  intro j b hb
  exact h b (List.mem_of_getElem? hb)
noncomputable def g_trim : List D → Option D := encSpec (fun s : List UInt8 => [.str s, .str cutset]) (fun s => s.length ≤ 1099511627776) (fun s => .str (Lib.trimS s cutset))
theorem f_trim_ok : PureOK Tryd.prog 77 true g_trim := pure_calls Tryd.func77 (by kernel_rfl) (by kernel_rfl) (fun _ => ⟨rfl, rfl⟩) fun s hs w =>
  (Any.strings_Trim_ascii lay160 (by intro w; kernel_rfl) (by kernel_rfl) ⟨s.toArray⟩ ⟨cutset.toArray⟩ w (by simp [ByteArray.size]; omega) (by decide) cut_ascii).mono fun e w' h => ⟨h.1, h.2⟩
noncomputable def g_trimL : List D → Option D := encSpec (fun s : List UInt8 => [.str s, .str cutset]) (fun s => s.length ≤ 1099511627776) (fun s => .str (Lib.trimLeftS s cutset))
theorem f_trimL_ok : PureOK Tryd.prog 54 true g_trimL := pure_calls Tryd.func54 (by kernel_rfl) (by kernel_rfl) (fun _ => ⟨rfl, rfl⟩) fun s hs w =>
  (Any.strings_TrimLeft_ascii lay161 (by intro w; kernel_rfl) (by kernel_rfl) ⟨s.toArray⟩ ⟨cutset.toArray⟩ w (by decide) cut_ascii).mono fun e w' h => ⟨h.1, h.2⟩
theorem g_trim_eq {s : List UInt8} (h : s.length ≤ 1099511627776) : g_trim [.str s, .str cutset] = some (.str (Lib.trimS s cutset)) := encSpec_eq (x := s) h fun y hy => by
  simp only [List.cons.injEq, and_true, D.str.injEq] at hy
  rw [hy]
theorem g_trimL_eq {s : List UInt8} (h : s.length ≤ 1099511627776) : g_trimL [.str s, .str cutset] = some (.str (Lib.trimLeftS s cutset)) := encSpec_eq (x := s) h fun y hy => by
  simp only [List.cons.injEq, and_true, D.str.injEq] at hy
  rw [hy]
noncomputable def g_idxByte : List D → Option D := encSpec (fun x : List UInt8 × UInt8 => [.str x.1, u8 x.2.toNat]) (fun x => x.1.length ≤ 1099511627776) (fun x => i64 (Lib.indexByte x.1 x.2))
theorem f_idxByte_ok : PureOK Tryd.prog 55 true g_idxByte := pure_calls Tryd.func55 (by kernel_rfl) (by kernel_rfl) (fun _ => ⟨rfl, rfl⟩) fun x hs w =>
  (Any.strings_IndexByte lay137 ⟨x.1.toArray⟩ x.2.toNat w).mono fun e w' h => ⟨by rw [h.1]; simp [D.val], h.2 ▸ Below.refl _ _⟩
theorem g_idxByte_eq {s : List UInt8} {b : UInt8} (h : s.length ≤ 1099511627776) : g_idxByte [.str s, .int .u8 b.toNat] = some (.int .i64 (Lib.indexByte s b)) := encSpec_eq (x := (s, b)) h fun y hy => by
  obtain ⟨y0, y1⟩ := y
  simp only [List.cons.injEq, and_true, D.str.injEq, D.int.injEq, true_and, Int.natCast_inj, UInt8.toNat_inj] at hy
  obtain ⟨rfl, rfl⟩ := hy
  rfl
end Go.Ab
