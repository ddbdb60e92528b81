/-
  One text of the proof (own work): contracts of functions of the program, by the abstract machine.
-/
import Derived.Shelf.Strings.SlTrimAscii
import Derived.Shelf.Strings.Count
import Derived.Shelf.Strings.Search3
import Derived.Shelf.Small.Strs
import Derived.Shelf.GgClosure.StringsIndexFuncTop
import Derived.Shelf.Strings.OnBuilder
import Derived.Test.YtlfmbcjjojedgaaGreatDoorX22
set_option linter.unusedVariables false
set_option linter.unusedSimpArgs false
namespace Go.Ab
open Go Go.RowKit Go.Proofs Go.Shelf
set_option maxRecDepth 100000
set_option maxHeartbeats 4000000
def shRen : Ren := ⟨fun | 119 => 163 | 120 => 161 | 125 => 98 | 128 => 134 | 129 => 135 | 137 => 120 | 138 => 41 | 143 => 76 | 151 => 145 | 152 => 160 | 160 => 85 | 161 => 83 | 190 => 57 | 194 => 58 | 195 => 74 | 197 => 141 | 217 => 137 | 218 => 75 | 219 => 104 | 224 => 139 | 225 => 138 | 227 => 110 | 228 => 144 | 231 => 109 | 232 => 114 | 233 => 111 | 234 => 115 | 235 => 112 | 236 => 116 | 258 => 97 | 260 => 159 | 266 => 157 | 267 => 140 | 271 => 147 | 302 => 125 | 303 => 126 | 304 => 127 | 305 => 128 | 306 => 129 | 307 => 130 | 308 => 131 | 309 => 132 | 310 => 133 | 314 => 158 | 329 => 152 | 330 => 153 | 333 => 151 | 334 => 154 | 335 => 155 | 336 => 156 | 344 => 162 | n => n, fun | 31 => 42 | 46 => 122 | 51 => 148 | 53 => 150 | 105 => 153 | 116 => 129 | 117 => 130 | 119 => 172 | 124 => 133 | 131 => 145 | 138 => 174 | 139 => 175 | 146 => 166 | 182 => 139 | 183 => 140 | 218 => 160 | 222 => 164 | 228 => 169 | 229 => 170 | n => n, fun | 1 => 0 | 3 => 1 | 4 => 2 | n => n⟩
theorem lay160 : Lays.n160 Tryz.prog shRen := {
  mixed := by kernel_rfl
  f119 := by kernel_rfl
  f120 := by kernel_rfl
  f137 := by kernel_rfl
  f151 := by kernel_rfl
  f152 := by kernel_rfl
  f160 := by kernel_rfl
  f197 := by kernel_rfl
  f217 := by kernel_rfl
  f224 := by kernel_rfl
  f225 := by kernel_rfl
  f227 := by kernel_rfl
  f228 := by kernel_rfl
  f231 := by kernel_rfl
  f232 := by kernel_rfl
  f233 := by kernel_rfl
  f234 := by kernel_rfl
  f235 := by kernel_rfl
  f236 := by kernel_rfl
  f260 := by kernel_rfl
  f266 := by kernel_rfl
  f271 := by kernel_rfl
  t0 := by kernel_rfl
  a0 := by intro w; kernel_rfl
  z0 := by intro w; kernel_rfl
  v0 := by intro w; kernel_rfl
  t3 := by kernel_rfl
  a3 := by intro w; kernel_rfl
  z3 := by intro w; kernel_rfl
  v3 := by intro w; kernel_rfl
  t4 := by kernel_rfl
  a4 := by intro w; kernel_rfl
  z4 := by intro w; kernel_rfl
  v4 := by intro w; kernel_rfl
  t5 := by kernel_rfl
  a5 := by intro w; kernel_rfl
  z5 := by intro w; kernel_rfl
  v5 := by intro w; kernel_rfl
  t9 := by kernel_rfl
  a9 := by intro w; kernel_rfl
  z9 := by intro w; kernel_rfl
  v9 := by intro w; kernel_rfl
  t21 := by kernel_rfl
  a21 := by intro w; kernel_rfl
  z21 := by intro w; kernel_rfl
  v21 := by intro w; kernel_rfl
  t46 := by kernel_rfl
  a46 := by intro w; kernel_rfl
  z46 := by intro w; kernel_rfl
  v46 := by intro w; kernel_rfl
  t105 := by kernel_rfl
  a105 := by intro w; kernel_rfl
  z105 := by intro w; kernel_rfl
  v105 := by intro w; kernel_rfl
  t116 := by kernel_rfl
  a116 := by intro w; kernel_rfl
  z116 := by intro w; kernel_rfl
  t117 := by kernel_rfl
  a117 := by intro w; kernel_rfl
  z117 := by intro w; kernel_rfl
  v117 := by intro w; kernel_rfl
  t119 := by kernel_rfl
  a119 := by intro w; kernel_rfl
  z119 := by intro w; kernel_rfl
  t124 := by kernel_rfl
  a124 := by intro w; kernel_rfl
  z124 := by intro w; kernel_rfl
  v124 := by intro w; kernel_rfl
  t138 := by kernel_rfl
  a138 := by intro w; kernel_rfl
  z138 := by intro w; kernel_rfl
  v138 := by intro w; kernel_rfl
  t139 := by kernel_rfl
  a139 := by intro w; kernel_rfl
  z139 := by intro w; kernel_rfl
  v139 := by intro w; kernel_rfl
  g3 := by kernel_rfl
  g4 := by kernel_rfl }
theorem lay161 : Lays.n161 Tryz.prog shRen := {
  mixed := by kernel_rfl
  f119 := by kernel_rfl
  f137 := by kernel_rfl
  f151 := by kernel_rfl
  f152 := by kernel_rfl
  f161 := by kernel_rfl
  f197 := by kernel_rfl
  f217 := by kernel_rfl
  f224 := by kernel_rfl
  f225 := by kernel_rfl
  f227 := by kernel_rfl
  f228 := by kernel_rfl
  f231 := by kernel_rfl
  f233 := by kernel_rfl
  f235 := by kernel_rfl
  f260 := by kernel_rfl
  f266 := by kernel_rfl
  t0 := by kernel_rfl
  a0 := by intro w; kernel_rfl
  z0 := by intro w; kernel_rfl
  v0 := by intro w; kernel_rfl
  t3 := by kernel_rfl
  a3 := by intro w; kernel_rfl
  z3 := by intro w; kernel_rfl
  v3 := by intro w; kernel_rfl
  t4 := by kernel_rfl
  a4 := by intro w; kernel_rfl
  z4 := by intro w; kernel_rfl
  v4 := by intro w; kernel_rfl
  t5 := by kernel_rfl
  a5 := by intro w; kernel_rfl
  z5 := by intro w; kernel_rfl
  v5 := by intro w; kernel_rfl
  t9 := by kernel_rfl
  a9 := by intro w; kernel_rfl
  z9 := by intro w; kernel_rfl
  v9 := by intro w; kernel_rfl
  t21 := by kernel_rfl
  a21 := by intro w; kernel_rfl
  z21 := by intro w; kernel_rfl
  v21 := by intro w; kernel_rfl
  t46 := by kernel_rfl
  a46 := by intro w; kernel_rfl
  z46 := by intro w; kernel_rfl
  v46 := by intro w; kernel_rfl
  t105 := by kernel_rfl
  a105 := by intro w; kernel_rfl
  z105 := by intro w; kernel_rfl
  v105 := by intro w; kernel_rfl
  t116 := by kernel_rfl
  a116 := by intro w; kernel_rfl
  z116 := by intro w; kernel_rfl
  t117 := by kernel_rfl
  a117 := by intro w; kernel_rfl
  z117 := by intro w; kernel_rfl
  v117 := by intro w; kernel_rfl
  t119 := by kernel_rfl
  a119 := by intro w; kernel_rfl
  z119 := by intro w; kernel_rfl
  t124 := by kernel_rfl
  a124 := by intro w; kernel_rfl
  z124 := by intro w; kernel_rfl
  v124 := by intro w; kernel_rfl
  t138 := by kernel_rfl
  a138 := by intro w; kernel_rfl
  z138 := by intro w; kernel_rfl
  v138 := by intro w; kernel_rfl
  t139 := by kernel_rfl
  a139 := by intro w; kernel_rfl
  z139 := by intro w; kernel_rfl
  v139 := by intro w; kernel_rfl
  g3 := by kernel_rfl
  g4 := by kernel_rfl }
theorem lay137 : Lays.n137 Tryz.prog shRen := {
  mixed := by kernel_rfl
  f137 := by kernel_rfl
  f217 := by kernel_rfl
  f266 := by kernel_rfl
  t3 := by kernel_rfl
  a3 := by intro w; kernel_rfl
  z3 := by intro w; kernel_rfl
  v3 := by intro w; kernel_rfl
  t5 := by kernel_rfl
  a5 := by intro w; kernel_rfl
  z5 := by intro w; kernel_rfl
  v5 := by intro w; kernel_rfl
  t9 := by kernel_rfl
  a9 := by intro w; kernel_rfl
  z9 := by intro w; kernel_rfl
  v9 := by intro w; kernel_rfl }
theorem lay138 : Lays.n138 Tryz.prog shRen := {
  mixed := by kernel_rfl
  f138 := by kernel_rfl
  f143 := by kernel_rfl
  f195 := by kernel_rfl
  f217 := by kernel_rfl
  f218 := by kernel_rfl
  f219 := by kernel_rfl
  f224 := by kernel_rfl
  f225 := by kernel_rfl
  f266 := by kernel_rfl
  f267 := by kernel_rfl
  f314 := by kernel_rfl
  t0 := by kernel_rfl
  a0 := by intro w; kernel_rfl
  z0 := by intro w; kernel_rfl
  v0 := by intro w; kernel_rfl
  t3 := by kernel_rfl
  a3 := by intro w; kernel_rfl
  z3 := by intro w; kernel_rfl
  v3 := by intro w; kernel_rfl
  t4 := by kernel_rfl
  a4 := by intro w; kernel_rfl
  z4 := by intro w; kernel_rfl
  v4 := by intro w; kernel_rfl
  t5 := by kernel_rfl
  a5 := by intro w; kernel_rfl
  z5 := by intro w; kernel_rfl
  v5 := by intro w; kernel_rfl
  t9 := by kernel_rfl
  a9 := by intro w; kernel_rfl
  z9 := by intro w; kernel_rfl
  v9 := by intro w; kernel_rfl
  t46 := by kernel_rfl
  a46 := by intro w; kernel_rfl
  z46 := by intro w; kernel_rfl
  v46 := by intro w; kernel_rfl
  t51 := by kernel_rfl
  a51 := by intro w; kernel_rfl
  z51 := by intro w; kernel_rfl
  v51 := by intro w; kernel_rfl
  t146 := by kernel_rfl
  a146 := by intro w; kernel_rfl
  z146 := by intro w; kernel_rfl
  v146 := by intro w; kernel_rfl
  g1 := by kernel_rfl }
theorem lay143 : Lays.n143 Tryz.prog shRen := {
  mixed := by kernel_rfl
  f143 := by kernel_rfl
  f217 := by kernel_rfl
  f219 := by kernel_rfl
  f224 := by kernel_rfl
  f225 := by kernel_rfl
  f266 := by kernel_rfl
  f267 := by kernel_rfl
  f314 := by kernel_rfl
  t3 := by kernel_rfl
  a3 := by intro w; kernel_rfl
  z3 := by intro w; kernel_rfl
  v3 := by intro w; kernel_rfl
  t4 := by kernel_rfl
  a4 := by intro w; kernel_rfl
  z4 := by intro w; kernel_rfl
  v4 := by intro w; kernel_rfl
  t5 := by kernel_rfl
  a5 := by intro w; kernel_rfl
  z5 := by intro w; kernel_rfl
  v5 := by intro w; kernel_rfl
  t9 := by kernel_rfl
  a9 := by intro w; kernel_rfl
  z9 := by intro w; kernel_rfl
  v9 := by intro w; kernel_rfl
  t46 := by kernel_rfl
  a46 := by intro w; kernel_rfl
  z46 := by intro w; kernel_rfl
  v46 := by intro w; kernel_rfl
  t51 := by kernel_rfl
  a51 := by intro w; kernel_rfl
  z51 := by intro w; kernel_rfl
  v51 := by intro w; kernel_rfl
  t146 := by kernel_rfl
  a146 := by intro w; kernel_rfl
  z146 := by intro w; kernel_rfl
  v146 := by intro w; kernel_rfl
  g1 := by kernel_rfl }
theorem lay190 : Lays.n190 Tryz.prog shRen := {
  mixed := by kernel_rfl
  f125 := by kernel_rfl
  f128 := by kernel_rfl
  f129 := by kernel_rfl
  f190 := by kernel_rfl
  f258 := by kernel_rfl
  f302 := by kernel_rfl
  f303 := by kernel_rfl
  f304 := by kernel_rfl
  f305 := by kernel_rfl
  f306 := by kernel_rfl
  f307 := by kernel_rfl
  f308 := by kernel_rfl
  f309 := by kernel_rfl
  f310 := by kernel_rfl
  f329 := by kernel_rfl
  f330 := by kernel_rfl
  f333 := by kernel_rfl
  f334 := by kernel_rfl
  f335 := by kernel_rfl
  f336 := by kernel_rfl
  f344 := by kernel_rfl
  t0 := by kernel_rfl
  a0 := by intro w; kernel_rfl
  z0 := by intro w; kernel_rfl
  v0 := by intro w; kernel_rfl
  t3 := by kernel_rfl
  a3 := by intro w; kernel_rfl
  z3 := by intro w; kernel_rfl
  v3 := by intro w; kernel_rfl
  t4 := by kernel_rfl
  a4 := by intro w; kernel_rfl
  z4 := by intro w; kernel_rfl
  v4 := by intro w; kernel_rfl
  t5 := by kernel_rfl
  a5 := by intro w; kernel_rfl
  z5 := by intro w; kernel_rfl
  v5 := by intro w; kernel_rfl
  t9 := by kernel_rfl
  a9 := by intro w; kernel_rfl
  z9 := by intro w; kernel_rfl
  v9 := by intro w; kernel_rfl
  t31 := by kernel_rfl
  a31 := by intro w; kernel_rfl
  z31 := by intro w; kernel_rfl
  v31 := by intro w; kernel_rfl
  t46 := by kernel_rfl
  a46 := by intro w; kernel_rfl
  z46 := by intro w; kernel_rfl
  v46 := by intro w; kernel_rfl
  t51 := by kernel_rfl
  a51 := by intro w; kernel_rfl
  z51 := by intro w; kernel_rfl
  v51 := by intro w; kernel_rfl
  t53 := by kernel_rfl
  a53 := by intro w; kernel_rfl
  z53 := by intro w; kernel_rfl
  v53 := by intro w; kernel_rfl
  t131 := by kernel_rfl
  a131 := by intro w; kernel_rfl
  z131 := by intro w; kernel_rfl
  v131 := by intro w; kernel_rfl
  t182 := by kernel_rfl
  a182 := by intro w; kernel_rfl
  z182 := by intro w; kernel_rfl
  v182 := by intro w; kernel_rfl
  t183 := by kernel_rfl
  a183 := by intro w; kernel_rfl
  z183 := by intro w; kernel_rfl
  v183 := by intro w; kernel_rfl
  t218 := by kernel_rfl
  a218 := by intro w; kernel_rfl
  z218 := by intro w; kernel_rfl
  v218 := by intro w; kernel_rfl
  t222 := by kernel_rfl
  a222 := by intro w; kernel_rfl
  z222 := by intro w; kernel_rfl
  v222 := by intro w; kernel_rfl
  t228 := by kernel_rfl
  a228 := by intro w; kernel_rfl
  z228 := by intro w; kernel_rfl
  v228 := by intro w; kernel_rfl
  t229 := by kernel_rfl
  a229 := by intro w; kernel_rfl
  z229 := by intro w; kernel_rfl
  v229 := by intro w; kernel_rfl }
theorem lay194 : Lays.n194 Tryz.prog shRen := {
  mixed := by kernel_rfl
  f194 := by kernel_rfl
  t0 := by kernel_rfl
  a0 := by intro w; kernel_rfl
  z0 := by intro w; kernel_rfl
  v0 := by intro w; kernel_rfl
  t3 := by kernel_rfl
  a3 := by intro w; kernel_rfl
  z3 := by intro w; kernel_rfl
  v3 := by intro w; kernel_rfl
  t4 := by kernel_rfl
  a4 := by intro w; kernel_rfl
  z4 := by intro w; kernel_rfl
  v4 := by intro w; kernel_rfl
  t9 := by kernel_rfl
  a9 := by intro w; kernel_rfl
  z9 := by intro w; kernel_rfl
  v9 := by intro w; kernel_rfl
  t31 := by kernel_rfl
  a31 := by intro w; kernel_rfl
  z31 := by intro w; kernel_rfl
  v31 := by intro w; kernel_rfl }
theorem lay219 : Lays.n219 Tryz.prog shRen := {
  mixed := by kernel_rfl
  f217 := by kernel_rfl
  f219 := by kernel_rfl
  f224 := by kernel_rfl
  f225 := by kernel_rfl
  f266 := by kernel_rfl
  f267 := by kernel_rfl
  f314 := by kernel_rfl
  t3 := by kernel_rfl
  a3 := by intro w; kernel_rfl
  z3 := by intro w; kernel_rfl
  v3 := by intro w; kernel_rfl
  t4 := by kernel_rfl
  a4 := by intro w; kernel_rfl
  z4 := by intro w; kernel_rfl
  v4 := by intro w; kernel_rfl
  t5 := by kernel_rfl
  a5 := by intro w; kernel_rfl
  z5 := by intro w; kernel_rfl
  v5 := by intro w; kernel_rfl
  t9 := by kernel_rfl
  a9 := by intro w; kernel_rfl
  z9 := by intro w; kernel_rfl
  v9 := by intro w; kernel_rfl
  t46 := by kernel_rfl
  a46 := by intro w; kernel_rfl
  z46 := by intro w; kernel_rfl
  v46 := by intro w; kernel_rfl
  t51 := by kernel_rfl
  a51 := by intro w; kernel_rfl
  z51 := by intro w; kernel_rfl
  v51 := by intro w; kernel_rfl
  t146 := by kernel_rfl
  a146 := by intro w; kernel_rfl
  z146 := by intro w; kernel_rfl
  v146 := by intro w; kernel_rfl
  g1 := by kernel_rfl }
end Go.Ab
namespace Go.Ab
open Go Go.RowKit Go.Proofs Go.Shelf
set_option maxRecDepth 100000
set_option maxHeartbeats 4000000
def shRenJ : Ren := ⟨fun | 156 => 44 | 165 => 78 | 166 => 79 | 169 => 80 | 240 => 106 | 241 => 107 | 276 => 142 | 277 => 143 | n => n, fun | 31 => 42 | 37 => 60 | 70 => 96 | 72 => 98 | 75 => 101 | 76 => 102 | 80 => 104 | 127 => 126 | 164 => 155 | n => n, fun | n => n⟩
theorem lay156 : Lays.n156 Tryz.prog shRenJ := {
  mixed := by kernel_rfl
  f156 := by kernel_rfl
  f165 := by kernel_rfl
  f166 := by kernel_rfl
  f169 := by kernel_rfl
  f240 := by kernel_rfl
  f241 := by kernel_rfl
  f276 := by kernel_rfl
  f277 := by kernel_rfl
  t0 := by kernel_rfl
  a0 := by intro w; kernel_rfl
  z0 := by intro w; kernel_rfl
  v0 := by intro w; kernel_rfl
  t3 := by kernel_rfl
  a3 := by intro w; kernel_rfl
  z3 := by intro w; kernel_rfl
  v3 := by intro w; kernel_rfl
  t4 := by kernel_rfl
  a4 := by intro w; kernel_rfl
  z4 := by intro w; kernel_rfl
  v4 := by intro w; kernel_rfl
  t9 := by kernel_rfl
  a9 := by intro w; kernel_rfl
  z9 := by intro w; kernel_rfl
  v9 := by intro w; kernel_rfl
  t20 := by kernel_rfl
  a20 := by intro w; kernel_rfl
  z20 := by intro w; kernel_rfl
  v20 := by intro w; kernel_rfl
  t31 := by kernel_rfl
  a31 := by intro w; kernel_rfl
  z31 := by intro w; kernel_rfl
  v31 := by intro w; kernel_rfl
  t37 := by kernel_rfl
  a37 := by intro w; kernel_rfl
  z37 := by intro w; kernel_rfl
  v37 := by intro w; kernel_rfl
  t70 := by kernel_rfl
  a70 := by intro w; kernel_rfl
  z70 := by intro w; kernel_rfl
  v70 := by intro w; kernel_rfl
  t72 := by kernel_rfl
  a72 := by intro w; kernel_rfl
  z72 := by intro w; kernel_rfl
  v72 := by intro w; kernel_rfl
  t75 := by kernel_rfl
  a75 := by intro w; kernel_rfl
  z75 := by intro w; kernel_rfl
  v75 := by intro w; kernel_rfl
  t76 := by kernel_rfl
  a76 := by intro w; kernel_rfl
  z76 := by intro w; kernel_rfl
  v76 := by intro w; kernel_rfl
  t127 := by kernel_rfl
  a127 := by intro w; kernel_rfl
  z127 := by intro w; kernel_rfl
  v127 := by intro w; kernel_rfl
  t164 := by kernel_rfl
  a164 := by intro w; kernel_rfl
  z164 := by intro w; kernel_rfl
  v164 := by intro w; kernel_rfl }
theorem extraJ : Builder.Extra Tryz.prog shRenJ := {
  t5 := by kernel_rfl
  a5 := by intro w; kernel_rfl
  z5 := by intro w; kernel_rfl
  v5 := by intro w; kernel_rfl
  infoByte := by kernel_rfl
  cellsByte := by kernel_rfl
  sizeByte := by kernel_rfl
  neB5 := by decide
  sizeBuilder := by kernel_rfl
  liesBuilder := by kernel_rfl }
noncomputable def g_join : List D → Option D := encSpec (fun x : List (List UInt8) × List UInt8 => [.list (x.1.map .str), .str x.2]) (fun x => x.1.length ≤ 1099511627776 ∧ (Lib.join x.1 x.2).length ≤ 1099511627776) (fun x => .str (Lib.join x.1 x.2))
theorem g_join_eq {l : List (List UInt8)} {s : List UInt8} (h : l.length ≤ 1099511627776 ∧ (Lib.join l s).length ≤ 1099511627776) : g_join [.list (l.map .str), .str s] = some (.str (Lib.join l s)) := encSpec_eq (x := (l, s)) h fun y hy => by
  obtain ⟨y0, y1⟩ := y
  simp only [List.cons.injEq, and_true, D.str.injEq, D.list.injEq] at hy
  obtain ⟨h1, rfl⟩ := hy
  rw [(strs_ie y0 l).mp h1]
theorem flat_strs (l : List (List UInt8)) : Ab.flat (l.map D.str) = l.map D.str := by
  induction l with
  | nil => rfl
  | cons x l ih =>
    rw [Ab.flat] at ih
    rw [List.map_cons, Ab.flat, List.flatMap_cons, ih]
    rfl
theorem join_calls {W : World} {B : Nat → Prop} {l : List (List UInt8)} {s : List UInt8} {v : Value} (hB : ∀ b, B b → b < W.heap.size) (h : DR W B (.list (l.map .str)) v) (hx1 : l.length ≤ 1099511627776) (hx2 : (Lib.join l s).length ≤ 1099511627776) :
    Calls Tryz.prog 44 #[v, .string ⟨s.toArray⟩] W fun e W' => e = .returned (.string ⟨(Lib.join l s).toArray⟩) ∧ Below W.heap.size W W' := by
  obtain ⟨ao, cap, e0, hl⟩ := h.list_inv
  rw [e0, List.length_map]
  have hmap : ∀ xs : List (List UInt8), (xs.map (fun x => (⟨x.toArray⟩ : ByteArray))).map (·.data.toList) = xs := fun xs => by
    rw [List.map_map]
    exact (List.map_congr_left (fun _ _ => rfl)).trans (List.map_id _)
  by_cases hn : l = []
  · subst hn
    exact (Any.strings_Join_none lay156 extraJ ao cap ⟨s.toArray⟩ W).mono fun e w' h => ⟨h.1, h.2 ▸ Below.refl _ _⟩
  rcases hl with hl | ⟨a, sz, u, rfl, hb, hc, hs, ho, hm, hh⟩
  · exact absurd (List.map_eq_nil_iff.1 hl) hn
  rw [flat_strs] at hm hh
  have hcell : ∀ (j : Nat) (hj : j < l.length), W.cell? (a.add j) = some (.string ⟨(l[j]).toArray⟩) := fun j hj => by
    have k := hh j (by simpa using hj)
    rw [List.getElem_map] at k
    rw [hm j (by simpa using hj), k.str_eq]
  have hsp : a.spot = none := by
    have h := hcell 0 (List.length_pos_iff.2 hn)
    rw [show a.add 0 = a from rfl] at h
    unfold World.cell? at h
    split at h
    · split at h
      · cases h
      · rename_i hq; simpa using hq
    · cases h
  obtain ⟨bk, o, sp⟩ := a
  dsimp only at hsp hb
  subst hsp
  have hj := Any.strings_Join lay156 extraJ bk o cap (l.map (fun x => (⟨x.toArray⟩ : ByteArray))) ⟨s.toArray⟩ W (fun j x hj => by
    simp only [List.getElem?_map, Option.map_eq_some_iff] at hj
    obtain ⟨y, hy, rfl⟩ := hj
    obtain ⟨hj, rfl⟩ := List.getElem?_eq_some_iff.1 hy
    have h := hcell j hj
    cases j with
    | zero => exact h
    | succ j => exact h) (hB _ hb) (by simp only [List.length_map]; omega) (by simpa using hc) (by rw [hmap]; show (Lib.join l s).length ≤ _; omega)
  rw [hmap, List.length_map] at hj
  exact hj
theorem f_join_ok : PureOK Tryz.prog 44 true g_join := by
  intro ds d hd
  obtain ⟨⟨l, s⟩, rfl, ⟨hx1, hx2⟩, rfl⟩ := encSpec_some hd
  refine ⟨fun _ => .str _, fun w B vs hB hz hvs => ⟨⟨Tryz.f44, Tryz.func44, by kernel_rfl, by kernel_rfl⟩, ?_⟩⟩
  have hz2 : vs.size = 2 := hz
  have h0 : 0 < vs.size := by omega
  have h1 : 1 < vs.size := by omega
  have hv0 := hvs 0 (by simp) (vs[0]'h0) (Array.getElem?_eq_getElem h0)
  have hv1 := hvs 1 (by simp) (vs[1]'h1) (Array.getElem?_eq_getElem h1)
  have e : vs = #[vs[0]'h0, vs[1]'h1] := Array.ext hz2 fun i i1 i2 => by
    match i, i2 with
    | 0, _ => rfl
    | 1, _ => rfl
  have e1 : vs[1]'h1 = .string ⟨s.toArray⟩ := DR.str_eq hv1
  rw [e, e1]
  refine (join_calls hB hv0 hx1 hx2).mono fun e w' h => ⟨_, h.1, .str _, h.2⟩
end Go.Ab
namespace Go.Ab
open Go Go.RowKit Go.Proofs Go.Shelf
set_option maxRecDepth 100000
set_option maxHeartbeats 4000000
noncomputable def g_idx1 : List D → Option D := encSpec (fun x : List UInt8 × UInt8 => [.str x.1, .str [x.2]]) (fun x => x.1.length ≤ 1099511627776) (fun x => i64 (Lib.indexByte x.1 x.2))
theorem f_idx1_ok : PureOK Tryz.prog 76 true g_idx1 := pure_calls Tryz.func76 (by kernel_rfl) (by kernel_rfl) (fun _ => ⟨rfl, rfl⟩) fun x hs w =>
  (Any.strings_Index_one lay143 ⟨x.1.toArray⟩ x.2 w).mono fun e w' h => ⟨by rw [h.1]; simp [D.val], h.2 ▸ Below.refl _ _⟩
theorem g_idx1_eq {s : List UInt8} {b : UInt8} (h : s.length ≤ 1099511627776) : g_idx1 [.str s, .str [b]] = some (.int .i64 (Lib.indexByte s b)) := encSpec_eq (x := (s, b)) h fun y hy => by
  obtain ⟨y0, y1⟩ := y
  simp only [List.cons.injEq, and_true, D.str.injEq] at hy
  obtain ⟨rfl, rfl⟩ := hy
  rfl
noncomputable def g_cnt1 : List D → Option D := encSpec (fun x : List UInt8 × UInt8 => [.str x.1, .str [x.2]]) (fun x => x.1.length ≤ 1099511627776) (fun x => i64 (Lib.countByte x.1 x.2))
theorem f_cnt1_ok : PureOK Tryz.prog 41 true g_cnt1 := pure_calls Tryz.func41 (by kernel_rfl) (by kernel_rfl) (fun _ => ⟨rfl, rfl⟩) fun x hs w =>
  (Any.strings_Count_one lay138 ⟨x.1.toArray⟩ x.2 w).mono fun e w' h => ⟨by rw [h.1]; simp [D.val], h.2 ▸ Below.refl _ _⟩
theorem g_cnt1_eq {s : List UInt8} {b : UInt8} (h : s.length ≤ 1099511627776) : g_cnt1 [.str s, .str [b]] = some (.int .i64 (Lib.countByte s b)) := encSpec_eq (x := (s, b)) h fun y hy => by
  obtain ⟨y0, y1⟩ := y
  simp only [List.cons.injEq, and_true, D.str.injEq] at hy
  obtain ⟨rfl, rfl⟩ := hy
  rfl
end Go.Ab
namespace Go.Ab
open Go Go.RowKit Go.Proofs Go.Shelf
set_option maxRecDepth 100000
set_option maxHeartbeats 4000000
def cutset : List UInt8 := [97, 98, 99, 100, 101, 102, 103, 104, 105, 106, 107, 108, 109, 110, 111, 112, 113, 114, 115, 116, 117, 118, 119, 120, 121, 122, 48, 49, 50, 51, 52, 53, 54, 55, 56, 57, 45, 46]
theorem cut_ascii : ∀ (j : Nat) b, cutset[j]? = some b → b.toNat < 128 := by
  have h : ∀ b ∈ cutset, b.toNat < 128 := by decide
  intro j b hb
  exact h b (List.mem_of_getElem? hb)
noncomputable def g_trim : List D → Option D := encSpec (fun s : List UInt8 => [.str s, .str cutset]) (fun s => s.length ≤ 1099511627776) (fun s => .str (Lib.trimS s cutset))
theorem f_trim_ok : PureOK Tryz.prog 85 true g_trim := pure_calls Tryz.func85 (by kernel_rfl) (by kernel_rfl) (fun _ => ⟨rfl, rfl⟩) fun s hs w =>
  (Any.strings_Trim_ascii lay160 (by intro w; kernel_rfl) (by kernel_rfl) ⟨s.toArray⟩ ⟨cutset.toArray⟩ w (by simp [ByteArray.size]; omega) (by decide) cut_ascii).mono fun e w' h => ⟨h.1, h.2⟩
noncomputable def g_trimL : List D → Option D := encSpec (fun s : List UInt8 => [.str s, .str cutset]) (fun s => s.length ≤ 1099511627776) (fun s => .str (Lib.trimLeftS s cutset))
theorem f_trimL_ok : PureOK Tryz.prog 83 true g_trimL := pure_calls Tryz.func83 (by kernel_rfl) (by kernel_rfl) (fun _ => ⟨rfl, rfl⟩) fun s hs w =>
  (Any.strings_TrimLeft_ascii lay161 (by intro w; kernel_rfl) (by kernel_rfl) ⟨s.toArray⟩ ⟨cutset.toArray⟩ w (by decide) cut_ascii).mono fun e w' h => ⟨h.1, h.2⟩
theorem g_trim_eq {s : List UInt8} (h : s.length ≤ 1099511627776) : g_trim [.str s, .str cutset] = some (.str (Lib.trimS s cutset)) := encSpec_eq (x := s) h fun y hy => by
  simp only [List.cons.injEq, and_true, D.str.injEq] at hy
  rw [hy]
theorem g_trimL_eq {s : List UInt8} (h : s.length ≤ 1099511627776) : g_trimL [.str s, .str cutset] = some (.str (Lib.trimLeftS s cutset)) := encSpec_eq (x := s) h fun y hy => by
  simp only [List.cons.injEq, and_true, D.str.injEq] at hy
  rw [hy]
noncomputable def g_idxByte : List D → Option D := encSpec (fun x : List UInt8 × UInt8 => [.str x.1, u8 x.2.toNat]) (fun x => x.1.length ≤ 1099511627776) (fun x => i64 (Lib.indexByte x.1 x.2))
theorem f_idxByte_ok : PureOK Tryz.prog 120 true g_idxByte := pure_calls Tryz.func120 (by kernel_rfl) (by kernel_rfl) (fun _ => ⟨rfl, rfl⟩) fun x hs w =>
  (Any.strings_IndexByte lay137 ⟨x.1.toArray⟩ x.2.toNat w).mono fun e w' h => ⟨by rw [h.1]; simp [D.val], h.2 ▸ Below.refl _ _⟩
theorem g_idxByte_eq {s : List UInt8} {b : UInt8} (h : s.length ≤ 1099511627776) : g_idxByte [.str s, .int .u8 b.toNat] = some (.int .i64 (Lib.indexByte s b)) := encSpec_eq (x := (s, b)) h fun y hy => by
  obtain ⟨y0, y1⟩ := y
  simp only [List.cons.injEq, and_true, D.str.injEq, D.int.injEq, true_and, Int.natCast_inj, UInt8.toNat_inj] at hy
  obtain ⟨rfl, rfl⟩ := hy
  rfl
end Go.Ab
