/-
  One text of the proof (own work): contracts of functions of the program, by the abstract machine.
-/
import Derived.Test.YtmcgfohokniepaaX17
import Derived.Test.YtmcgfohokniepaaX21
import Derived.Test.YtmcgfohokniepaaX24
import Derived.Test.YtmcgfohokniepaaX18
import Derived.Test.YtmcgfohokniepaaX25
set_option linter.unusedVariables false
set_option linter.unusedSimpArgs false
namespace Go.Ab
open Go Go.RowKit Go.Proofs
@[go_sem] theorem ty_size46 : tsize Try.prog 46 = (some 1) := by kernel_rfl
@[go_sem] theorem ty_bytes46 : tbytes Try.prog 46 = (some 8) := by kernel_rfl
@[go_sem] theorem ty_zero46 : tzero Try.prog 46 = (some Value.nilFunc) := by kernel_rfl
@[go_sem] theorem ty_agg46 : tagg Try.prog 46 = (some false) := by kernel_rfl
@[go_sem] theorem ty_und46 : Program.underlying Try.prog 46 = (some (TypeDesc.func #[31] #[34] false)) := by kernel_rfl
@[go_sem] theorem ty_elem46 : telem Try.prog 46 = none := by kernel_rfl
@[go_sem] theorem ty_size47 : tsize Try.prog 47 = (some 1) := by kernel_rfl
@[go_sem] theorem ty_bytes47 : tbytes Try.prog 47 = (some 24) := by kernel_rfl
@[go_sem] theorem ty_zero47 : tzero Try.prog 47 = (some (Value.slice none 0 0)) := by kernel_rfl
@[go_sem] theorem ty_agg47 : tagg Try.prog 47 = (some false) := by kernel_rfl
@[go_sem] theorem ty_und47 : Program.underlying Try.prog 47 = (some (TypeDesc.slice 106)) := by kernel_rfl
@[go_sem] theorem ty_elem47 : telem Try.prog 47 = (some 106) := by kernel_rfl
@[go_sem] theorem ty_size49 : tsize Try.prog 49 = (some 1) := by kernel_rfl
@[go_sem] theorem ty_bytes49 : tbytes Try.prog 49 = (some 0) := by kernel_rfl
@[go_sem] theorem ty_zero49 : tzero Try.prog 49 = (some (Value.tuple #[(Value.agg #[(Value.slice none 0 0), (Value.slice none 0 0), (Value.slice none 0 0), (Value.slice none 0 0)]), (Value.bool false)])) := by kernel_rfl
@[go_sem] theorem ty_agg49 : tagg Try.prog 49 = (some false) := by kernel_rfl
@[go_sem] theorem ty_und49 : Program.underlying Try.prog 49 = (some (TypeDesc.tuple #[30, 4])) := by kernel_rfl
@[go_sem] theorem ty_elem49 : telem Try.prog 49 = none := by kernel_rfl
@[go_sem] theorem ty_size81 : tsize Try.prog 81 = (some 1) := by kernel_rfl
@[go_sem] theorem ty_bytes81 : tbytes Try.prog 81 = (some 24) := by kernel_rfl
@[go_sem] theorem ty_zero81 : tzero Try.prog 81 = (some (Value.slice none 0 0)) := by kernel_rfl
@[go_sem] theorem ty_agg81 : tagg Try.prog 81 = (some false) := by kernel_rfl
@[go_sem] theorem ty_und81 : Program.underlying Try.prog 81 = (some (TypeDesc.slice 113)) := by kernel_rfl
@[go_sem] theorem ty_elem81 : telem Try.prog 81 = (some 113) := by kernel_rfl
@[go_sem] theorem ty_size83 : tsize Try.prog 83 = (some 1) := by kernel_rfl
@[go_sem] theorem ty_bytes83 : tbytes Try.prog 83 = (some 0) := by kernel_rfl
@[go_sem] theorem ty_zero83 : tzero Try.prog 83 = (some (Value.tuple #[(Value.agg #[(Value.slice none 0 0), (Value.slice none 0 0), (Value.slice none 0 0), (Value.slice none 0 0)]), (Value.int IntKind.i64 0), (Value.int IntKind.i64 0)])) := by kernel_rfl
@[go_sem] theorem ty_agg83 : tagg Try.prog 83 = (some false) := by kernel_rfl
@[go_sem] theorem ty_und83 : Program.underlying Try.prog 83 = (some (TypeDesc.tuple #[30, 3, 34])) := by kernel_rfl
@[go_sem] theorem ty_elem83 : telem Try.prog 83 = none := by kernel_rfl
@[go_sem] theorem ty_size103 : tsize Try.prog 103 = (some 1) := by kernel_rfl
@[go_sem] theorem ty_bytes103 : tbytes Try.prog 103 = (some 2) := by kernel_rfl
@[go_sem] theorem ty_zero103 : tzero Try.prog 103 = (some (Value.int IntKind.u16 0)) := by kernel_rfl
@[go_sem] theorem ty_agg103 : tagg Try.prog 103 = (some false) := by kernel_rfl
@[go_sem] theorem ty_und103 : Program.underlying Try.prog 103 = (some (TypeDesc.int IntKind.u16)) := by kernel_rfl
@[go_sem] theorem ty_elem103 : telem Try.prog 103 = none := by kernel_rfl
@[go_sem] theorem ty_size104 : tsize Try.prog 104 = (some 2) := by kernel_rfl
@[go_sem] theorem ty_bytes104 : tbytes Try.prog 104 = (some 2) := by kernel_rfl
@[go_sem] theorem ty_zero104 : tzero Try.prog 104 = (some (Value.agg #[(Value.int IntKind.u8 0), (Value.int IntKind.u8 0)])) := by kernel_rfl
@[go_sem] theorem ty_agg104 : tagg Try.prog 104 = (some true) := by kernel_rfl
@[go_sem] theorem ty_und104 : Program.underlying Try.prog 104 = (some (TypeDesc.array 2 5)) := by kernel_rfl
@[go_sem] theorem ty_elem104 : telem Try.prog 104 = none := by kernel_rfl
@[go_sem] theorem ty_size106 : tsize Try.prog 106 = (some 8) := by kernel_rfl
@[go_sem] theorem ty_bytes106 : tbytes Try.prog 106 = (some 10) := by kernel_rfl
@[go_sem] theorem ty_zero106 : tzero Try.prog 106 = (some (Value.agg #[(Value.int IntKind.u8 0), (Value.int IntKind.u8 0), (Value.int IntKind.u8 0), (Value.int IntKind.u8 0), (Value.int IntKind.u8 0), (Value.int IntKind.u16 0), (Value.int IntKind.u8 0), (Value.int IntKind.u8 0)])) := by kernel_rfl
@[go_sem] theorem ty_agg106 : tagg Try.prog 106 = (some true) := by kernel_rfl
@[go_sem] theorem ty_field106_0 : tfield Try.prog 106 0 = (some ⟨"Kind", 5, 0, false, "", "", 0⟩) := by kernel_rfl
@[go_sem] theorem ty_field106_1 : tfield Try.prog 106 1 = (some ⟨"Author", 5, 1, false, "", "", 1⟩) := by kernel_rfl
@[go_sem] theorem ty_field106_2 : tfield Try.prog 106 2 = (some ⟨"Question", 5, 2, false, "", "", 2⟩) := by kernel_rfl
@[go_sem] theorem ty_field106_3 : tfield Try.prog 106 3 = (some ⟨"Answer", 5, 3, false, "", "", 3⟩) := by kernel_rfl
@[go_sem] theorem ty_field106_4 : tfield Try.prog 106 4 = (some ⟨"Until", 5, 4, false, "", "", 4⟩) := by kernel_rfl
@[go_sem] theorem ty_field106_5 : tfield Try.prog 106 5 = (some ⟨"Follows", 103, 5, false, "", "", 6⟩) := by kernel_rfl
@[go_sem] theorem ty_field106_6 : tfield Try.prog 106 6 = (some ⟨"Target", 104, 6, false, "", "", 8⟩) := by kernel_rfl
@[go_sem] theorem ty_build106 (parts : List (Nat × AV)) : abuild Try.prog 106 parts = (setCells [(AV.data (D.int IntKind.u8 0)), (AV.data (D.int IntKind.u8 0)), (AV.data (D.int IntKind.u8 0)), (AV.data (D.int IntKind.u8 0)), (AV.data (D.int IntKind.u8 0)), (AV.data (D.int IntKind.u16 0)), (AV.data (D.int IntKind.u8 0)), (AV.data (D.int IntKind.u8 0))] ([(0, 1), (1, 1), (2, 1), (3, 1), (4, 1), (5, 1), (6, 2)][·]?) parts).map mkAgg := abuild_of (z := (Value.agg #[(Value.int IntKind.u8 0), (Value.int IntKind.u8 0), (Value.int IntKind.u8 0), (Value.int IntKind.u8 0), (Value.int IntKind.u8 0), (Value.int IntKind.u16 0), (Value.int IntKind.u8 0), (Value.int IntKind.u8 0)])) (by kernel_rfl) (by kernel_rfl) (by kernel_rfl)
@[go_sem] theorem ty_size113 : tsize Try.prog 113 = (some 18) := by kernel_rfl
@[go_sem] theorem ty_bytes113 : tbytes Try.prog 113 = (some 280) := by kernel_rfl
@[go_sem] theorem ty_zero113 : tzero Try.prog 113 = (some (Value.agg #[(Value.int IntKind.i64 0), (Value.string ⟨#[]⟩), (Value.int IntKind.i64 0), (Value.slice none 0 0), (Value.string ⟨#[]⟩), (Value.int IntKind.i64 0), (Value.int IntKind.i64 0), (Value.string ⟨#[]⟩), (Value.string ⟨#[]⟩), (Value.string ⟨#[]⟩), (Value.string ⟨#[]⟩), (Value.string ⟨#[]⟩), (Value.int IntKind.i64 0), (Value.slice none 0 0), (Value.int IntKind.i64 0), (Value.slice none 0 0), (Value.slice none 0 0), (Value.slice none 0 0)])) := by kernel_rfl
@[go_sem] theorem ty_agg113 : tagg Try.prog 113 = (some true) := by kernel_rfl
@[go_sem] theorem ty_field113_0 : tfield Try.prog 113 0 = (some ⟨"Kind", 3, 0, false, "", "", 0⟩) := by kernel_rfl
@[go_sem] theorem ty_field113_1 : tfield Try.prog 113 1 = (some ⟨"Author", 9, 1, false, "", "", 8⟩) := by kernel_rfl
@[go_sem] theorem ty_field113_2 : tfield Try.prog 113 2 = (some ⟨"Number", 3, 2, false, "", "", 24⟩) := by kernel_rfl
@[go_sem] theorem ty_field113_3 : tfield Try.prog 113 3 = (some ⟨"Names", 53, 3, false, "", "", 32⟩) := by kernel_rfl
@[go_sem] theorem ty_field113_4 : tfield Try.prog 113 4 = (some ⟨"Root", 9, 4, false, "", "", 56⟩) := by kernel_rfl
@[go_sem] theorem ty_field113_5 : tfield Try.prog 113 5 = (some ⟨"Key", 109, 5, false, "", "", 72⟩) := by kernel_rfl
@[go_sem] theorem ty_field113_6 : tfield Try.prog 113 6 = (some ⟨"Package", 9, 7, false, "", "", 88⟩) := by kernel_rfl
@[go_sem] theorem ty_field113_7 : tfield Try.prog 113 7 = (some ⟨"Digest", 9, 8, false, "", "", 104⟩) := by kernel_rfl
@[go_sem] theorem ty_field113_8 : tfield Try.prog 113 8 = (some ⟨"Question", 9, 9, false, "", "", 120⟩) := by kernel_rfl
@[go_sem] theorem ty_field113_9 : tfield Try.prog 113 9 = (some ⟨"Scope", 9, 10, false, "", "", 136⟩) := by kernel_rfl
@[go_sem] theorem ty_field113_10 : tfield Try.prog 113 10 = (some ⟨"Answer", 9, 11, false, "", "", 152⟩) := by kernel_rfl
@[go_sem] theorem ty_field113_11 : tfield Try.prog 113 11 = (some ⟨"Until", 3, 12, false, "", "", 168⟩) := by kernel_rfl
@[go_sem] theorem ty_field113_12 : tfield Try.prog 113 12 = (some ⟨"Targets", 53, 13, false, "", "", 176⟩) := by kernel_rfl
@[go_sem] theorem ty_field113_13 : tfield Try.prog 113 13 = (some ⟨"Signature", 111, 14, false, "", "", 200⟩) := by kernel_rfl
@[go_sem] theorem ty_build113 (parts : List (Nat × AV)) : abuild Try.prog 113 parts = (setCells [(AV.data (D.int IntKind.i64 0)), (AV.data (D.str [])), (AV.data (D.int IntKind.i64 0)), AV.nils, (AV.data (D.str [])), (AV.data (D.int IntKind.i64 0)), (AV.data (D.int IntKind.i64 0)), (AV.data (D.str [])), (AV.data (D.str [])), (AV.data (D.str [])), (AV.data (D.str [])), (AV.data (D.str [])), (AV.data (D.int IntKind.i64 0)), AV.nils, (AV.data (D.int IntKind.i64 0)), AV.nils, AV.nils, AV.nils] ([(0, 1), (1, 1), (2, 1), (3, 1), (4, 1), (5, 2), (7, 1), (8, 1), (9, 1), (10, 1), (11, 1), (12, 1), (13, 1), (14, 4)][·]?) parts).map mkAgg := abuild_of (z := (Value.agg #[(Value.int IntKind.i64 0), (Value.string ⟨#[]⟩), (Value.int IntKind.i64 0), (Value.slice none 0 0), (Value.string ⟨#[]⟩), (Value.int IntKind.i64 0), (Value.int IntKind.i64 0), (Value.string ⟨#[]⟩), (Value.string ⟨#[]⟩), (Value.string ⟨#[]⟩), (Value.string ⟨#[]⟩), (Value.string ⟨#[]⟩), (Value.int IntKind.i64 0), (Value.slice none 0 0), (Value.int IntKind.i64 0), (Value.slice none 0 0), (Value.slice none 0 0), (Value.slice none 0 0)])) (by kernel_rfl) (by kernel_rfl) (by kernel_rfl)
@[go_sem] theorem ty_size120 : tsize Try.prog 120 = (some 1) := by kernel_rfl
@[go_sem] theorem ty_bytes120 : tbytes Try.prog 120 = (some 24) := by kernel_rfl
@[go_sem] theorem ty_zero120 : tzero Try.prog 120 = (some (Value.slice none 0 0)) := by kernel_rfl
@[go_sem] theorem ty_agg120 : tagg Try.prog 120 = (some false) := by kernel_rfl
@[go_sem] theorem ty_und120 : Program.underlying Try.prog 120 = (some (TypeDesc.slice 142)) := by kernel_rfl
@[go_sem] theorem ty_elem120 : telem Try.prog 120 = (some 142) := by kernel_rfl
@[go_sem] theorem ty_size121 : tsize Try.prog 121 = (some 5) := by kernel_rfl
@[go_sem] theorem ty_bytes121 : tbytes Try.prog 121 = (some 120) := by kernel_rfl
@[go_sem] theorem ty_zero121 : tzero Try.prog 121 = (some (Value.agg #[(Value.slice none 0 0), (Value.slice none 0 0), (Value.slice none 0 0), (Value.slice none 0 0), (Value.slice none 0 0)])) := by kernel_rfl
@[go_sem] theorem ty_agg121 : tagg Try.prog 121 = (some true) := by kernel_rfl
@[go_sem] theorem ty_field121_0 : tfield Try.prog 121 0 = (some ⟨"L", 81, 0, false, "", "", 0⟩) := by kernel_rfl
@[go_sem] theorem ty_field121_1 : tfield Try.prog 121 1 = (some ⟨"IDs", 53, 1, false, "", "", 24⟩) := by kernel_rfl
@[go_sem] theorem ty_field121_2 : tfield Try.prog 121 2 = (some ⟨"Ranks", 119, 2, false, "", "", 48⟩) := by kernel_rfl
@[go_sem] theorem ty_field121_3 : tfield Try.prog 121 3 = (some ⟨"Pasts", 120, 3, false, "", "", 72⟩) := by kernel_rfl
@[go_sem] theorem ty_field121_4 : tfield Try.prog 121 4 = (some ⟨"Order", 119, 4, false, "", "", 96⟩) := by kernel_rfl
@[go_sem] theorem ty_build121 (parts : List (Nat × AV)) : abuild Try.prog 121 parts = (setCells [AV.nils, AV.nils, AV.nils, AV.nils, AV.nils] ([(0, 1), (1, 1), (2, 1), (3, 1), (4, 1)][·]?) parts).map mkAgg := abuild_of (z := (Value.agg #[(Value.slice none 0 0), (Value.slice none 0 0), (Value.slice none 0 0), (Value.slice none 0 0), (Value.slice none 0 0)])) (by kernel_rfl) (by kernel_rfl) (by kernel_rfl)
@[go_sem] theorem ty_size122 : tsize Try.prog 122 = (some 5) := by kernel_rfl
@[go_sem] theorem ty_bytes122 : tbytes Try.prog 122 = (some 120) := by kernel_rfl
@[go_sem] theorem ty_zero122 : tzero Try.prog 122 = (some (Value.agg #[(Value.slice none 0 0), (Value.slice none 0 0), (Value.slice none 0 0), (Value.slice none 0 0), (Value.slice none 0 0)])) := by kernel_rfl
@[go_sem] theorem ty_agg122 : tagg Try.prog 122 = (some true) := by kernel_rfl
@[go_sem] theorem ty_field122_0 : tfield Try.prog 122 0 = (some ⟨"L", 81, 0, false, "", "", 0⟩) := by kernel_rfl
@[go_sem] theorem ty_field122_1 : tfield Try.prog 122 1 = (some ⟨"IDs", 53, 1, false, "", "", 24⟩) := by kernel_rfl
@[go_sem] theorem ty_field122_2 : tfield Try.prog 122 2 = (some ⟨"Ranks", 119, 2, false, "", "", 48⟩) := by kernel_rfl
@[go_sem] theorem ty_field122_3 : tfield Try.prog 122 3 = (some ⟨"Pasts", 120, 3, false, "", "", 72⟩) := by kernel_rfl
@[go_sem] theorem ty_field122_4 : tfield Try.prog 122 4 = (some ⟨"Order", 119, 4, false, "", "", 96⟩) := by kernel_rfl
@[go_sem] theorem ty_build122 (parts : List (Nat × AV)) : abuild Try.prog 122 parts = (setCells [AV.nils, AV.nils, AV.nils, AV.nils, AV.nils] ([(0, 1), (1, 1), (2, 1), (3, 1), (4, 1)][·]?) parts).map mkAgg := abuild_of (z := (Value.agg #[(Value.slice none 0 0), (Value.slice none 0 0), (Value.slice none 0 0), (Value.slice none 0 0), (Value.slice none 0 0)])) (by kernel_rfl) (by kernel_rfl) (by kernel_rfl)
@[go_sem] theorem ty_size123 : tsize Try.prog 123 = (some 1) := by kernel_rfl
@[go_sem] theorem ty_bytes123 : tbytes Try.prog 123 = (some 0) := by kernel_rfl
@[go_sem] theorem ty_zero123 : tzero Try.prog 123 = (some (Value.tuple #[(Value.agg #[(Value.slice none 0 0), (Value.slice none 0 0), (Value.slice none 0 0), (Value.slice none 0 0), (Value.slice none 0 0)]), (Value.int IntKind.i64 0), (Value.int IntKind.i64 0)])) := by kernel_rfl
@[go_sem] theorem ty_agg123 : tagg Try.prog 123 = (some false) := by kernel_rfl
@[go_sem] theorem ty_und123 : Program.underlying Try.prog 123 = (some (TypeDesc.tuple #[122, 3, 34])) := by kernel_rfl
@[go_sem] theorem ty_elem123 : telem Try.prog 123 = none := by kernel_rfl
@[go_sem] theorem ty_size127 : tsize Try.prog 127 = (some 1) := by kernel_rfl
@[go_sem] theorem ty_bytes127 : tbytes Try.prog 127 = (some 8) := by kernel_rfl
@[go_sem] theorem ty_zero127 : tzero Try.prog 127 = (some (Value.pointer none)) := by kernel_rfl
@[go_sem] theorem ty_agg127 : tagg Try.prog 127 = (some false) := by kernel_rfl
@[go_sem] theorem ty_und127 : Program.underlying Try.prog 127 = (some (TypeDesc.pointer 30)) := by kernel_rfl
@[go_sem] theorem ty_elem127 : telem Try.prog 127 = none := by kernel_rfl
@[go_sem] theorem ty_size142 : tsize Try.prog 142 = (some 1) := by kernel_rfl
@[go_sem] theorem ty_bytes142 : tbytes Try.prog 142 = (some 24) := by kernel_rfl
@[go_sem] theorem ty_zero142 : tzero Try.prog 142 = (some (Value.slice none 0 0)) := by kernel_rfl
@[go_sem] theorem ty_agg142 : tagg Try.prog 142 = (some false) := by kernel_rfl
@[go_sem] theorem ty_und142 : Program.underlying Try.prog 142 = (some (TypeDesc.slice 4)) := by kernel_rfl
@[go_sem] theorem ty_elem142 : telem Try.prog 142 = (some 4) := by kernel_rfl
@[go_sem] theorem ty_size147 : tsize Try.prog 147 = (some 5) := by kernel_rfl
@[go_sem] theorem ty_bytes147 : tbytes Try.prog 147 = (some 56) := by kernel_rfl
@[go_sem] theorem ty_zero147 : tzero Try.prog 147 = (some (Value.agg #[(Value.string ⟨#[]⟩), (Value.string ⟨#[]⟩), (Value.int IntKind.i64 0), (Value.int IntKind.i64 0), (Value.int IntKind.i64 0)])) := by kernel_rfl
@[go_sem] theorem ty_agg147 : tagg Try.prog 147 = (some true) := by kernel_rfl
@[go_sem] theorem ty_field147_0 : tfield Try.prog 147 0 = (some ⟨"Name", 9, 0, false, "", "", 0⟩) := by kernel_rfl
@[go_sem] theorem ty_field147_1 : tfield Try.prog 147 1 = (some ⟨"Root", 9, 1, false, "", "", 16⟩) := by kernel_rfl
@[go_sem] theorem ty_field147_2 : tfield Try.prog 147 2 = (some ⟨"Key", 109, 2, false, "", "", 32⟩) := by kernel_rfl
@[go_sem] theorem ty_field147_3 : tfield Try.prog 147 3 = (some ⟨"Next", 3, 4, false, "", "", 48⟩) := by kernel_rfl
@[go_sem] theorem ty_build147 (parts : List (Nat × AV)) : abuild Try.prog 147 parts = (setCells [(AV.data (D.str [])), (AV.data (D.str [])), (AV.data (D.int IntKind.i64 0)), (AV.data (D.int IntKind.i64 0)), (AV.data (D.int IntKind.i64 0))] ([(0, 1), (1, 1), (2, 2), (4, 1)][·]?) parts).map mkAgg := abuild_of (z := (Value.agg #[(Value.string ⟨#[]⟩), (Value.string ⟨#[]⟩), (Value.int IntKind.i64 0), (Value.int IntKind.i64 0), (Value.int IntKind.i64 0)])) (by kernel_rfl) (by kernel_rfl) (by kernel_rfl)
@[go_sem] theorem ty_size150 : tsize Try.prog 150 = (some 1) := by kernel_rfl
@[go_sem] theorem ty_bytes150 : tbytes Try.prog 150 = (some 8) := by kernel_rfl
@[go_sem] theorem ty_zero150 : tzero Try.prog 150 = (some (Value.int IntKind.i64 0)) := by kernel_rfl
@[go_sem] theorem ty_agg150 : tagg Try.prog 150 = (some false) := by kernel_rfl
@[go_sem] theorem ty_und150 : Program.underlying Try.prog 150 = (some (TypeDesc.int IntKind.i64)) := by kernel_rfl
@[go_sem] theorem ty_elem150 : telem Try.prog 150 = none := by kernel_rfl
@[go_sem] theorem ty_size170 : tsize Try.prog 170 = (some 1) := by kernel_rfl
@[go_sem] theorem ty_bytes170 : tbytes Try.prog 170 = (some 8) := by kernel_rfl
@[go_sem] theorem ty_zero170 : tzero Try.prog 170 = (some (Value.pointer none)) := by kernel_rfl
@[go_sem] theorem ty_agg170 : tagg Try.prog 170 = (some false) := by kernel_rfl
@[go_sem] theorem ty_und170 : Program.underlying Try.prog 170 = (some (TypeDesc.pointer 122)) := by kernel_rfl
@[go_sem] theorem ty_elem170 : telem Try.prog 170 = none := by kernel_rfl
@[go_sem] theorem ty_size112 : tsize Try.prog 112 = (some 18) := by kernel_rfl
@[go_sem] theorem ty_bytes112 : tbytes Try.prog 112 = (some 280) := by kernel_rfl
@[go_sem] theorem ty_zero112 : tzero Try.prog 112 = (some (Value.agg #[(Value.int IntKind.i64 0), (Value.string ⟨#[]⟩), (Value.int IntKind.i64 0), (Value.slice none 0 0), (Value.string ⟨#[]⟩), (Value.int IntKind.i64 0), (Value.int IntKind.i64 0), (Value.string ⟨#[]⟩), (Value.string ⟨#[]⟩), (Value.string ⟨#[]⟩), (Value.string ⟨#[]⟩), (Value.string ⟨#[]⟩), (Value.int IntKind.i64 0), (Value.slice none 0 0), (Value.int IntKind.i64 0), (Value.slice none 0 0), (Value.slice none 0 0), (Value.slice none 0 0)])) := by kernel_rfl
@[go_sem] theorem ty_agg112 : tagg Try.prog 112 = (some true) := by kernel_rfl
@[go_sem] theorem ty_field112_0 : tfield Try.prog 112 0 = (some ⟨"Kind", 3, 0, false, "", "", 0⟩) := by kernel_rfl
@[go_sem] theorem ty_field112_1 : tfield Try.prog 112 1 = (some ⟨"Author", 9, 1, false, "", "", 8⟩) := by kernel_rfl
@[go_sem] theorem ty_field112_2 : tfield Try.prog 112 2 = (some ⟨"Number", 3, 2, false, "", "", 24⟩) := by kernel_rfl
@[go_sem] theorem ty_field112_3 : tfield Try.prog 112 3 = (some ⟨"Names", 53, 3, false, "", "", 32⟩) := by kernel_rfl
@[go_sem] theorem ty_field112_4 : tfield Try.prog 112 4 = (some ⟨"Root", 9, 4, false, "", "", 56⟩) := by kernel_rfl
@[go_sem] theorem ty_field112_5 : tfield Try.prog 112 5 = (some ⟨"Key", 109, 5, false, "", "", 72⟩) := by kernel_rfl
@[go_sem] theorem ty_field112_6 : tfield Try.prog 112 6 = (some ⟨"Package", 9, 7, false, "", "", 88⟩) := by kernel_rfl
@[go_sem] theorem ty_field112_7 : tfield Try.prog 112 7 = (some ⟨"Digest", 9, 8, false, "", "", 104⟩) := by kernel_rfl
@[go_sem] theorem ty_field112_8 : tfield Try.prog 112 8 = (some ⟨"Question", 9, 9, false, "", "", 120⟩) := by kernel_rfl
@[go_sem] theorem ty_field112_9 : tfield Try.prog 112 9 = (some ⟨"Scope", 9, 10, false, "", "", 136⟩) := by kernel_rfl
@[go_sem] theorem ty_field112_10 : tfield Try.prog 112 10 = (some ⟨"Answer", 9, 11, false, "", "", 152⟩) := by kernel_rfl
@[go_sem] theorem ty_field112_11 : tfield Try.prog 112 11 = (some ⟨"Until", 3, 12, false, "", "", 168⟩) := by kernel_rfl
@[go_sem] theorem ty_field112_12 : tfield Try.prog 112 12 = (some ⟨"Targets", 53, 13, false, "", "", 176⟩) := by kernel_rfl
@[go_sem] theorem ty_field112_13 : tfield Try.prog 112 13 = (some ⟨"Signature", 111, 14, false, "", "", 200⟩) := by kernel_rfl
@[go_sem] theorem ty_build112 (parts : List (Nat × AV)) : abuild Try.prog 112 parts = (setCells [(AV.data (D.int IntKind.i64 0)), (AV.data (D.str [])), (AV.data (D.int IntKind.i64 0)), AV.nils, (AV.data (D.str [])), (AV.data (D.int IntKind.i64 0)), (AV.data (D.int IntKind.i64 0)), (AV.data (D.str [])), (AV.data (D.str [])), (AV.data (D.str [])), (AV.data (D.str [])), (AV.data (D.str [])), (AV.data (D.int IntKind.i64 0)), AV.nils, (AV.data (D.int IntKind.i64 0)), AV.nils, AV.nils, AV.nils] ([(0, 1), (1, 1), (2, 1), (3, 1), (4, 1), (5, 2), (7, 1), (8, 1), (9, 1), (10, 1), (11, 1), (12, 1), (13, 1), (14, 4)][·]?) parts).map mkAgg := abuild_of (z := (Value.agg #[(Value.int IntKind.i64 0), (Value.string ⟨#[]⟩), (Value.int IntKind.i64 0), (Value.slice none 0 0), (Value.string ⟨#[]⟩), (Value.int IntKind.i64 0), (Value.int IntKind.i64 0), (Value.string ⟨#[]⟩), (Value.string ⟨#[]⟩), (Value.string ⟨#[]⟩), (Value.string ⟨#[]⟩), (Value.string ⟨#[]⟩), (Value.int IntKind.i64 0), (Value.slice none 0 0), (Value.int IntKind.i64 0), (Value.slice none 0 0), (Value.slice none 0 0), (Value.slice none 0 0)])) (by kernel_rfl) (by kernel_rfl) (by kernel_rfl)
@[go_sem] theorem ty_size105 : tsize Try.prog 105 = (some 8) := by kernel_rfl
@[go_sem] theorem ty_bytes105 : tbytes Try.prog 105 = (some 10) := by kernel_rfl
@[go_sem] theorem ty_zero105 : tzero Try.prog 105 = (some (Value.agg #[(Value.int IntKind.u8 0), (Value.int IntKind.u8 0), (Value.int IntKind.u8 0), (Value.int IntKind.u8 0), (Value.int IntKind.u8 0), (Value.int IntKind.u16 0), (Value.int IntKind.u8 0), (Value.int IntKind.u8 0)])) := by kernel_rfl
@[go_sem] theorem ty_agg105 : tagg Try.prog 105 = (some true) := by kernel_rfl
@[go_sem] theorem ty_field105_0 : tfield Try.prog 105 0 = (some ⟨"Kind", 5, 0, false, "", "", 0⟩) := by kernel_rfl
@[go_sem] theorem ty_field105_1 : tfield Try.prog 105 1 = (some ⟨"Author", 5, 1, false, "", "", 1⟩) := by kernel_rfl
@[go_sem] theorem ty_field105_2 : tfield Try.prog 105 2 = (some ⟨"Question", 5, 2, false, "", "", 2⟩) := by kernel_rfl
@[go_sem] theorem ty_field105_3 : tfield Try.prog 105 3 = (some ⟨"Answer", 5, 3, false, "", "", 3⟩) := by kernel_rfl
@[go_sem] theorem ty_field105_4 : tfield Try.prog 105 4 = (some ⟨"Until", 5, 4, false, "", "", 4⟩) := by kernel_rfl
@[go_sem] theorem ty_field105_5 : tfield Try.prog 105 5 = (some ⟨"Follows", 103, 5, false, "", "", 6⟩) := by kernel_rfl
@[go_sem] theorem ty_field105_6 : tfield Try.prog 105 6 = (some ⟨"Target", 104, 6, false, "", "", 8⟩) := by kernel_rfl
@[go_sem] theorem ty_build105 (parts : List (Nat × AV)) : abuild Try.prog 105 parts = (setCells [(AV.data (D.int IntKind.u8 0)), (AV.data (D.int IntKind.u8 0)), (AV.data (D.int IntKind.u8 0)), (AV.data (D.int IntKind.u8 0)), (AV.data (D.int IntKind.u8 0)), (AV.data (D.int IntKind.u16 0)), (AV.data (D.int IntKind.u8 0)), (AV.data (D.int IntKind.u8 0))] ([(0, 1), (1, 1), (2, 1), (3, 1), (4, 1), (5, 1), (6, 2)][·]?) parts).map mkAgg := abuild_of (z := (Value.agg #[(Value.int IntKind.u8 0), (Value.int IntKind.u8 0), (Value.int IntKind.u8 0), (Value.int IntKind.u8 0), (Value.int IntKind.u8 0), (Value.int IntKind.u16 0), (Value.int IntKind.u8 0), (Value.int IntKind.u8 0)])) (by kernel_rfl) (by kernel_rfl) (by kernel_rfl)
@[go_sem] theorem ty_size111 : tsize Try.prog 111 = (some 4) := by kernel_rfl
@[go_sem] theorem ty_bytes111 : tbytes Try.prog 111 = (some 80) := by kernel_rfl
@[go_sem] theorem ty_zero111 : tzero Try.prog 111 = (some (Value.agg #[(Value.int IntKind.i64 0), (Value.slice none 0 0), (Value.slice none 0 0), (Value.slice none 0 0)])) := by kernel_rfl
@[go_sem] theorem ty_agg111 : tagg Try.prog 111 = (some true) := by kernel_rfl
@[go_sem] theorem ty_field111_0 : tfield Try.prog 111 0 = (some ⟨"Index", 3, 0, false, "", "", 0⟩) := by kernel_rfl
@[go_sem] theorem ty_field111_1 : tfield Try.prog 111 1 = (some ⟨"Shown", 53, 1, false, "", "", 8⟩) := by kernel_rfl
@[go_sem] theorem ty_field111_2 : tfield Try.prog 111 2 = (some ⟨"Hidden", 53, 2, false, "", "", 32⟩) := by kernel_rfl
@[go_sem] theorem ty_field111_3 : tfield Try.prog 111 3 = (some ⟨"Route", 53, 3, false, "", "", 56⟩) := by kernel_rfl
@[go_sem] theorem ty_build111 (parts : List (Nat × AV)) : abuild Try.prog 111 parts = (setCells [(AV.data (D.int IntKind.i64 0)), AV.nils, AV.nils, AV.nils] ([(0, 1), (1, 1), (2, 1), (3, 1)][·]?) parts).map mkAgg := abuild_of (z := (Value.agg #[(Value.int IntKind.i64 0), (Value.slice none 0 0), (Value.slice none 0 0), (Value.slice none 0 0)])) (by kernel_rfl) (by kernel_rfl) (by kernel_rfl)
end Go.Ab
namespace Go.Ab
open Go Go.RowKit Go.Proofs
set_option maxRecDepth 4000
set_option maxHeartbeats 4000000
def cntB (h : Int) : Int := (ashift .shl .i64 1 (IntKind.wrap .u64 h)).getD 0
theorem ashift_some (h : Int) : ashift .shl .i64 1 (IntKind.wrap .u64 h) = some (cntB h) := by
  have h0 : 0 ≤ IntKind.wrap .u64 h := by rw [IntKind.wrap_u64]; omega
  have h1 : ¬ IntKind.wrap .u64 h < 0 := by omega
  unfold cntB ashift
  simp only [if_neg h1, Option.getD_some]
noncomputable def g93 : List D → Option D := encSpec (fun x : Int × Int => [.agg [i64 x.1, i64 x.2]]) (fun _ => True) (fun x => i64 (cntB x.2))
theorem g93_eq (a b : Int) : g93 [.agg [.int .i64 a, .int .i64 b]] = some (.int .i64 (cntB b)) := encSpec_eq (x := (a, b)) trivial fun y hy => by
  obtain ⟨y1, y2⟩ := y
  simp only [List.cons.injEq, and_true, D.agg.injEq, D.int.injEq, true_and] at hy
  rw [hy.2]
theorem f93_ok : PureOK Try.prog 93 true g93 := by
  have hΓ := Γ0_ok
  refine pure_enc (n := 7) (rs := [.tmp 2]) Try.func93 (by kernel_rfl) rfl (by kernel_rfl) (by kernel_rfl) ?_
  rintro ⟨b, h⟩ _
  refine ⟨fun _ => .int _ _, fun k hz0 => ?_⟩
  have hs := ashift_some h
  rw [start_frame (by simp)]; simp only [enumV, go_sem, emptyH]
  repeat (first
    | (apply axJ; (focus ((with_reducible constructor) <;> rfl)))
    | (apply awT mixedOK hΓ (by kernel_rfl); (simp (disch := omega) only [go_sem, ↓reduceIte, dk, ↓hs] <;> with_reducible rfl))
    | ((first | apply awR hΓ | apply awG | apply awH mixedOK hΓ rfl (by kernel_rfl) | apply ovE rfl); (simp (disch := omega) only [go_sem, ↓reduceIte, dk, ↓hs] <;> with_reducible rfl); exact trivial)
    | rfl)
noncomputable def g89 : List D → Option D := encSpec (fun _ : Unit => []) (fun _ => True) (fun _ => .agg [i64 8, i64 2])
theorem g89_eq : g89 [] = some (.agg [.int .i64 8, .int .i64 2]) := encSpec_eq (enc := fun _ : Unit => ([] : List D)) (x := ()) trivial fun _ _ => rfl
theorem f89_ok : PureOK Try.prog 89 true g89 := by
  have hΓ := Γ0_ok
  refine pure_enc (n := 2) (rs := [.cell 0 109]) Try.func89 (by kernel_rfl) rfl (by kernel_rfl) (by kernel_rfl) ?_
  rintro _ _
  refine ⟨fun _ => .agg _ (by simp; exact ⟨.int _ _, .int _ _⟩), fun k hz0 => ?_⟩
  rw [start_frame (by simp)]; simp only [enumV, go_sem, emptyH]
  repeat (first
    | (apply axJ; (focus ((with_reducible constructor) <;> rfl)))
    | (apply awT mixedOK hΓ (by kernel_rfl); (simp (disch := omega) only [go_sem, ↓reduceIte, ↓lk, ↓ty_build109, dk] <;> with_reducible rfl))
    | ((first | apply awR hΓ | apply awG | apply awH mixedOK hΓ rfl (by kernel_rfl) | apply ovE rfl); (simp (disch := omega) only [go_sem, ↓reduceIte, ↓lk, ↓ty_build109, dk] <;> with_reducible rfl); exact trivial)
    | rfl)
def authB (n : Int) : List UInt8 := if n.tmod 3 = 0 then [97, 110, 110] else if n.tmod 3 = 1 then [98, 101, 110] else [99, 97, 116]
theorem authB_len (n : Int) : (authB n).length = 3 := by unfold authB; split; rfl; split <;> rfl
noncomputable def g65 : List D → Option D := encSpec (fun n : Int => [u8 n]) (fun n => 0 ≤ n) (fun n => .str (authB n))
theorem g65_eq {n : Int} (h : 0 ≤ n) : g65 [.int .u8 n] = some (.str (authB n)) := encSpec_eq (x := n) h fun y hy => by
  simp only [List.cons.injEq, and_true, D.int.injEq, true_and] at hy
  rw [hy]
theorem f65_ok : PureOK Try.prog 65 true g65 := by
  have hΓ := Γ0_ok
  refine pure_enc (n := 8) (rs := [.tmp 2]) Try.func65 (by kernel_rfl) rfl (by kernel_rfl) (by kernel_rfl) ?_
  intro n hn
  have hn : 0 ≤ n := hn
  refine ⟨fun _ => .str _, fun k hz0 => ?_⟩
  have e2 : n.tmod 3 = n % 3 := Int.tmod_eq_emod_of_nonneg hn
  have h3 : n.tmod 3 = 0 ∨ n.tmod 3 = 1 ∨ n.tmod 3 = 2 := by omega
  unfold authB
  rw [start_frame (by simp)]; simp only [enumV, go_sem, emptyH]
  rcases h3 with h | h | h
  · rw [h]
    repeat (first
      | (apply axJ; (focus ((with_reducible constructor) <;> rfl)))
      | (apply awT mixedOK hΓ (by kernel_rfl); (simp (disch := omega) only [go_sem, ↓reduceIte, ↓lk, Int.reduceToNat, List.getElem?_cons_zero, List.getElem?_cons_succ, dk, h] <;> with_reducible rfl))
      | ((first | apply awR hΓ | apply awG | apply awH mixedOK hΓ rfl (by kernel_rfl) | apply ovE rfl); (simp (disch := omega) only [go_sem, ↓reduceIte, ↓lk, Int.reduceToNat, List.getElem?_cons_zero, List.getElem?_cons_succ, dk, h] <;> with_reducible rfl); exact trivial)
      | rfl)
  · rw [h]
    repeat (first
      | (apply axJ; (focus ((with_reducible constructor) <;> rfl)))
      | (apply awT mixedOK hΓ (by kernel_rfl); (simp (disch := omega) only [go_sem, ↓reduceIte, ↓lk, Int.reduceToNat, List.getElem?_cons_zero, List.getElem?_cons_succ, dk, h] <;> with_reducible rfl))
      | ((first | apply awR hΓ | apply awG | apply awH mixedOK hΓ rfl (by kernel_rfl) | apply ovE rfl); (simp (disch := omega) only [go_sem, ↓reduceIte, ↓lk, Int.reduceToNat, List.getElem?_cons_zero, List.getElem?_cons_succ, dk, h] <;> with_reducible rfl); exact trivial)
      | rfl)
  · rw [h]
    repeat (first
      | (apply axJ; (focus ((with_reducible constructor) <;> rfl)))
      | (apply awT mixedOK hΓ (by kernel_rfl); (simp (disch := omega) only [go_sem, ↓reduceIte, ↓lk, Int.reduceToNat, List.getElem?_cons_zero, List.getElem?_cons_succ, dk, h] <;> with_reducible rfl))
      | ((first | apply awR hΓ | apply awG | apply awH mixedOK hΓ rfl (by kernel_rfl) | apply ovE rfl); (simp (disch := omega) only [go_sem, ↓reduceIte, ↓lk, Int.reduceToNat, List.getElem?_cons_zero, List.getElem?_cons_succ, dk, h] <;> with_reducible rfl); exact trivial)
      | rfl)
def fnd (l : List (List UInt8)) (s : List UInt8) : Int := match l.findIdx? (· == s) with
  | some i => i
  | none => -1
theorem fnd_hit {l : List (List UInt8)} {s : List UInt8} {i : Nat} (h : i < l.length) (he : (l[i] == s) = true) (hb : ∀ j (hj : j < i), (l[j]'(by omega) == s) = false) : fnd l s = i := by
  have : l.findIdx? (· == s) = some i := by
    rw [List.findIdx?_eq_some_iff_getElem]
    exact ⟨h, he, fun j hj => by simp [hb j hj]⟩
  unfold fnd
  rw [this]
theorem fnd_none {l : List (List UInt8)} {s : List UInt8} (h : ∀ j (hj : j < l.length), (l[j] == s) = false) : fnd l s = -1 := by
  have : l.findIdx? (· == s) = none := by
    rw [List.findIdx?_eq_none_iff]
    intro x hx
    obtain ⟨j, hj, rfl⟩ := List.getElem_of_mem hx
    exact h j hj
  unfold fnd
  rw [this]
theorem fnd_lt {l : List (List UInt8)} {s : List UInt8} : -1 ≤ fnd l s ∧ fnd l s < l.length := by
  unfold fnd
  split
  · rename_i i h
    rw [List.findIdx?_eq_some_iff_getElem] at h
    obtain ⟨h1, _⟩ := h
    omega
  · omega
noncomputable def g69 : List D → Option D := encSpec (fun x : List (List UInt8) × List UInt8 => [.list (x.1.map .str), .str x.2]) (fun x => x.1.length ≤ 1099511627776) (fun x => i64 (fnd x.1 x.2))
theorem g69_eq {l : List (List UInt8)} {s : List UInt8} (h : l.length ≤ 1099511627776) : g69 [.list (l.map .str), .str s] = some (.int .i64 (fnd l s)) := encSpec_eq (x := (l, s)) h fun y hy => by
  obtain ⟨y1, y2⟩ := y
  simp only [List.cons.injEq, and_true, D.list.injEq, D.str.injEq] at hy
  rw [strs_inj hy.1, hy.2]
theorem f69_ok : PureOK Try.prog 69 true g69 := by
  have hΓ := Γ0_ok
  refine pure_enc (n := 19) (rs := [.tmp 4]) Try.func69 (by kernel_rfl) rfl (by kernel_rfl) (by kernel_rfl) ?_
  rintro ⟨l, s⟩ hn
  have hn : l.length ≤ 1099511627776 := hn
  refine ⟨fun _ => .int _ _, fun k hz0 => ?_⟩
  rw [start_frame (by simp)]; simp only [enumV, go_sem, emptyH]
  repeat (first
    | (apply axJ; (focus ((with_reducible constructor) <;> rfl)))
    | (apply awT mixedOK hΓ (by kernel_rfl); (simp (disch := omega) only [go_sem, ↓reduceIte, dk] <;> with_reducible rfl))
    | ((first | apply awR hΓ | apply awG | apply awH mixedOK hΓ rfl (by kernel_rfl) | apply ovE rfl); (simp (disch := omega) only [go_sem, ↓reduceIte, dk] <;> with_reducible rfl); exact trivial)
    | rfl)
  refine awp_loop_at (X := Nat) (fun i => (frame 19 [(0, .data (.list (l.map .str))), (1, .data (.str s)), (5, .data (i64 i))])) (fun _ => []) 2
    (fun i => i ≤ l.length ∧ ∀ j (hj : j < i) (hj2 : j < l.length), (l[j] == s) = false) (fun i => l.length - i) 0 ⟨Nat.zero_le _, fun j hj => absurd hj (Nat.not_lt_zero _)⟩ (Weak.w) ?_
  rintro i ⟨hi, hpre⟩
  by_cases hi2 : i < l.length
  · have hhit := fun h => fnd_hit hi2 h fun j hj => hpre j hj (by omega)
    have hnext : (l[i] == s) = false → ∀ j (hj : j < i + 1) (hj2 : j < l.length), (l[j] == s) = false := fun h j hj hj2 => by
      rcases Nat.lt_or_ge j i with h1 | h1
      · exact hpre j h1 hj2
      · obtain rfl : j = i := by omega
        exact h
    generalize hy : l[i] = y at hhit hnext
    generalize hc1 : (y == s) = c1 at hhit hnext
    (first | (((repeat (first | (apply axJ; (focus ((with_reducible constructor) <;> rfl))) | (apply awT mixedOK hΓ (by kernel_rfl); (simp (disch := omega) only [go_sem, ↓reduceIte, dk, hy, hc1] <;> with_reducible rfl)) | ((first | apply awR hΓ | apply awG | apply awH mixedOK hΓ rfl (by kernel_rfl) | apply ovE rfl); (simp (disch := omega) only [go_sem, ↓reduceIte, dk, hy, hc1] <;> with_reducible rfl); exact trivial) | rfl)); (first | exact ⟨i + 1, ⟨by omega, hnext rfl⟩, by omega, Weak.w⟩ | (rw [hhit rfl]; done))); done) | (cases c1 <;> (first | (((repeat (first | (apply axJ; (focus ((with_reducible constructor) <;> rfl))) | (apply awT mixedOK hΓ (by kernel_rfl); (simp (disch := omega) only [go_sem, ↓reduceIte, dk, hy, hc1] <;> with_reducible rfl)) | ((first | apply awR hΓ | apply awG | apply awH mixedOK hΓ rfl (by kernel_rfl) | apply ovE rfl); (simp (disch := omega) only [go_sem, ↓reduceIte, dk, hy, hc1] <;> with_reducible rfl); exact trivial) | rfl)); (first | exact ⟨i + 1, ⟨by omega, hnext rfl⟩, by omega, Weak.w⟩ | (rw [hhit rfl]; done))); done))))
  · have hi3 : i = l.length := by omega
    subst hi3
    repeat (first
      | (apply axJ; (focus ((with_reducible constructor) <;> rfl)))
      | (apply awT mixedOK hΓ (by kernel_rfl); (simp (disch := omega) only [go_sem, ↓reduceIte, dk] <;> with_reducible rfl))
      | ((first | apply awR hΓ | apply awG | apply awH mixedOK hΓ rfl (by kernel_rfl) | apply ovE rfl); (simp (disch := omega) only [go_sem, ↓reduceIte, dk] <;> with_reducible rfl); exact trivial)
      | rfl)
    rw [fnd_none fun j hj => hpre j hj hj]
end Go.Ab
namespace Go.Ab
open Go Go.RowKit Go.Proofs
set_option maxRecDepth 4000
set_option maxHeartbeats 4000000
structure Ev where
  k : Int
  au : List UInt8
  n : Int
  ns : List (List UInt8)
  ro : List UInt8
  kb : Int
  kh : Int
  pk : List UInt8
  dg : List UInt8
  q : List UInt8
  sc : List UInt8
  an : List UInt8
  u : Int
  tg : List (List UInt8)
def eE (e : Ev) : D := .agg [i64 e.k, .str e.au, i64 e.n, .list (e.ns.map .str), .str e.ro, i64 e.kb, i64 e.kh, .str e.pk, .str e.dg, .str e.q, .str e.sc, .str e.an, i64 e.u, .list (e.tg.map .str), i64 0, .list [], .list [], .list []]
theorem eE_eq (e : Ev) : eE e = .agg [i64 e.k, .str e.au, i64 e.n, .list (e.ns.map .str), .str e.ro, i64 e.kb, i64 e.kh, .str e.pk, .str e.dg, .str e.q, .str e.sc, .str e.an, i64 e.u, .list (e.tg.map .str), i64 0, .list [], .list [], .list []] := rfl
theorem eE_inj (a b : Ev) (h : eE a = eE b) : a = b := by
  obtain ⟨a1, a2, a3, a4, a5, a6, a7, a8, a9, a10, a11, a12, a13, a14⟩ := a
  obtain ⟨b1, b2, b3, b4, b5, b6, b7, b8, b9, b10, b11, b12, b13, b14⟩ := b
  simp only [eE, D.agg.injEq, List.cons.injEq, D.int.injEq, D.str.injEq, D.list.injEq, true_and, and_true] at h
  obtain ⟨h1, h2, h3, h4, h5, h6, h7, h8, h9, h10, h11, h12, h13, h14⟩ := h
  have h4 := strs_inj h4
  have h14 := strs_inj h14
  subst h1 h2 h3 h4 h5 h6 h7 h8 h9 h10 h11 h12 h13 h14
  rfl
theorem len1 {α : Type} {l : List α} (h : l.length = 1) : ∃ x, l = [x] := match l, h with | [x], _ => ⟨x, rfl⟩
theorem len2 {α : Type} {l : List α} (h : l.length = 2) : ∃ x y, l = [x, y] := match l, h with | [x, y], _ => ⟨x, y, rfl⟩
structure EvOK (e : Ev) : Prop where
  k1 : 1 ≤ e.k
  k5 : e.k ≤ 5
  ns : e.ns.length ≤ 64
  nss : ∀ s ∈ e.ns, s.length ≤ 64
  au : e.au.length ≤ 64
  ro : e.ro.length ≤ 64
  pk : e.pk.length ≤ 64
  dg : e.dg.length ≤ 64
  q : e.q.length ≤ 64
  sc : e.sc.length ≤ 64
  an : e.an.length ≤ 64
  tg : e.tg.length ≤ 2
  tgs : ∀ s ∈ e.tg, s.length ≤ 64
  t4 : e.k = 4 → e.tg.length = 1
  t5 : e.k = 5 → e.tg.length = 2
theorem eq109 (a b : Int) : eqAgg Try.prog 109 [.int .i64 a, .int .i64 b] [.int .i64 0, .int .i64 0] = some (decide ((a, b) = (0, 0))) := by
  have hu : Program.underlying Try.prog 109 = some (.struct #[⟨"Bits", 3, 0, false, "", "", 0⟩, ⟨"Height", 3, 1, false, "", "", 8⟩]) := by kernel_rfl
  have hg : (Try.prog.stoodInHeld 109 || Try.prog.eqGuardType Try.prog.depth 109) = false := by kernel_rfl
  unfold eqAgg
  rw [hu]
  simp only [hg, Bool.false_eq_true, if_false]
  simp [eqFlds, keyKind, keyEq, ty_und3, ty_agg3]
  rfl
end Go.Ab
