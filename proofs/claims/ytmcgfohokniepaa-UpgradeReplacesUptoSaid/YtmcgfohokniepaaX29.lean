/-
  One text of the proof (own work): contracts of functions of the program, by the abstract machine.
-/
import Derived.Test.YtmcgfohokniepaaX22
import Derived.Test.YtmcgfohokniepaaX25
import Derived.Test.YtmcgfohokniepaaX28
import Derived.Test.YtmcgfohokniepaaX23
set_option linter.unusedVariables false
set_option linter.unusedSimpArgs false
namespace Go.Ab
open Go Go.RowKit Go.Proofs
@[go_sem] theorem ty_size46 : tsize Try.prog 46 = (some 1) := by kernel_rfl
@[go_sem] theorem ty_bytes46 : tbytes Try.prog 46 = (some 8) := by kernel_rfl
@[go_sem] theorem ty_zero46 : tzero Try.prog 46 = (some Value.nilFunc) := by kernel_rfl
@[go_sem] theorem ty_agg46 : tagg Try.prog 46 = (some false) := by kernel_rfl
@[go_sem] theorem ty_und46 : Program.underlying Try.prog 46 = (some (TypeDesc.func #[31] #[34] false)) := by kernel_rfl
@[go_sem] theorem ty_elem46 : telem Try.prog 46 = none := by kernel_rfl
@[go_sem] theorem ty_size47 : tsize Try.prog 47 = (some 1) := by kernel_rfl
@[go_sem] theorem ty_bytes47 : tbytes Try.prog 47 = (some 24) := by kernel_rfl
@[go_sem] theorem ty_zero47 : tzero Try.prog 47 = (some (Value.slice none 0 0)) := by kernel_rfl
@[go_sem] theorem ty_agg47 : tagg Try.prog 47 = (some false) := by kernel_rfl
@[go_sem] theorem ty_und47 : Program.underlying Try.prog 47 = (some (TypeDesc.slice 106)) := by kernel_rfl
@[go_sem] theorem ty_elem47 : telem Try.prog 47 = (some 106) := by kernel_rfl
@[go_sem] theorem ty_size49 : tsize Try.prog 49 = (some 1) := by kernel_rfl
@[go_sem] theorem ty_bytes49 : tbytes Try.prog 49 = (some 0) := by kernel_rfl
@[go_sem] theorem ty_zero49 : tzero Try.prog 49 = (some (Value.tuple #[(Value.agg #[(Value.slice none 0 0), (Value.slice none 0 0), (Value.slice none 0 0), (Value.slice none 0 0)]), (Value.bool false)])) := by kernel_rfl
@[go_sem] theorem ty_agg49 : tagg Try.prog 49 = (some false) := by kernel_rfl
@[go_sem] theorem ty_und49 : Program.underlying Try.prog 49 = (some (TypeDesc.tuple #[30, 4])) := by kernel_rfl
@[go_sem] theorem ty_elem49 : telem Try.prog 49 = none := by kernel_rfl
@[go_sem] theorem ty_size81 : tsize Try.prog 81 = (some 1) := by kernel_rfl
@[go_sem] theorem ty_bytes81 : tbytes Try.prog 81 = (some 24) := by kernel_rfl
@[go_sem] theorem ty_zero81 : tzero Try.prog 81 = (some (Value.slice none 0 0)) := by kernel_rfl
@[go_sem] theorem ty_agg81 : tagg Try.prog 81 = (some false) := by kernel_rfl
@[go_sem] theorem ty_und81 : Program.underlying Try.prog 81 = (some (TypeDesc.slice 113)) := by kernel_rfl
@[go_sem] theorem ty_elem81 : telem Try.prog 81 = (some 113) := by kernel_rfl
@[go_sem] theorem ty_size83 : tsize Try.prog 83 = (some 1) := by kernel_rfl
@[go_sem] theorem ty_bytes83 : tbytes Try.prog 83 = (some 0) := by kernel_rfl
@[go_sem] theorem ty_zero83 : tzero Try.prog 83 = (some (Value.tuple #[(Value.agg #[(Value.slice none 0 0), (Value.slice none 0 0), (Value.slice none 0 0), (Value.slice none 0 0)]), (Value.int IntKind.i64 0), (Value.int IntKind.i64 0)])) := by kernel_rfl
@[go_sem] theorem ty_agg83 : tagg Try.prog 83 = (some false) := by kernel_rfl
@[go_sem] theorem ty_und83 : Program.underlying Try.prog 83 = (some (TypeDesc.tuple #[30, 3, 34])) := by kernel_rfl
@[go_sem] theorem ty_elem83 : telem Try.prog 83 = none := by kernel_rfl
@[go_sem] theorem ty_size103 : tsize Try.prog 103 = (some 1) := by kernel_rfl
@[go_sem] theorem ty_bytes103 : tbytes Try.prog 103 = (some 2) := by kernel_rfl
@[go_sem] theorem ty_zero103 : tzero Try.prog 103 = (some (Value.int IntKind.u16 0)) := by kernel_rfl
@[go_sem] theorem ty_agg103 : tagg Try.prog 103 = (some false) := by kernel_rfl
@[go_sem] theorem ty_und103 : Program.underlying Try.prog 103 = (some (TypeDesc.int IntKind.u16)) := by kernel_rfl
@[go_sem] theorem ty_elem103 : telem Try.prog 103 = none := by kernel_rfl
@[go_sem] theorem ty_size104 : tsize Try.prog 104 = (some 2) := by kernel_rfl
@[go_sem] theorem ty_bytes104 : tbytes Try.prog 104 = (some 2) := by kernel_rfl
@[go_sem] theorem ty_zero104 : tzero Try.prog 104 = (some (Value.agg #[(Value.int IntKind.u8 0), (Value.int IntKind.u8 0)])) := by kernel_rfl
@[go_sem] theorem ty_agg104 : tagg Try.prog 104 = (some true) := by kernel_rfl
@[go_sem] theorem ty_und104 : Program.underlying Try.prog 104 = (some (TypeDesc.array 2 5)) := by kernel_rfl
@[go_sem] theorem ty_elem104 : telem Try.prog 104 = none := by kernel_rfl
@[go_sem] theorem ty_size106 : tsize Try.prog 106 = (some 8) := by kernel_rfl
@[go_sem] theorem ty_bytes106 : tbytes Try.prog 106 = (some 10) := by kernel_rfl
@[go_sem] theorem ty_zero106 : tzero Try.prog 106 = (some (Value.agg #[(Value.int IntKind.u8 0), (Value.int IntKind.u8 0), (Value.int IntKind.u8 0), (Value.int IntKind.u8 0), (Value.int IntKind.u8 0), (Value.int IntKind.u16 0), (Value.int IntKind.u8 0), (Value.int IntKind.u8 0)])) := by kernel_rfl
@[go_sem] theorem ty_agg106 : tagg Try.prog 106 = (some true) := by kernel_rfl
@[go_sem] theorem ty_field106_0 : tfield Try.prog 106 0 = (some ⟨"Kind", 5, 0, false, "", "", 0⟩) := by kernel_rfl
@[go_sem] theorem ty_field106_1 : tfield Try.prog 106 1 = (some ⟨"Author", 5, 1, false, "", "", 1⟩) := by kernel_rfl
@[go_sem] theorem ty_field106_2 : tfield Try.prog 106 2 = (some ⟨"Question", 5, 2, false, "", "", 2⟩) := by kernel_rfl
@[go_sem] theorem ty_field106_3 : tfield Try.prog 106 3 = (some ⟨"Answer", 5, 3, false, "", "", 3⟩) := by kernel_rfl
@[go_sem] theorem ty_field106_4 : tfield Try.prog 106 4 = (some ⟨"Until", 5, 4, false, "", "", 4⟩) := by kernel_rfl
@[go_sem] theorem ty_field106_5 : tfield Try.prog 106 5 = (some ⟨"Follows", 103, 5, false, "", "", 6⟩) := by kernel_rfl
@[go_sem] theorem ty_field106_6 : tfield Try.prog 106 6 = (some ⟨"Target", 104, 6, false, "", "", 8⟩) := by kernel_rfl
@[go_sem] theorem ty_build106 (parts : List (Nat × AV)) : abuild Try.prog 106 parts = (setCells [(AV.data (D.int IntKind.u8 0)), (AV.data (D.int IntKind.u8 0)), (AV.data (D.int IntKind.u8 0)), (AV.data (D.int IntKind.u8 0)), (AV.data (D.int IntKind.u8 0)), (AV.data (D.int IntKind.u16 0)), (AV.data (D.int IntKind.u8 0)), (AV.data (D.int IntKind.u8 0))] ([(0, 1), (1, 1), (2, 1), (3, 1), (4, 1), (5, 1), (6, 2)][·]?) parts).map mkAgg := abuild_of (z := (Value.agg #[(Value.int IntKind.u8 0), (Value.int IntKind.u8 0), (Value.int IntKind.u8 0), (Value.int IntKind.u8 0), (Value.int IntKind.u8 0), (Value.int IntKind.u16 0), (Value.int IntKind.u8 0), (Value.int IntKind.u8 0)])) (by kernel_rfl) (by kernel_rfl) (by kernel_rfl)
@[go_sem] theorem ty_size113 : tsize Try.prog 113 = (some 18) := by kernel_rfl
@[go_sem] theorem ty_bytes113 : tbytes Try.prog 113 = (some 280) := by kernel_rfl
@[go_sem] theorem ty_zero113 : tzero Try.prog 113 = (some (Value.agg #[(Value.int IntKind.i64 0), (Value.string ⟨#[]⟩), (Value.int IntKind.i64 0), (Value.slice none 0 0), (Value.string ⟨#[]⟩), (Value.int IntKind.i64 0), (Value.int IntKind.i64 0), (Value.string ⟨#[]⟩), (Value.string ⟨#[]⟩), (Value.string ⟨#[]⟩), (Value.string ⟨#[]⟩), (Value.string ⟨#[]⟩), (Value.int IntKind.i64 0), (Value.slice none 0 0), (Value.int IntKind.i64 0), (Value.slice none 0 0), (Value.slice none 0 0), (Value.slice none 0 0)])) := by kernel_rfl
@[go_sem] theorem ty_agg113 : tagg Try.prog 113 = (some true) := by kernel_rfl
@[go_sem] theorem ty_field113_0 : tfield Try.prog 113 0 = (some ⟨"Kind", 3, 0, false, "", "", 0⟩) := by kernel_rfl
@[go_sem] theorem ty_field113_1 : tfield Try.prog 113 1 = (some ⟨"Author", 9, 1, false, "", "", 8⟩) := by kernel_rfl
@[go_sem] theorem ty_field113_2 : tfield Try.prog 113 2 = (some ⟨"Number", 3, 2, false, "", "", 24⟩) := by kernel_rfl
@[go_sem] theorem ty_field113_3 : tfield Try.prog 113 3 = (some ⟨"Names", 53, 3, false, "", "", 32⟩) := by kernel_rfl
@[go_sem] theorem ty_field113_4 : tfield Try.prog 113 4 = (some ⟨"Root", 9, 4, false, "", "", 56⟩) := by kernel_rfl
@[go_sem] theorem ty_field113_5 : tfield Try.prog 113 5 = (some ⟨"Key", 109, 5, false, "", "", 72⟩) := by kernel_rfl
@[go_sem] theorem ty_field113_6 : tfield Try.prog 113 6 = (some ⟨"Package", 9, 7, false, "", "", 88⟩) := by kernel_rfl
@[go_sem] theorem ty_field113_7 : tfield Try.prog 113 7 = (some ⟨"Digest", 9, 8, false, "", "", 104⟩) := by kernel_rfl
@[go_sem] theorem ty_field113_8 : tfield Try.prog 113 8 = (some ⟨"Question", 9, 9, false, "", "", 120⟩) := by kernel_rfl
@[go_sem] theorem ty_field113_9 : tfield Try.prog 113 9 = (some ⟨"Scope", 9, 10, false, "", "", 136⟩) := by kernel_rfl
@[go_sem] theorem ty_field113_10 : tfield Try.prog 113 10 = (some ⟨"Answer", 9, 11, false, "", "", 152⟩) := by kernel_rfl
@[go_sem] theorem ty_field113_11 : tfield Try.prog 113 11 = (some ⟨"Until", 3, 12, false, "", "", 168⟩) := by kernel_rfl
@[go_sem] theorem ty_field113_12 : tfield Try.prog 113 12 = (some ⟨"Targets", 53, 13, false, "", "", 176⟩) := by kernel_rfl
@[go_sem] theorem ty_field113_13 : tfield Try.prog 113 13 = (some ⟨"Signature", 111, 14, false, "", "", 200⟩) := by kernel_rfl
@[go_sem] theorem ty_build113 (parts : List (Nat × AV)) : abuild Try.prog 113 parts = (setCells [(AV.data (D.int IntKind.i64 0)), (AV.data (D.str [])), (AV.data (D.int IntKind.i64 0)), AV.nils, (AV.data (D.str [])), (AV.data (D.int IntKind.i64 0)), (AV.data (D.int IntKind.i64 0)), (AV.data (D.str [])), (AV.data (D.str [])), (AV.data (D.str [])), (AV.data (D.str [])), (AV.data (D.str [])), (AV.data (D.int IntKind.i64 0)), AV.nils, (AV.data (D.int IntKind.i64 0)), AV.nils, AV.nils, AV.nils] ([(0, 1), (1, 1), (2, 1), (3, 1), (4, 1), (5, 2), (7, 1), (8, 1), (9, 1), (10, 1), (11, 1), (12, 1), (13, 1), (14, 4)][·]?) parts).map mkAgg := abuild_of (z := (Value.agg #[(Value.int IntKind.i64 0), (Value.string ⟨#[]⟩), (Value.int IntKind.i64 0), (Value.slice none 0 0), (Value.string ⟨#[]⟩), (Value.int IntKind.i64 0), (Value.int IntKind.i64 0), (Value.string ⟨#[]⟩), (Value.string ⟨#[]⟩), (Value.string ⟨#[]⟩), (Value.string ⟨#[]⟩), (Value.string ⟨#[]⟩), (Value.int IntKind.i64 0), (Value.slice none 0 0), (Value.int IntKind.i64 0), (Value.slice none 0 0), (Value.slice none 0 0), (Value.slice none 0 0)])) (by kernel_rfl) (by kernel_rfl) (by kernel_rfl)
@[go_sem] theorem ty_size120 : tsize Try.prog 120 = (some 1) := by kernel_rfl
@[go_sem] theorem ty_bytes120 : tbytes Try.prog 120 = (some 24) := by kernel_rfl
@[go_sem] theorem ty_zero120 : tzero Try.prog 120 = (some (Value.slice none 0 0)) := by kernel_rfl
@[go_sem] theorem ty_agg120 : tagg Try.prog 120 = (some false) := by kernel_rfl
@[go_sem] theorem ty_und120 : Program.underlying Try.prog 120 = (some (TypeDesc.slice 142)) := by kernel_rfl
@[go_sem] theorem ty_elem120 : telem Try.prog 120 = (some 142) := by kernel_rfl
@[go_sem] theorem ty_size121 : tsize Try.prog 121 = (some 5) := by kernel_rfl
@[go_sem] theorem ty_bytes121 : tbytes Try.prog 121 = (some 120) := by kernel_rfl
@[go_sem] theorem ty_zero121 : tzero Try.prog 121 = (some (Value.agg #[(Value.slice none 0 0), (Value.slice none 0 0), (Value.slice none 0 0), (Value.slice none 0 0), (Value.slice none 0 0)])) := by kernel_rfl
@[go_sem] theorem ty_agg121 : tagg Try.prog 121 = (some true) := by kernel_rfl
@[go_sem] theorem ty_field121_0 : tfield Try.prog 121 0 = (some ⟨"L", 81, 0, false, "", "", 0⟩) := by kernel_rfl
@[go_sem] theorem ty_field121_1 : tfield Try.prog 121 1 = (some ⟨"IDs", 53, 1, false, "", "", 24⟩) := by kernel_rfl
@[go_sem] theorem ty_field121_2 : tfield Try.prog 121 2 = (some ⟨"Ranks", 119, 2, false, "", "", 48⟩) := by kernel_rfl
@[go_sem] theorem ty_field121_3 : tfield Try.prog 121 3 = (some ⟨"Pasts", 120, 3, false, "", "", 72⟩) := by kernel_rfl
@[go_sem] theorem ty_field121_4 : tfield Try.prog 121 4 = (some ⟨"Order", 119, 4, false, "", "", 96⟩) := by kernel_rfl
@[go_sem] theorem ty_build121 (parts : List (Nat × AV)) : abuild Try.prog 121 parts = (setCells [AV.nils, AV.nils, AV.nils, AV.nils, AV.nils] ([(0, 1), (1, 1), (2, 1), (3, 1), (4, 1)][·]?) parts).map mkAgg := abuild_of (z := (Value.agg #[(Value.slice none 0 0), (Value.slice none 0 0), (Value.slice none 0 0), (Value.slice none 0 0), (Value.slice none 0 0)])) (by kernel_rfl) (by kernel_rfl) (by kernel_rfl)
@[go_sem] theorem ty_size122 : tsize Try.prog 122 = (some 5) := by kernel_rfl
@[go_sem] theorem ty_bytes122 : tbytes Try.prog 122 = (some 120) := by kernel_rfl
@[go_sem] theorem ty_zero122 : tzero Try.prog 122 = (some (Value.agg #[(Value.slice none 0 0), (Value.slice none 0 0), (Value.slice none 0 0), (Value.slice none 0 0), (Value.slice none 0 0)])) := by kernel_rfl
@[go_sem] theorem ty_agg122 : tagg Try.prog 122 = (some true) := by kernel_rfl
@[go_sem] theorem ty_field122_0 : tfield Try.prog 122 0 = (some ⟨"L", 81, 0, false, "", "", 0⟩) := by kernel_rfl
@[go_sem] theorem ty_field122_1 : tfield Try.prog 122 1 = (some ⟨"IDs", 53, 1, false, "", "", 24⟩) := by kernel_rfl
@[go_sem] theorem ty_field122_2 : tfield Try.prog 122 2 = (some ⟨"Ranks", 119, 2, false, "", "", 48⟩) := by kernel_rfl
@[go_sem] theorem ty_field122_3 : tfield Try.prog 122 3 = (some ⟨"Pasts", 120, 3, false, "", "", 72⟩) := by kernel_rfl
@[go_sem] theorem ty_field122_4 : tfield Try.prog 122 4 = (some ⟨"Order", 119, 4, false, "", "", 96⟩) := by kernel_rfl
@[go_sem] theorem ty_build122 (parts : List (Nat × AV)) : abuild Try.prog 122 parts = (setCells [AV.nils, AV.nils, AV.nils, AV.nils, AV.nils] ([(0, 1), (1, 1), (2, 1), (3, 1), (4, 1)][·]?) parts).map mkAgg := abuild_of (z := (Value.agg #[(Value.slice none 0 0), (Value.slice none 0 0), (Value.slice none 0 0), (Value.slice none 0 0), (Value.slice none 0 0)])) (by kernel_rfl) (by kernel_rfl) (by kernel_rfl)
@[go_sem] theorem ty_size123 : tsize Try.prog 123 = (some 1) := by kernel_rfl
@[go_sem] theorem ty_bytes123 : tbytes Try.prog 123 = (some 0) := by kernel_rfl
@[go_sem] theorem ty_zero123 : tzero Try.prog 123 = (some (Value.tuple #[(Value.agg #[(Value.slice none 0 0), (Value.slice none 0 0), (Value.slice none 0 0), (Value.slice none 0 0), (Value.slice none 0 0)]), (Value.int IntKind.i64 0), (Value.int IntKind.i64 0)])) := by kernel_rfl
@[go_sem] theorem ty_agg123 : tagg Try.prog 123 = (some false) := by kernel_rfl
@[go_sem] theorem ty_und123 : Program.underlying Try.prog 123 = (some (TypeDesc.tuple #[122, 3, 34])) := by kernel_rfl
@[go_sem] theorem ty_elem123 : telem Try.prog 123 = none := by kernel_rfl
@[go_sem] theorem ty_size127 : tsize Try.prog 127 = (some 1) := by kernel_rfl
@[go_sem] theorem ty_bytes127 : tbytes Try.prog 127 = (some 8) := by kernel_rfl
@[go_sem] theorem ty_zero127 : tzero Try.prog 127 = (some (Value.pointer none)) := by kernel_rfl
@[go_sem] theorem ty_agg127 : tagg Try.prog 127 = (some false) := by kernel_rfl
@[go_sem] theorem ty_und127 : Program.underlying Try.prog 127 = (some (TypeDesc.pointer 30)) := by kernel_rfl
@[go_sem] theorem ty_elem127 : telem Try.prog 127 = none := by kernel_rfl
@[go_sem] theorem ty_size142 : tsize Try.prog 142 = (some 1) := by kernel_rfl
@[go_sem] theorem ty_bytes142 : tbytes Try.prog 142 = (some 24) := by kernel_rfl
@[go_sem] theorem ty_zero142 : tzero Try.prog 142 = (some (Value.slice none 0 0)) := by kernel_rfl
@[go_sem] theorem ty_agg142 : tagg Try.prog 142 = (some false) := by kernel_rfl
@[go_sem] theorem ty_und142 : Program.underlying Try.prog 142 = (some (TypeDesc.slice 4)) := by kernel_rfl
@[go_sem] theorem ty_elem142 : telem Try.prog 142 = (some 4) := by kernel_rfl
@[go_sem] theorem ty_size147 : tsize Try.prog 147 = (some 5) := by kernel_rfl
@[go_sem] theorem ty_bytes147 : tbytes Try.prog 147 = (some 56) := by kernel_rfl
@[go_sem] theorem ty_zero147 : tzero Try.prog 147 = (some (Value.agg #[(Value.string ⟨#[]⟩), (Value.string ⟨#[]⟩), (Value.int IntKind.i64 0), (Value.int IntKind.i64 0), (Value.int IntKind.i64 0)])) := by kernel_rfl
@[go_sem] theorem ty_agg147 : tagg Try.prog 147 = (some true) := by kernel_rfl
@[go_sem] theorem ty_field147_0 : tfield Try.prog 147 0 = (some ⟨"Name", 9, 0, false, "", "", 0⟩) := by kernel_rfl
@[go_sem] theorem ty_field147_1 : tfield Try.prog 147 1 = (some ⟨"Root", 9, 1, false, "", "", 16⟩) := by kernel_rfl
@[go_sem] theorem ty_field147_2 : tfield Try.prog 147 2 = (some ⟨"Key", 109, 2, false, "", "", 32⟩) := by kernel_rfl
@[go_sem] theorem ty_field147_3 : tfield Try.prog 147 3 = (some ⟨"Next", 3, 4, false, "", "", 48⟩) := by kernel_rfl
@[go_sem] theorem ty_build147 (parts : List (Nat × AV)) : abuild Try.prog 147 parts = (setCells [(AV.data (D.str [])), (AV.data (D.str [])), (AV.data (D.int IntKind.i64 0)), (AV.data (D.int IntKind.i64 0)), (AV.data (D.int IntKind.i64 0))] ([(0, 1), (1, 1), (2, 2), (4, 1)][·]?) parts).map mkAgg := abuild_of (z := (Value.agg #[(Value.string ⟨#[]⟩), (Value.string ⟨#[]⟩), (Value.int IntKind.i64 0), (Value.int IntKind.i64 0), (Value.int IntKind.i64 0)])) (by kernel_rfl) (by kernel_rfl) (by kernel_rfl)
@[go_sem] theorem ty_size150 : tsize Try.prog 150 = (some 1) := by kernel_rfl
@[go_sem] theorem ty_bytes150 : tbytes Try.prog 150 = (some 8) := by kernel_rfl
@[go_sem] theorem ty_zero150 : tzero Try.prog 150 = (some (Value.int IntKind.i64 0)) := by kernel_rfl
@[go_sem] theorem ty_agg150 : tagg Try.prog 150 = (some false) := by kernel_rfl
@[go_sem] theorem ty_und150 : Program.underlying Try.prog 150 = (some (TypeDesc.int IntKind.i64)) := by kernel_rfl
@[go_sem] theorem ty_elem150 : telem Try.prog 150 = none := by kernel_rfl
@[go_sem] theorem ty_size170 : tsize Try.prog 170 = (some 1) := by kernel_rfl
@[go_sem] theorem ty_bytes170 : tbytes Try.prog 170 = (some 8) := by kernel_rfl
@[go_sem] theorem ty_zero170 : tzero Try.prog 170 = (some (Value.pointer none)) := by kernel_rfl
@[go_sem] theorem ty_agg170 : tagg Try.prog 170 = (some false) := by kernel_rfl
@[go_sem] theorem ty_und170 : Program.underlying Try.prog 170 = (some (TypeDesc.pointer 122)) := by kernel_rfl
@[go_sem] theorem ty_elem170 : telem Try.prog 170 = none := by kernel_rfl
@[go_sem] theorem ty_size112 : tsize Try.prog 112 = (some 18) := by kernel_rfl
@[go_sem] theorem ty_bytes112 : tbytes Try.prog 112 = (some 280) := by kernel_rfl
@[go_sem] theorem ty_zero112 : tzero Try.prog 112 = (some (Value.agg #[(Value.int IntKind.i64 0), (Value.string ⟨#[]⟩), (Value.int IntKind.i64 0), (Value.slice none 0 0), (Value.string ⟨#[]⟩), (Value.int IntKind.i64 0), (Value.int IntKind.i64 0), (Value.string ⟨#[]⟩), (Value.string ⟨#[]⟩), (Value.string ⟨#[]⟩), (Value.string ⟨#[]⟩), (Value.string ⟨#[]⟩), (Value.int IntKind.i64 0), (Value.slice none 0 0), (Value.int IntKind.i64 0), (Value.slice none 0 0), (Value.slice none 0 0), (Value.slice none 0 0)])) := by kernel_rfl
@[go_sem] theorem ty_agg112 : tagg Try.prog 112 = (some true) := by kernel_rfl
@[go_sem] theorem ty_field112_0 : tfield Try.prog 112 0 = (some ⟨"Kind", 3, 0, false, "", "", 0⟩) := by kernel_rfl
@[go_sem] theorem ty_field112_1 : tfield Try.prog 112 1 = (some ⟨"Author", 9, 1, false, "", "", 8⟩) := by kernel_rfl
@[go_sem] theorem ty_field112_2 : tfield Try.prog 112 2 = (some ⟨"Number", 3, 2, false, "", "", 24⟩) := by kernel_rfl
@[go_sem] theorem ty_field112_3 : tfield Try.prog 112 3 = (some ⟨"Names", 53, 3, false, "", "", 32⟩) := by kernel_rfl
@[go_sem] theorem ty_field112_4 : tfield Try.prog 112 4 = (some ⟨"Root", 9, 4, false, "", "", 56⟩) := by kernel_rfl
@[go_sem] theorem ty_field112_5 : tfield Try.prog 112 5 = (some ⟨"Key", 109, 5, false, "", "", 72⟩) := by kernel_rfl
@[go_sem] theorem ty_field112_6 : tfield Try.prog 112 6 = (some ⟨"Package", 9, 7, false, "", "", 88⟩) := by kernel_rfl
@[go_sem] theorem ty_field112_7 : tfield Try.prog 112 7 = (some ⟨"Digest", 9, 8, false, "", "", 104⟩) := by kernel_rfl
@[go_sem] theorem ty_field112_8 : tfield Try.prog 112 8 = (some ⟨"Question", 9, 9, false, "", "", 120⟩) := by kernel_rfl
@[go_sem] theorem ty_field112_9 : tfield Try.prog 112 9 = (some ⟨"Scope", 9, 10, false, "", "", 136⟩) := by kernel_rfl
@[go_sem] theorem ty_field112_10 : tfield Try.prog 112 10 = (some ⟨"Answer", 9, 11, false, "", "", 152⟩) := by kernel_rfl
@[go_sem] theorem ty_field112_11 : tfield Try.prog 112 11 = (some ⟨"Until", 3, 12, false, "", "", 168⟩) := by kernel_rfl
@[go_sem] theorem ty_field112_12 : tfield Try.prog 112 12 = (some ⟨"Targets", 53, 13, false, "", "", 176⟩) := by kernel_rfl
@[go_sem] theorem ty_field112_13 : tfield Try.prog 112 13 = (some ⟨"Signature", 111, 14, false, "", "", 200⟩) := by kernel_rfl
@[go_sem] theorem ty_build112 (parts : List (Nat × AV)) : abuild Try.prog 112 parts = (setCells [(AV.data (D.int IntKind.i64 0)), (AV.data (D.str [])), (AV.data (D.int IntKind.i64 0)), AV.nils, (AV.data (D.str [])), (AV.data (D.int IntKind.i64 0)), (AV.data (D.int IntKind.i64 0)), (AV.data (D.str [])), (AV.data (D.str [])), (AV.data (D.str [])), (AV.data (D.str [])), (AV.data (D.str [])), (AV.data (D.int IntKind.i64 0)), AV.nils, (AV.data (D.int IntKind.i64 0)), AV.nils, AV.nils, AV.nils] ([(0, 1), (1, 1), (2, 1), (3, 1), (4, 1), (5, 2), (7, 1), (8, 1), (9, 1), (10, 1), (11, 1), (12, 1), (13, 1), (14, 4)][·]?) parts).map mkAgg := abuild_of (z := (Value.agg #[(Value.int IntKind.i64 0), (Value.string ⟨#[]⟩), (Value.int IntKind.i64 0), (Value.slice none 0 0), (Value.string ⟨#[]⟩), (Value.int IntKind.i64 0), (Value.int IntKind.i64 0), (Value.string ⟨#[]⟩), (Value.string ⟨#[]⟩), (Value.string ⟨#[]⟩), (Value.string ⟨#[]⟩), (Value.string ⟨#[]⟩), (Value.int IntKind.i64 0), (Value.slice none 0 0), (Value.int IntKind.i64 0), (Value.slice none 0 0), (Value.slice none 0 0), (Value.slice none 0 0)])) (by kernel_rfl) (by kernel_rfl) (by kernel_rfl)
@[go_sem] theorem ty_size105 : tsize Try.prog 105 = (some 8) := by kernel_rfl
@[go_sem] theorem ty_bytes105 : tbytes Try.prog 105 = (some 10) := by kernel_rfl
@[go_sem] theorem ty_zero105 : tzero Try.prog 105 = (some (Value.agg #[(Value.int IntKind.u8 0), (Value.int IntKind.u8 0), (Value.int IntKind.u8 0), (Value.int IntKind.u8 0), (Value.int IntKind.u8 0), (Value.int IntKind.u16 0), (Value.int IntKind.u8 0), (Value.int IntKind.u8 0)])) := by kernel_rfl
@[go_sem] theorem ty_agg105 : tagg Try.prog 105 = (some true) := by kernel_rfl
@[go_sem] theorem ty_field105_0 : tfield Try.prog 105 0 = (some ⟨"Kind", 5, 0, false, "", "", 0⟩) := by kernel_rfl
@[go_sem] theorem ty_field105_1 : tfield Try.prog 105 1 = (some ⟨"Author", 5, 1, false, "", "", 1⟩) := by kernel_rfl
@[go_sem] theorem ty_field105_2 : tfield Try.prog 105 2 = (some ⟨"Question", 5, 2, false, "", "", 2⟩) := by kernel_rfl
@[go_sem] theorem ty_field105_3 : tfield Try.prog 105 3 = (some ⟨"Answer", 5, 3, false, "", "", 3⟩) := by kernel_rfl
@[go_sem] theorem ty_field105_4 : tfield Try.prog 105 4 = (some ⟨"Until", 5, 4, false, "", "", 4⟩) := by kernel_rfl
@[go_sem] theorem ty_field105_5 : tfield Try.prog 105 5 = (some ⟨"Follows", 103, 5, false, "", "", 6⟩) := by kernel_rfl
@[go_sem] theorem ty_field105_6 : tfield Try.prog 105 6 = (some ⟨"Target", 104, 6, false, "", "", 8⟩) := by kernel_rfl
@[go_sem] theorem ty_build105 (parts : List (Nat × AV)) : abuild Try.prog 105 parts = (setCells [(AV.data (D.int IntKind.u8 0)), (AV.data (D.int IntKind.u8 0)), (AV.data (D.int IntKind.u8 0)), (AV.data (D.int IntKind.u8 0)), (AV.data (D.int IntKind.u8 0)), (AV.data (D.int IntKind.u16 0)), (AV.data (D.int IntKind.u8 0)), (AV.data (D.int IntKind.u8 0))] ([(0, 1), (1, 1), (2, 1), (3, 1), (4, 1), (5, 1), (6, 2)][·]?) parts).map mkAgg := abuild_of (z := (Value.agg #[(Value.int IntKind.u8 0), (Value.int IntKind.u8 0), (Value.int IntKind.u8 0), (Value.int IntKind.u8 0), (Value.int IntKind.u8 0), (Value.int IntKind.u16 0), (Value.int IntKind.u8 0), (Value.int IntKind.u8 0)])) (by kernel_rfl) (by kernel_rfl) (by kernel_rfl)
@[go_sem] theorem ty_size111 : tsize Try.prog 111 = (some 4) := by kernel_rfl
@[go_sem] theorem ty_bytes111 : tbytes Try.prog 111 = (some 80) := by kernel_rfl
@[go_sem] theorem ty_zero111 : tzero Try.prog 111 = (some (Value.agg #[(Value.int IntKind.i64 0), (Value.slice none 0 0), (Value.slice none 0 0), (Value.slice none 0 0)])) := by kernel_rfl
@[go_sem] theorem ty_agg111 : tagg Try.prog 111 = (some true) := by kernel_rfl
@[go_sem] theorem ty_field111_0 : tfield Try.prog 111 0 = (some ⟨"Index", 3, 0, false, "", "", 0⟩) := by kernel_rfl
@[go_sem] theorem ty_field111_1 : tfield Try.prog 111 1 = (some ⟨"Shown", 53, 1, false, "", "", 8⟩) := by kernel_rfl
@[go_sem] theorem ty_field111_2 : tfield Try.prog 111 2 = (some ⟨"Hidden", 53, 2, false, "", "", 32⟩) := by kernel_rfl
@[go_sem] theorem ty_field111_3 : tfield Try.prog 111 3 = (some ⟨"Route", 53, 3, false, "", "", 56⟩) := by kernel_rfl
@[go_sem] theorem ty_build111 (parts : List (Nat × AV)) : abuild Try.prog 111 parts = (setCells [(AV.data (D.int IntKind.i64 0)), AV.nils, AV.nils, AV.nils] ([(0, 1), (1, 1), (2, 1), (3, 1)][·]?) parts).map mkAgg := abuild_of (z := (Value.agg #[(Value.int IntKind.i64 0), (Value.slice none 0 0), (Value.slice none 0 0), (Value.slice none 0 0)])) (by kernel_rfl) (by kernel_rfl) (by kernel_rfl)
end Go.Ab
namespace Go.Ab
open Go Go.RowKit Go.Proofs
set_option maxRecDepth 4000
set_option maxHeartbeats 4000000
end Go.Ab
namespace Go.Ab
open Go Go.RowKit Go.Proofs
set_option maxRecDepth 4000
set_option maxHeartbeats 4000000
structure Ev where
  k : Int
  au : List UInt8
  n : Int
  ns : List (List UInt8)
  ro : List UInt8
  kb : Int
  kh : Int
  pk : List UInt8
  dg : List UInt8
  q : List UInt8
  sc : List UInt8
  an : List UInt8
  u : Int
  tg : List (List UInt8)
structure EvOK (e : Ev) : Prop where
  k1 : 1 ≤ e.k
  k5 : e.k ≤ 5
  ns : e.ns.length ≤ 64
  nss : ∀ s ∈ e.ns, s.length ≤ 64
  au : e.au.length ≤ 64
  ro : e.ro.length ≤ 64
  pk : e.pk.length ≤ 64
  dg : e.dg.length ≤ 64
  q : e.q.length ≤ 64
  sc : e.sc.length ≤ 64
  an : e.an.length ≤ 64
  tg : e.tg.length ≤ 2
  tgs : ∀ s ∈ e.tg, s.length ≤ 64
  t4 : e.k = 4 → e.tg.length = 1
  t5 : e.k = 5 → e.tg.length = 2
end Go.Ab
