/-
  One text of the proof (own work): contracts of functions of the program, by the abstract machine.
-/
import Derived.Test.YtmcgfohokniepaaChecked
import Derived.Test.YtmcgfohokniepaaX19
set_option linter.unusedVariables false
set_option linter.unusedSimpArgs false
namespace Go.Ab
open Go Go.RowKit Go.Proofs
@[go_sem] theorem ty_size3 : tsize Try.prog 3 = (some 1) := by kernel_rfl
@[go_sem] theorem ty_bytes3 : tbytes Try.prog 3 = (some 8) := by kernel_rfl
@[go_sem] theorem ty_zero3 : tzero Try.prog 3 = (some (Value.int IntKind.i64 0)) := by kernel_rfl
@[go_sem] theorem ty_agg3 : tagg Try.prog 3 = (some false) := by kernel_rfl
@[go_sem] theorem ty_und3 : Program.underlying Try.prog 3 = (some (TypeDesc.int IntKind.i64)) := by kernel_rfl
@[go_sem] theorem ty_elem3 : telem Try.prog 3 = none := by kernel_rfl
@[go_sem] theorem ty_size4 : tsize Try.prog 4 = (some 1) := by kernel_rfl
@[go_sem] theorem ty_bytes4 : tbytes Try.prog 4 = (some 1) := by kernel_rfl
@[go_sem] theorem ty_zero4 : tzero Try.prog 4 = (some (Value.bool false)) := by kernel_rfl
@[go_sem] theorem ty_agg4 : tagg Try.prog 4 = (some false) := by kernel_rfl
@[go_sem] theorem ty_und4 : Program.underlying Try.prog 4 = (some TypeDesc.bool) := by kernel_rfl
@[go_sem] theorem ty_elem4 : telem Try.prog 4 = none := by kernel_rfl
@[go_sem] theorem ty_size5 : tsize Try.prog 5 = (some 1) := by kernel_rfl
@[go_sem] theorem ty_bytes5 : tbytes Try.prog 5 = (some 1) := by kernel_rfl
@[go_sem] theorem ty_zero5 : tzero Try.prog 5 = (some (Value.int IntKind.u8 0)) := by kernel_rfl
@[go_sem] theorem ty_agg5 : tagg Try.prog 5 = (some false) := by kernel_rfl
@[go_sem] theorem ty_und5 : Program.underlying Try.prog 5 = (some (TypeDesc.int IntKind.u8)) := by kernel_rfl
@[go_sem] theorem ty_elem5 : telem Try.prog 5 = none := by kernel_rfl
@[go_sem] theorem ty_size9 : tsize Try.prog 9 = (some 1) := by kernel_rfl
@[go_sem] theorem ty_bytes9 : tbytes Try.prog 9 = (some 16) := by kernel_rfl
@[go_sem] theorem ty_zero9 : tzero Try.prog 9 = (some (Value.string ⟨#[]⟩)) := by kernel_rfl
@[go_sem] theorem ty_agg9 : tagg Try.prog 9 = (some false) := by kernel_rfl
@[go_sem] theorem ty_und9 : Program.underlying Try.prog 9 = (some TypeDesc.string) := by kernel_rfl
@[go_sem] theorem ty_elem9 : telem Try.prog 9 = none := by kernel_rfl
@[go_sem] theorem ty_size25 : tsize Try.prog 25 = (some 1) := by kernel_rfl
@[go_sem] theorem ty_bytes25 : tbytes Try.prog 25 = (some 24) := by kernel_rfl
@[go_sem] theorem ty_zero25 : tzero Try.prog 25 = (some (Value.slice none 0 0)) := by kernel_rfl
@[go_sem] theorem ty_agg25 : tagg Try.prog 25 = (some false) := by kernel_rfl
@[go_sem] theorem ty_und25 : Program.underlying Try.prog 25 = (some (TypeDesc.slice 147)) := by kernel_rfl
@[go_sem] theorem ty_elem25 : telem Try.prog 25 = (some 147) := by kernel_rfl
@[go_sem] theorem ty_size26 : tsize Try.prog 26 = (some 1) := by kernel_rfl
@[go_sem] theorem ty_bytes26 : tbytes Try.prog 26 = (some 24) := by kernel_rfl
@[go_sem] theorem ty_zero26 : tzero Try.prog 26 = (some (Value.slice none 0 0)) := by kernel_rfl
@[go_sem] theorem ty_agg26 : tagg Try.prog 26 = (some false) := by kernel_rfl
@[go_sem] theorem ty_und26 : Program.underlying Try.prog 26 = (some (TypeDesc.slice 68)) := by kernel_rfl
@[go_sem] theorem ty_elem26 : telem Try.prog 26 = (some 68) := by kernel_rfl
@[go_sem] theorem ty_size27 : tsize Try.prog 27 = (some 1) := by kernel_rfl
@[go_sem] theorem ty_bytes27 : tbytes Try.prog 27 = (some 24) := by kernel_rfl
@[go_sem] theorem ty_zero27 : tzero Try.prog 27 = (some (Value.slice none 0 0)) := by kernel_rfl
@[go_sem] theorem ty_agg27 : tagg Try.prog 27 = (some false) := by kernel_rfl
@[go_sem] theorem ty_und27 : Program.underlying Try.prog 27 = (some (TypeDesc.slice 60)) := by kernel_rfl
@[go_sem] theorem ty_elem27 : telem Try.prog 27 = (some 60) := by kernel_rfl
@[go_sem] theorem ty_size28 : tsize Try.prog 28 = (some 1) := by kernel_rfl
@[go_sem] theorem ty_bytes28 : tbytes Try.prog 28 = (some 24) := by kernel_rfl
@[go_sem] theorem ty_zero28 : tzero Try.prog 28 = (some (Value.slice none 0 0)) := by kernel_rfl
@[go_sem] theorem ty_agg28 : tagg Try.prog 28 = (some false) := by kernel_rfl
@[go_sem] theorem ty_und28 : Program.underlying Try.prog 28 = (some (TypeDesc.slice 99)) := by kernel_rfl
@[go_sem] theorem ty_elem28 : telem Try.prog 28 = (some 99) := by kernel_rfl
@[go_sem] theorem ty_size30 : tsize Try.prog 30 = (some 4) := by kernel_rfl
@[go_sem] theorem ty_bytes30 : tbytes Try.prog 30 = (some 96) := by kernel_rfl
@[go_sem] theorem ty_zero30 : tzero Try.prog 30 = (some (Value.agg #[(Value.slice none 0 0), (Value.slice none 0 0), (Value.slice none 0 0), (Value.slice none 0 0)])) := by kernel_rfl
@[go_sem] theorem ty_agg30 : tagg Try.prog 30 = (some true) := by kernel_rfl
@[go_sem] theorem ty_field30_0 : tfield Try.prog 30 0 = (some ⟨"Reviewers", 25, 0, false, "", "", 0⟩) := by kernel_rfl
@[go_sem] theorem ty_field30_1 : tfield Try.prog 30 1 = (some ⟨"Packages", 26, 1, false, "", "", 24⟩) := by kernel_rfl
@[go_sem] theorem ty_field30_2 : tfield Try.prog 30 2 = (some ⟨"Decisions", 27, 2, false, "", "", 48⟩) := by kernel_rfl
@[go_sem] theorem ty_field30_3 : tfield Try.prog 30 3 = (some ⟨"Disputes", 28, 3, false, "", "", 72⟩) := by kernel_rfl
@[go_sem] theorem ty_build30 (parts : List (Nat × AV)) : abuild Try.prog 30 parts = (setCells [AV.nils, AV.nils, AV.nils, AV.nils] ([(0, 1), (1, 1), (2, 1), (3, 1)][·]?) parts).map mkAgg := abuild_of (z := (Value.agg #[(Value.slice none 0 0), (Value.slice none 0 0), (Value.slice none 0 0), (Value.slice none 0 0)])) (by kernel_rfl) (by kernel_rfl) (by kernel_rfl)
@[go_sem] theorem ty_size31 : tsize Try.prog 31 = (some 1) := by kernel_rfl
@[go_sem] theorem ty_bytes31 : tbytes Try.prog 31 = (some 24) := by kernel_rfl
@[go_sem] theorem ty_zero31 : tzero Try.prog 31 = (some (Value.slice none 0 0)) := by kernel_rfl
@[go_sem] theorem ty_agg31 : tagg Try.prog 31 = (some false) := by kernel_rfl
@[go_sem] theorem ty_und31 : Program.underlying Try.prog 31 = (some (TypeDesc.slice 39)) := by kernel_rfl
@[go_sem] theorem ty_elem31 : telem Try.prog 31 = (some 39) := by kernel_rfl
@[go_sem] theorem ty_size33 : tsize Try.prog 33 = (some 1) := by kernel_rfl
@[go_sem] theorem ty_bytes33 : tbytes Try.prog 33 = (some 24) := by kernel_rfl
@[go_sem] theorem ty_zero33 : tzero Try.prog 33 = (some (Value.slice none 0 0)) := by kernel_rfl
@[go_sem] theorem ty_agg33 : tagg Try.prog 33 = (some false) := by kernel_rfl
@[go_sem] theorem ty_und33 : Program.underlying Try.prog 33 = (some (TypeDesc.slice 44)) := by kernel_rfl
@[go_sem] theorem ty_elem33 : telem Try.prog 33 = (some 44) := by kernel_rfl
@[go_sem] theorem ty_size34 : tsize Try.prog 34 = (some 1) := by kernel_rfl
@[go_sem] theorem ty_bytes34 : tbytes Try.prog 34 = (some 8) := by kernel_rfl
@[go_sem] theorem ty_zero34 : tzero Try.prog 34 = (some (Value.int IntKind.i64 0)) := by kernel_rfl
@[go_sem] theorem ty_agg34 : tagg Try.prog 34 = (some false) := by kernel_rfl
@[go_sem] theorem ty_und34 : Program.underlying Try.prog 34 = (some (TypeDesc.int IntKind.i64)) := by kernel_rfl
@[go_sem] theorem ty_elem34 : telem Try.prog 34 = none := by kernel_rfl
@[go_sem] theorem ty_size35 : tsize Try.prog 35 = (some 1) := by kernel_rfl
@[go_sem] theorem ty_bytes35 : tbytes Try.prog 35 = (some 0) := by kernel_rfl
@[go_sem] theorem ty_zero35 : tzero Try.prog 35 = (some (Value.tuple #[(Value.slice none 0 0), (Value.int IntKind.i64 0)])) := by kernel_rfl
@[go_sem] theorem ty_agg35 : tagg Try.prog 35 = (some false) := by kernel_rfl
@[go_sem] theorem ty_und35 : Program.underlying Try.prog 35 = (some (TypeDesc.tuple #[33, 34])) := by kernel_rfl
@[go_sem] theorem ty_elem35 : telem Try.prog 35 = none := by kernel_rfl
@[go_sem] theorem ty_size39 : tsize Try.prog 39 = (some 3) := by kernel_rfl
@[go_sem] theorem ty_bytes39 : tbytes Try.prog 39 = (some 48) := by kernel_rfl
@[go_sem] theorem ty_zero39 : tzero Try.prog 39 = (some (Value.agg #[(Value.string ⟨#[]⟩), (Value.string ⟨#[]⟩), (Value.string ⟨#[]⟩)])) := by kernel_rfl
@[go_sem] theorem ty_agg39 : tagg Try.prog 39 = (some true) := by kernel_rfl
@[go_sem] theorem ty_field39_0 : tfield Try.prog 39 0 = (some ⟨"Question", 9, 0, false, "", "", 0⟩) := by kernel_rfl
@[go_sem] theorem ty_field39_1 : tfield Try.prog 39 1 = (some ⟨"Scope", 9, 1, false, "", "", 16⟩) := by kernel_rfl
@[go_sem] theorem ty_field39_2 : tfield Try.prog 39 2 = (some ⟨"Digest", 9, 2, false, "", "", 32⟩) := by kernel_rfl
@[go_sem] theorem ty_build39 (parts : List (Nat × AV)) : abuild Try.prog 39 parts = (setCells [(AV.data (D.str [])), (AV.data (D.str [])), (AV.data (D.str []))] ([(0, 1), (1, 1), (2, 1)][·]?) parts).map mkAgg := abuild_of (z := (Value.agg #[(Value.string ⟨#[]⟩), (Value.string ⟨#[]⟩), (Value.string ⟨#[]⟩)])) (by kernel_rfl) (by kernel_rfl) (by kernel_rfl)
@[go_sem] theorem ty_size40 : tsize Try.prog 40 = (some 1) := by kernel_rfl
@[go_sem] theorem ty_bytes40 : tbytes Try.prog 40 = (some 0) := by kernel_rfl
@[go_sem] theorem ty_zero40 : tzero Try.prog 40 = (some (Value.tuple #[(Value.slice none 0 0), (Value.int IntKind.i64 0)])) := by kernel_rfl
@[go_sem] theorem ty_agg40 : tagg Try.prog 40 = (some false) := by kernel_rfl
@[go_sem] theorem ty_und40 : Program.underlying Try.prog 40 = (some (TypeDesc.tuple #[31, 34])) := by kernel_rfl
@[go_sem] theorem ty_elem40 : telem Try.prog 40 = none := by kernel_rfl
@[go_sem] theorem ty_size44 : tsize Try.prog 44 = (some 2) := by kernel_rfl
@[go_sem] theorem ty_bytes44 : tbytes Try.prog 44 = (some 24) := by kernel_rfl
@[go_sem] theorem ty_zero44 : tzero Try.prog 44 = (some (Value.agg #[(Value.string ⟨#[]⟩), (Value.int IntKind.i64 0)])) := by kernel_rfl
@[go_sem] theorem ty_agg44 : tagg Try.prog 44 = (some true) := by kernel_rfl
@[go_sem] theorem ty_field44_0 : tfield Try.prog 44 0 = (some ⟨"ID", 9, 0, false, "", "", 0⟩) := by kernel_rfl
@[go_sem] theorem ty_field44_1 : tfield Try.prog 44 1 = (some ⟨"Status", 3, 1, false, "", "", 16⟩) := by kernel_rfl
@[go_sem] theorem ty_build44 (parts : List (Nat × AV)) : abuild Try.prog 44 parts = (setCells [(AV.data (D.str [])), (AV.data (D.int IntKind.i64 0))] ([(0, 1), (1, 1)][·]?) parts).map mkAgg := abuild_of (z := (Value.agg #[(Value.string ⟨#[]⟩), (Value.int IntKind.i64 0)])) (by kernel_rfl) (by kernel_rfl) (by kernel_rfl)
@[go_sem] theorem ty_size48 : tsize Try.prog 48 = (some 1) := by kernel_rfl
@[go_sem] theorem ty_bytes48 : tbytes Try.prog 48 = (some 24) := by kernel_rfl
@[go_sem] theorem ty_zero48 : tzero Try.prog 48 = (some (Value.slice none 0 0)) := by kernel_rfl
@[go_sem] theorem ty_agg48 : tagg Try.prog 48 = (some false) := by kernel_rfl
@[go_sem] theorem ty_und48 : Program.underlying Try.prog 48 = (some (TypeDesc.slice 5)) := by kernel_rfl
@[go_sem] theorem ty_elem48 : telem Try.prog 48 = (some 5) := by kernel_rfl
@[go_sem] theorem ty_size53 : tsize Try.prog 53 = (some 1) := by kernel_rfl
@[go_sem] theorem ty_bytes53 : tbytes Try.prog 53 = (some 24) := by kernel_rfl
@[go_sem] theorem ty_zero53 : tzero Try.prog 53 = (some (Value.slice none 0 0)) := by kernel_rfl
@[go_sem] theorem ty_agg53 : tagg Try.prog 53 = (some false) := by kernel_rfl
@[go_sem] theorem ty_und53 : Program.underlying Try.prog 53 = (some (TypeDesc.slice 9)) := by kernel_rfl
@[go_sem] theorem ty_elem53 : telem Try.prog 53 = (some 9) := by kernel_rfl
@[go_sem] theorem ty_size54 : tsize Try.prog 54 = (some 1) := by kernel_rfl
@[go_sem] theorem ty_bytes54 : tbytes Try.prog 54 = (some 0) := by kernel_rfl
@[go_sem] theorem ty_zero54 : tzero Try.prog 54 = (some (Value.tuple #[(Value.slice none 0 0), (Value.int IntKind.i64 0)])) := by kernel_rfl
@[go_sem] theorem ty_agg54 : tagg Try.prog 54 = (some false) := by kernel_rfl
@[go_sem] theorem ty_und54 : Program.underlying Try.prog 54 = (some (TypeDesc.tuple #[53, 34])) := by kernel_rfl
@[go_sem] theorem ty_elem54 : telem Try.prog 54 = none := by kernel_rfl
@[go_sem] theorem ty_size60 : tsize Try.prog 60 = (some 10) := by kernel_rfl
@[go_sem] theorem ty_bytes60 : tbytes Try.prog 60 = (some 112) := by kernel_rfl
@[go_sem] theorem ty_zero60 : tzero Try.prog 60 = (some (Value.agg #[(Value.string ⟨#[]⟩), (Value.string ⟨#[]⟩), (Value.string ⟨#[]⟩), (Value.string ⟨#[]⟩), (Value.string ⟨#[]⟩), (Value.string ⟨#[]⟩), (Value.int IntKind.i64 0), (Value.bool false), (Value.bool false), (Value.bool false)])) := by kernel_rfl
@[go_sem] theorem ty_agg60 : tagg Try.prog 60 = (some true) := by kernel_rfl
@[go_sem] theorem ty_field60_0 : tfield Try.prog 60 0 = (some ⟨"ID", 9, 0, false, "", "", 0⟩) := by kernel_rfl
@[go_sem] theorem ty_field60_1 : tfield Try.prog 60 1 = (some ⟨"Author", 9, 1, false, "", "", 16⟩) := by kernel_rfl
@[go_sem] theorem ty_field60_2 : tfield Try.prog 60 2 = (some ⟨"Question", 9, 2, false, "", "", 32⟩) := by kernel_rfl
@[go_sem] theorem ty_field60_3 : tfield Try.prog 60 3 = (some ⟨"Scope", 9, 3, false, "", "", 48⟩) := by kernel_rfl
@[go_sem] theorem ty_field60_4 : tfield Try.prog 60 4 = (some ⟨"Answer", 9, 4, false, "", "", 64⟩) := by kernel_rfl
@[go_sem] theorem ty_field60_5 : tfield Try.prog 60 5 = (some ⟨"Digest", 9, 5, false, "", "", 80⟩) := by kernel_rfl
@[go_sem] theorem ty_field60_6 : tfield Try.prog 60 6 = (some ⟨"Until", 3, 6, false, "", "", 96⟩) := by kernel_rfl
@[go_sem] theorem ty_field60_7 : tfield Try.prog 60 7 = (some ⟨"Withdrawn", 4, 7, false, "", "", 104⟩) := by kernel_rfl
@[go_sem] theorem ty_field60_8 : tfield Try.prog 60 8 = (some ⟨"Overruled", 4, 8, false, "", "", 105⟩) := by kernel_rfl
@[go_sem] theorem ty_field60_9 : tfield Try.prog 60 9 = (some ⟨"Replaced", 4, 9, false, "", "", 106⟩) := by kernel_rfl
@[go_sem] theorem ty_build60 (parts : List (Nat × AV)) : abuild Try.prog 60 parts = (setCells [(AV.data (D.str [])), (AV.data (D.str [])), (AV.data (D.str [])), (AV.data (D.str [])), (AV.data (D.str [])), (AV.data (D.str [])), (AV.data (D.int IntKind.i64 0)), (AV.data (D.bool false)), (AV.data (D.bool false)), (AV.data (D.bool false))] ([(0, 1), (1, 1), (2, 1), (3, 1), (4, 1), (5, 1), (6, 1), (7, 1), (8, 1), (9, 1)][·]?) parts).map mkAgg := abuild_of (z := (Value.agg #[(Value.string ⟨#[]⟩), (Value.string ⟨#[]⟩), (Value.string ⟨#[]⟩), (Value.string ⟨#[]⟩), (Value.string ⟨#[]⟩), (Value.string ⟨#[]⟩), (Value.int IntKind.i64 0), (Value.bool false), (Value.bool false), (Value.bool false)])) (by kernel_rfl) (by kernel_rfl) (by kernel_rfl)
@[go_sem] theorem ty_size68 : tsize Try.prog 68 = (some 3) := by kernel_rfl
@[go_sem] theorem ty_bytes68 : tbytes Try.prog 68 = (some 40) := by kernel_rfl
@[go_sem] theorem ty_zero68 : tzero Try.prog 68 = (some (Value.agg #[(Value.string ⟨#[]⟩), (Value.string ⟨#[]⟩), (Value.int IntKind.i64 0)])) := by kernel_rfl
@[go_sem] theorem ty_agg68 : tagg Try.prog 68 = (some true) := by kernel_rfl
@[go_sem] theorem ty_field68_0 : tfield Try.prog 68 0 = (some ⟨"Name", 9, 0, false, "", "", 0⟩) := by kernel_rfl
@[go_sem] theorem ty_field68_1 : tfield Try.prog 68 1 = (some ⟨"Digest", 9, 1, false, "", "", 16⟩) := by kernel_rfl
@[go_sem] theorem ty_field68_2 : tfield Try.prog 68 2 = (some ⟨"Upgrades", 3, 2, false, "", "", 32⟩) := by kernel_rfl
@[go_sem] theorem ty_build68 (parts : List (Nat × AV)) : abuild Try.prog 68 parts = (setCells [(AV.data (D.str [])), (AV.data (D.str [])), (AV.data (D.int IntKind.i64 0))] ([(0, 1), (1, 1), (2, 1)][·]?) parts).map mkAgg := abuild_of (z := (Value.agg #[(Value.string ⟨#[]⟩), (Value.string ⟨#[]⟩), (Value.int IntKind.i64 0)])) (by kernel_rfl) (by kernel_rfl) (by kernel_rfl)
@[go_sem] theorem ty_size69 : tsize Try.prog 69 = (some 1) := by kernel_rfl
@[go_sem] theorem ty_bytes69 : tbytes Try.prog 69 = (some 0) := by kernel_rfl
@[go_sem] theorem ty_zero69 : tzero Try.prog 69 = (some (Value.tuple #[(Value.string ⟨#[]⟩), (Value.string ⟨#[]⟩), (Value.bool false)])) := by kernel_rfl
@[go_sem] theorem ty_agg69 : tagg Try.prog 69 = (some false) := by kernel_rfl
@[go_sem] theorem ty_und69 : Program.underlying Try.prog 69 = (some (TypeDesc.tuple #[9, 9, 4])) := by kernel_rfl
@[go_sem] theorem ty_elem69 : telem Try.prog 69 = none := by kernel_rfl
@[go_sem] theorem ty_size72 : tsize Try.prog 72 = (some 5) := by kernel_rfl
@[go_sem] theorem ty_bytes72 : tbytes Try.prog 72 = (some 120) := by kernel_rfl
@[go_sem] theorem ty_zero72 : tzero Try.prog 72 = (some (Value.agg #[(Value.slice none 0 0), (Value.slice none 0 0), (Value.slice none 0 0), (Value.slice none 0 0), (Value.slice none 0 0)])) := by kernel_rfl
@[go_sem] theorem ty_agg72 : tagg Try.prog 72 = (some true) := by kernel_rfl
@[go_sem] theorem ty_field72_0 : tfield Try.prog 72 0 = (some ⟨"Review", 30, 0, true, "", "", 0⟩) := by kernel_rfl
@[go_sem] theorem ty_field72_1 : tfield Try.prog 72 1 = (some ⟨"now", 31, 4, false, "", "licit/upgrade", 96⟩) := by kernel_rfl
@[go_sem] theorem ty_build72 (parts : List (Nat × AV)) : abuild Try.prog 72 parts = (setCells [AV.nils, AV.nils, AV.nils, AV.nils, AV.nils] ([(0, 4), (4, 1)][·]?) parts).map mkAgg := abuild_of (z := (Value.agg #[(Value.slice none 0 0), (Value.slice none 0 0), (Value.slice none 0 0), (Value.slice none 0 0), (Value.slice none 0 0)])) (by kernel_rfl) (by kernel_rfl) (by kernel_rfl)
@[go_sem] theorem ty_size75 : tsize Try.prog 75 = (some 1) := by kernel_rfl
@[go_sem] theorem ty_bytes75 : tbytes Try.prog 75 = (some 8) := by kernel_rfl
@[go_sem] theorem ty_zero75 : tzero Try.prog 75 = (some (Value.map none)) := by kernel_rfl
@[go_sem] theorem ty_agg75 : tagg Try.prog 75 = (some false) := by kernel_rfl
@[go_sem] theorem ty_und75 : Program.underlying Try.prog 75 = (some (TypeDesc.map 77 4)) := by kernel_rfl
@[go_sem] theorem ty_elem75 : telem Try.prog 75 = none := by kernel_rfl
@[go_sem] theorem ty_size77 : tsize Try.prog 77 = (some 2) := by kernel_rfl
@[go_sem] theorem ty_bytes77 : tbytes Try.prog 77 = (some 32) := by kernel_rfl
@[go_sem] theorem ty_zero77 : tzero Try.prog 77 = (some (Value.agg #[(Value.string ⟨#[]⟩), (Value.string ⟨#[]⟩)])) := by kernel_rfl
@[go_sem] theorem ty_agg77 : tagg Try.prog 77 = (some true) := by kernel_rfl
@[go_sem] theorem ty_field77_0 : tfield Try.prog 77 0 = (some ⟨"text", 9, 0, false, "", "licit/upgrade", 0⟩) := by kernel_rfl
@[go_sem] theorem ty_field77_1 : tfield Try.prog 77 1 = (some ⟨"scope", 9, 1, false, "", "licit/upgrade", 16⟩) := by kernel_rfl
@[go_sem] theorem ty_build77 (parts : List (Nat × AV)) : abuild Try.prog 77 parts = (setCells [(AV.data (D.str [])), (AV.data (D.str []))] ([(0, 1), (1, 1)][·]?) parts).map mkAgg := abuild_of (z := (Value.agg #[(Value.string ⟨#[]⟩), (Value.string ⟨#[]⟩)])) (by kernel_rfl) (by kernel_rfl) (by kernel_rfl)
@[go_sem] theorem ty_size93 : tsize Try.prog 93 = (some 1) := by kernel_rfl
@[go_sem] theorem ty_bytes93 : tbytes Try.prog 93 = (some 0) := by kernel_rfl
@[go_sem] theorem ty_zero93 : tzero Try.prog 93 = (some (Value.tuple #[(Value.string ⟨#[]⟩), (Value.int IntKind.i64 0)])) := by kernel_rfl
@[go_sem] theorem ty_agg93 : tagg Try.prog 93 = (some false) := by kernel_rfl
@[go_sem] theorem ty_und93 : Program.underlying Try.prog 93 = (some (TypeDesc.tuple #[9, 34])) := by kernel_rfl
@[go_sem] theorem ty_elem93 : telem Try.prog 93 = none := by kernel_rfl
@[go_sem] theorem ty_size95 : tsize Try.prog 95 = (some 1) := by kernel_rfl
@[go_sem] theorem ty_bytes95 : tbytes Try.prog 95 = (some 8) := by kernel_rfl
@[go_sem] theorem ty_zero95 : tzero Try.prog 95 = (some (Value.map none)) := by kernel_rfl
@[go_sem] theorem ty_agg95 : tagg Try.prog 95 = (some false) := by kernel_rfl
@[go_sem] theorem ty_und95 : Program.underlying Try.prog 95 = (some (TypeDesc.map 9 4)) := by kernel_rfl
@[go_sem] theorem ty_elem95 : telem Try.prog 95 = none := by kernel_rfl
@[go_sem] theorem ty_size99 : tsize Try.prog 99 = (some 2) := by kernel_rfl
@[go_sem] theorem ty_bytes99 : tbytes Try.prog 99 = (some 32) := by kernel_rfl
@[go_sem] theorem ty_zero99 : tzero Try.prog 99 = (some (Value.agg #[(Value.string ⟨#[]⟩), (Value.string ⟨#[]⟩)])) := by kernel_rfl
@[go_sem] theorem ty_agg99 : tagg Try.prog 99 = (some true) := by kernel_rfl
@[go_sem] theorem ty_field99_0 : tfield Try.prog 99 0 = (some ⟨"Left", 9, 0, false, "", "", 0⟩) := by kernel_rfl
@[go_sem] theorem ty_field99_1 : tfield Try.prog 99 1 = (some ⟨"Right", 9, 1, false, "", "", 16⟩) := by kernel_rfl
@[go_sem] theorem ty_build99 (parts : List (Nat × AV)) : abuild Try.prog 99 parts = (setCells [(AV.data (D.str [])), (AV.data (D.str []))] ([(0, 1), (1, 1)][·]?) parts).map mkAgg := abuild_of (z := (Value.agg #[(Value.string ⟨#[]⟩), (Value.string ⟨#[]⟩)])) (by kernel_rfl) (by kernel_rfl) (by kernel_rfl)
@[go_sem] theorem ty_size109 : tsize Try.prog 109 = (some 2) := by kernel_rfl
@[go_sem] theorem ty_bytes109 : tbytes Try.prog 109 = (some 16) := by kernel_rfl
@[go_sem] theorem ty_zero109 : tzero Try.prog 109 = (some (Value.agg #[(Value.int IntKind.i64 0), (Value.int IntKind.i64 0)])) := by kernel_rfl
@[go_sem] theorem ty_agg109 : tagg Try.prog 109 = (some true) := by kernel_rfl
@[go_sem] theorem ty_field109_0 : tfield Try.prog 109 0 = (some ⟨"Bits", 3, 0, false, "", "", 0⟩) := by kernel_rfl
@[go_sem] theorem ty_field109_1 : tfield Try.prog 109 1 = (some ⟨"Height", 3, 1, false, "", "", 8⟩) := by kernel_rfl
@[go_sem] theorem ty_build109 (parts : List (Nat × AV)) : abuild Try.prog 109 parts = (setCells [(AV.data (D.int IntKind.i64 0)), (AV.data (D.int IntKind.i64 0))] ([(0, 1), (1, 1)][·]?) parts).map mkAgg := abuild_of (z := (Value.agg #[(Value.int IntKind.i64 0), (Value.int IntKind.i64 0)])) (by kernel_rfl) (by kernel_rfl) (by kernel_rfl)
@[go_sem] theorem ty_size114 : tsize Try.prog 114 = (some 1) := by kernel_rfl
@[go_sem] theorem ty_bytes114 : tbytes Try.prog 114 = (some 8) := by kernel_rfl
@[go_sem] theorem ty_zero114 : tzero Try.prog 114 = (some (Value.int IntKind.u64 0)) := by kernel_rfl
@[go_sem] theorem ty_agg114 : tagg Try.prog 114 = (some false) := by kernel_rfl
@[go_sem] theorem ty_und114 : Program.underlying Try.prog 114 = (some (TypeDesc.int IntKind.u64)) := by kernel_rfl
@[go_sem] theorem ty_elem114 : telem Try.prog 114 = none := by kernel_rfl
@[go_sem] theorem ty_size119 : tsize Try.prog 119 = (some 1) := by kernel_rfl
@[go_sem] theorem ty_bytes119 : tbytes Try.prog 119 = (some 24) := by kernel_rfl
@[go_sem] theorem ty_zero119 : tzero Try.prog 119 = (some (Value.slice none 0 0)) := by kernel_rfl
@[go_sem] theorem ty_agg119 : tagg Try.prog 119 = (some false) := by kernel_rfl
@[go_sem] theorem ty_und119 : Program.underlying Try.prog 119 = (some (TypeDesc.slice 3)) := by kernel_rfl
@[go_sem] theorem ty_elem119 : telem Try.prog 119 = (some 3) := by kernel_rfl
@[go_sem] theorem ty_size134 : tsize Try.prog 134 = (some 1) := by kernel_rfl
@[go_sem] theorem ty_bytes134 : tbytes Try.prog 134 = (some 8) := by kernel_rfl
@[go_sem] theorem ty_zero134 : tzero Try.prog 134 = (some (Value.int IntKind.u64 0)) := by kernel_rfl
@[go_sem] theorem ty_agg134 : tagg Try.prog 134 = (some false) := by kernel_rfl
@[go_sem] theorem ty_und134 : Program.underlying Try.prog 134 = (some (TypeDesc.int IntKind.u64)) := by kernel_rfl
@[go_sem] theorem ty_elem134 : telem Try.prog 134 = none := by kernel_rfl
@[go_sem] theorem ty_size135 : tsize Try.prog 135 = (some 25) := by kernel_rfl
@[go_sem] theorem ty_bytes135 : tbytes Try.prog 135 = (some 200) := by kernel_rfl
@[go_sem] theorem ty_zero135 : tzero Try.prog 135 = (some (Value.agg #[(Value.int IntKind.u64 0), (Value.int IntKind.u64 0), (Value.int IntKind.u64 0), (Value.int IntKind.u64 0), (Value.int IntKind.u64 0), (Value.int IntKind.u64 0), (Value.int IntKind.u64 0), (Value.int IntKind.u64 0), (Value.int IntKind.u64 0), (Value.int IntKind.u64 0), (Value.int IntKind.u64 0), (Value.int IntKind.u64 0), (Value.int IntKind.u64 0), (Value.int IntKind.u64 0), (Value.int IntKind.u64 0), (Value.int IntKind.u64 0), (Value.int IntKind.u64 0), (Value.int IntKind.u64 0), (Value.int IntKind.u64 0), (Value.int IntKind.u64 0), (Value.int IntKind.u64 0), (Value.int IntKind.u64 0), (Value.int IntKind.u64 0), (Value.int IntKind.u64 0), (Value.int IntKind.u64 0)])) := by kernel_rfl
@[go_sem] theorem ty_agg135 : tagg Try.prog 135 = (some true) := by kernel_rfl
@[go_sem] theorem ty_und135 : Program.underlying Try.prog 135 = (some (TypeDesc.array 25 134)) := by kernel_rfl
@[go_sem] theorem ty_elem135 : telem Try.prog 135 = none := by kernel_rfl
@[go_sem] theorem ty_size165 : tsize Try.prog 165 = (some 1) := by kernel_rfl
@[go_sem] theorem ty_bytes165 : tbytes Try.prog 165 = (some 8) := by kernel_rfl
@[go_sem] theorem ty_zero165 : tzero Try.prog 165 = (some Value.nilFunc) := by kernel_rfl
@[go_sem] theorem ty_agg165 : tagg Try.prog 165 = (some false) := by kernel_rfl
@[go_sem] theorem ty_und165 : Program.underlying Try.prog 165 = (some (TypeDesc.func #[68] #[4] false)) := by kernel_rfl
@[go_sem] theorem ty_elem165 : telem Try.prog 165 = none := by kernel_rfl
@[go_sem] theorem ty_size167 : tsize Try.prog 167 = (some 1) := by kernel_rfl
@[go_sem] theorem ty_bytes167 : tbytes Try.prog 167 = (some 8) := by kernel_rfl
@[go_sem] theorem ty_zero167 : tzero Try.prog 167 = (some Value.nilFunc) := by kernel_rfl
@[go_sem] theorem ty_agg167 : tagg Try.prog 167 = (some false) := by kernel_rfl
@[go_sem] theorem ty_und167 : Program.underlying Try.prog 167 = (some (TypeDesc.func #[99] #[4] false)) := by kernel_rfl
@[go_sem] theorem ty_elem167 : telem Try.prog 167 = none := by kernel_rfl
@[go_sem] theorem ty_size178 : tsize Try.prog 178 = (some 5) := by kernel_rfl
@[go_sem] theorem ty_bytes178 : tbytes Try.prog 178 = (some 40) := by kernel_rfl
@[go_sem] theorem ty_zero178 : tzero Try.prog 178 = (some (Value.agg #[(Value.int IntKind.u64 0), (Value.int IntKind.u64 0), (Value.int IntKind.u64 0), (Value.int IntKind.u64 0), (Value.int IntKind.u64 0)])) := by kernel_rfl
@[go_sem] theorem ty_agg178 : tagg Try.prog 178 = (some true) := by kernel_rfl
@[go_sem] theorem ty_und178 : Program.underlying Try.prog 178 = (some (TypeDesc.array 5 134)) := by kernel_rfl
@[go_sem] theorem ty_elem178 : telem Try.prog 178 = none := by kernel_rfl
@[go_sem] theorem ty_size181 : tsize Try.prog 181 = (some 1) := by kernel_rfl
@[go_sem] theorem ty_bytes181 : tbytes Try.prog 181 = (some 24) := by kernel_rfl
@[go_sem] theorem ty_zero181 : tzero Try.prog 181 = (some (Value.slice none 0 0)) := by kernel_rfl
@[go_sem] theorem ty_agg181 : tagg Try.prog 181 = (some false) := by kernel_rfl
@[go_sem] theorem ty_und181 : Program.underlying Try.prog 181 = (some (TypeDesc.slice 134)) := by kernel_rfl
@[go_sem] theorem ty_elem181 : telem Try.prog 181 = (some 134) := by kernel_rfl
end Go.Ab
