/-
  One text of the proof (own work): contracts of functions of the program, by the abstract machine.
-/
import Derived.Test.YtdodjhiofpiaaaaDoorChecked
import Derived.Test.YtdodjhiofpiaaaaDoorX19
import Derived.Test.YtdodjhiofpiaaaaDoorX21
set_option linter.unusedVariables false
set_option linter.unusedSimpArgs false
namespace Go.Ab
open Go Go.RowKit Go.Proofs
@[go_sem] theorem ty_size3 : tsize Tryd.prog 3 = (Option.some 1) := by kernel_rfl
@[go_sem] theorem ty_bytes3 : tbytes Tryd.prog 3 = (Option.some 8) := by kernel_rfl
@[go_sem] theorem ty_zero3 : tzero Tryd.prog 3 = (Option.some (Go.Value.int Go.IntKind.i64 0)) := by kernel_rfl
@[go_sem] theorem ty_agg3 : tagg Tryd.prog 3 = (Option.some Bool.false) := by kernel_rfl
@[go_sem] theorem ty_und3 : Program.underlying Tryd.prog 3 = (Option.some (Go.TypeDesc.int Go.IntKind.i64)) := by kernel_rfl
@[go_sem] theorem ty_elem3 : telem Tryd.prog 3 = Option.none := by kernel_rfl
@[go_sem] theorem ty_size4 : tsize Tryd.prog 4 = (Option.some 1) := by kernel_rfl
@[go_sem] theorem ty_bytes4 : tbytes Tryd.prog 4 = (Option.some 1) := by kernel_rfl
@[go_sem] theorem ty_zero4 : tzero Tryd.prog 4 = (Option.some (Go.Value.bool Bool.false)) := by kernel_rfl
@[go_sem] theorem ty_agg4 : tagg Tryd.prog 4 = (Option.some Bool.false) := by kernel_rfl
@[go_sem] theorem ty_und4 : Program.underlying Tryd.prog 4 = (Option.some Go.TypeDesc.bool) := by kernel_rfl
@[go_sem] theorem ty_elem4 : telem Tryd.prog 4 = Option.none := by kernel_rfl
@[go_sem] theorem ty_size5 : tsize Tryd.prog 5 = (Option.some 1) := by kernel_rfl
@[go_sem] theorem ty_bytes5 : tbytes Tryd.prog 5 = (Option.some 1) := by kernel_rfl
@[go_sem] theorem ty_zero5 : tzero Tryd.prog 5 = (Option.some (Go.Value.int Go.IntKind.u8 0)) := by kernel_rfl
@[go_sem] theorem ty_agg5 : tagg Tryd.prog 5 = (Option.some Bool.false) := by kernel_rfl
@[go_sem] theorem ty_und5 : Program.underlying Tryd.prog 5 = (Option.some (Go.TypeDesc.int Go.IntKind.u8)) := by kernel_rfl
@[go_sem] theorem ty_elem5 : telem Tryd.prog 5 = Option.none := by kernel_rfl
@[go_sem] theorem ty_size9 : tsize Tryd.prog 9 = (Option.some 1) := by kernel_rfl
@[go_sem] theorem ty_bytes9 : tbytes Tryd.prog 9 = (Option.some 16) := by kernel_rfl
@[go_sem] theorem ty_zero9 : tzero Tryd.prog 9 = (Option.some (Go.Value.string ⟨#[]⟩)) := by kernel_rfl
@[go_sem] theorem ty_agg9 : tagg Tryd.prog 9 = (Option.some Bool.false) := by kernel_rfl
@[go_sem] theorem ty_und9 : Program.underlying Tryd.prog 9 = (Option.some Go.TypeDesc.string) := by kernel_rfl
@[go_sem] theorem ty_elem9 : telem Tryd.prog 9 = Option.none := by kernel_rfl
@[go_sem] theorem ty_size21 : tsize Tryd.prog 21 = (Option.some 1) := by kernel_rfl
@[go_sem] theorem ty_bytes21 : tbytes Tryd.prog 21 = (Option.some 4) := by kernel_rfl
@[go_sem] theorem ty_zero21 : tzero Tryd.prog 21 = (Option.some (Go.Value.int Go.IntKind.i32 0)) := by kernel_rfl
@[go_sem] theorem ty_agg21 : tagg Tryd.prog 21 = (Option.some Bool.false) := by kernel_rfl
@[go_sem] theorem ty_und21 : Program.underlying Tryd.prog 21 = (Option.some (Go.TypeDesc.int Go.IntKind.i32)) := by kernel_rfl
@[go_sem] theorem ty_elem21 : telem Tryd.prog 21 = Option.none := by kernel_rfl
@[go_sem] theorem ty_size22 : tsize Tryd.prog 22 = (Option.some 1) := by kernel_rfl
@[go_sem] theorem ty_bytes22 : tbytes Tryd.prog 22 = (Option.some 24) := by kernel_rfl
@[go_sem] theorem ty_zero22 : tzero Tryd.prog 22 = (Option.some (Go.Value.slice Option.none 0 0)) := by kernel_rfl
@[go_sem] theorem ty_agg22 : tagg Tryd.prog 22 = (Option.some Bool.false) := by kernel_rfl
@[go_sem] theorem ty_und22 : Program.underlying Tryd.prog 22 = (Option.some (Go.TypeDesc.slice 34)) := by kernel_rfl
@[go_sem] theorem ty_elem22 : telem Tryd.prog 22 = (Option.some 34) := by kernel_rfl
@[go_sem] theorem ty_size25 : tsize Tryd.prog 25 = (Option.some 1) := by kernel_rfl
@[go_sem] theorem ty_bytes25 : tbytes Tryd.prog 25 = (Option.some 8) := by kernel_rfl
@[go_sem] theorem ty_zero25 : tzero Tryd.prog 25 = (Option.some (Go.Value.int Go.IntKind.i64 0)) := by kernel_rfl
@[go_sem] theorem ty_agg25 : tagg Tryd.prog 25 = (Option.some Bool.false) := by kernel_rfl
@[go_sem] theorem ty_und25 : Program.underlying Tryd.prog 25 = (Option.some (Go.TypeDesc.int Go.IntKind.i64)) := by kernel_rfl
@[go_sem] theorem ty_elem25 : telem Tryd.prog 25 = Option.none := by kernel_rfl
@[go_sem] theorem ty_size32 : tsize Tryd.prog 32 = (Option.some 1) := by kernel_rfl
@[go_sem] theorem ty_bytes32 : tbytes Tryd.prog 32 = (Option.some 24) := by kernel_rfl
@[go_sem] theorem ty_zero32 : tzero Tryd.prog 32 = (Option.some (Go.Value.slice Option.none 0 0)) := by kernel_rfl
@[go_sem] theorem ty_agg32 : tagg Tryd.prog 32 = (Option.some Bool.false) := by kernel_rfl
@[go_sem] theorem ty_und32 : Program.underlying Tryd.prog 32 = (Option.some (Go.TypeDesc.slice 9)) := by kernel_rfl
@[go_sem] theorem ty_elem32 : telem Tryd.prog 32 = (Option.some 9) := by kernel_rfl
@[go_sem] theorem ty_size33 : tsize Tryd.prog 33 = (Option.some 6) := by kernel_rfl
@[go_sem] theorem ty_bytes33 : tbytes Tryd.prog 33 = (Option.some 104) := by kernel_rfl
@[go_sem] theorem ty_zero33 : tzero Tryd.prog 33 = (Option.some (Go.Value.agg #[(Go.Value.int Go.IntKind.i64 0), (Go.Value.int Go.IntKind.i64 0), (Go.Value.slice Option.none 0 0), (Go.Value.slice Option.none 0 0), (Go.Value.slice Option.none 0 0), (Go.Value.string ⟨#[]⟩)])) := by kernel_rfl
@[go_sem] theorem ty_agg33 : tagg Tryd.prog 33 = (Option.some Bool.true) := by kernel_rfl
@[go_sem] theorem ty_field33_0 : tfield Tryd.prog 33 0 = (Option.some ⟨"Line", 3, 0, Bool.false, "", "", 0⟩) := by kernel_rfl
@[go_sem] theorem ty_field33_1 : tfield Tryd.prog 33 1 = (Option.some ⟨"Kind", 3, 1, Bool.false, "", "", 8⟩) := by kernel_rfl
@[go_sem] theorem ty_field33_2 : tfield Tryd.prog 33 2 = (Option.some ⟨"In", 32, 2, Bool.false, "", "", 16⟩) := by kernel_rfl
@[go_sem] theorem ty_field33_3 : tfield Tryd.prog 33 3 = (Option.some ⟨"Using", 32, 3, Bool.false, "", "", 40⟩) := by kernel_rfl
@[go_sem] theorem ty_field33_4 : tfield Tryd.prog 33 4 = (Option.some ⟨"Words", 32, 4, Bool.false, "", "", 64⟩) := by kernel_rfl
@[go_sem] theorem ty_field33_5 : tfield Tryd.prog 33 5 = (Option.some ⟨"Out", 9, 5, Bool.false, "", "", 88⟩) := by kernel_rfl
@[go_sem] theorem ty_build33 (parts : List (Nat × AV)) : abuild Tryd.prog 33 parts = (setCells [(Go.Ab.AV.data (Go.Ab.D.int Go.IntKind.i64 0)), (Go.Ab.AV.data (Go.Ab.D.int Go.IntKind.i64 0)), Go.Ab.AV.nils, Go.Ab.AV.nils, Go.Ab.AV.nils, (Go.Ab.AV.data (Go.Ab.D.str []))] ([(0, 1), (1, 1), (2, 1), (3, 1), (4, 1), (5, 1)][·]?) parts).map mkAgg := abuild_of (z := (Go.Value.agg #[(Go.Value.int Go.IntKind.i64 0), (Go.Value.int Go.IntKind.i64 0), (Go.Value.slice Option.none 0 0), (Go.Value.slice Option.none 0 0), (Go.Value.slice Option.none 0 0), (Go.Value.string ⟨#[]⟩)])) (by kernel_rfl) (by kernel_rfl) (by kernel_rfl)
@[go_sem] theorem ty_size34 : tsize Tryd.prog 34 = (Option.some 6) := by kernel_rfl
@[go_sem] theorem ty_bytes34 : tbytes Tryd.prog 34 = (Option.some 104) := by kernel_rfl
@[go_sem] theorem ty_zero34 : tzero Tryd.prog 34 = (Option.some (Go.Value.agg #[(Go.Value.int Go.IntKind.i64 0), (Go.Value.int Go.IntKind.i64 0), (Go.Value.slice Option.none 0 0), (Go.Value.slice Option.none 0 0), (Go.Value.slice Option.none 0 0), (Go.Value.string ⟨#[]⟩)])) := by kernel_rfl
@[go_sem] theorem ty_agg34 : tagg Tryd.prog 34 = (Option.some Bool.true) := by kernel_rfl
@[go_sem] theorem ty_field34_0 : tfield Tryd.prog 34 0 = (Option.some ⟨"Line", 3, 0, Bool.false, "", "", 0⟩) := by kernel_rfl
@[go_sem] theorem ty_field34_1 : tfield Tryd.prog 34 1 = (Option.some ⟨"Kind", 3, 1, Bool.false, "", "", 8⟩) := by kernel_rfl
@[go_sem] theorem ty_field34_2 : tfield Tryd.prog 34 2 = (Option.some ⟨"In", 32, 2, Bool.false, "", "", 16⟩) := by kernel_rfl
@[go_sem] theorem ty_field34_3 : tfield Tryd.prog 34 3 = (Option.some ⟨"Using", 32, 3, Bool.false, "", "", 40⟩) := by kernel_rfl
@[go_sem] theorem ty_field34_4 : tfield Tryd.prog 34 4 = (Option.some ⟨"Words", 32, 4, Bool.false, "", "", 64⟩) := by kernel_rfl
@[go_sem] theorem ty_field34_5 : tfield Tryd.prog 34 5 = (Option.some ⟨"Out", 9, 5, Bool.false, "", "", 88⟩) := by kernel_rfl
@[go_sem] theorem ty_build34 (parts : List (Nat × AV)) : abuild Tryd.prog 34 parts = (setCells [(Go.Ab.AV.data (Go.Ab.D.int Go.IntKind.i64 0)), (Go.Ab.AV.data (Go.Ab.D.int Go.IntKind.i64 0)), Go.Ab.AV.nils, Go.Ab.AV.nils, Go.Ab.AV.nils, (Go.Ab.AV.data (Go.Ab.D.str []))] ([(0, 1), (1, 1), (2, 1), (3, 1), (4, 1), (5, 1)][·]?) parts).map mkAgg := abuild_of (z := (Go.Value.agg #[(Go.Value.int Go.IntKind.i64 0), (Go.Value.int Go.IntKind.i64 0), (Go.Value.slice Option.none 0 0), (Go.Value.slice Option.none 0 0), (Go.Value.slice Option.none 0 0), (Go.Value.string ⟨#[]⟩)])) (by kernel_rfl) (by kernel_rfl) (by kernel_rfl)
@[go_sem] theorem ty_size36 : tsize Tryd.prog 36 = (Option.some 1) := by kernel_rfl
@[go_sem] theorem ty_bytes36 : tbytes Tryd.prog 36 = (Option.some 8) := by kernel_rfl
@[go_sem] theorem ty_zero36 : tzero Tryd.prog 36 = (Option.some Go.Value.nilFunc) := by kernel_rfl
@[go_sem] theorem ty_agg36 : tagg Tryd.prog 36 = (Option.some Bool.false) := by kernel_rfl
@[go_sem] theorem ty_und36 : Program.underlying Tryd.prog 36 = (Option.some (Go.TypeDesc.func #[34] #[4] Bool.false)) := by kernel_rfl
@[go_sem] theorem ty_elem36 : telem Tryd.prog 36 = Option.none := by kernel_rfl
@[go_sem] theorem ty_size41 : tsize Tryd.prog 41 = (Option.some 1) := by kernel_rfl
@[go_sem] theorem ty_bytes41 : tbytes Tryd.prog 41 = (Option.some 8) := by kernel_rfl
@[go_sem] theorem ty_zero41 : tzero Tryd.prog 41 = (Option.some Go.Value.nilFunc) := by kernel_rfl
@[go_sem] theorem ty_agg41 : tagg Tryd.prog 41 = (Option.some Bool.false) := by kernel_rfl
@[go_sem] theorem ty_und41 : Program.underlying Tryd.prog 41 = (Option.some (Go.TypeDesc.func #[9] #[4] Bool.false)) := by kernel_rfl
@[go_sem] theorem ty_elem41 : telem Tryd.prog 41 = Option.none := by kernel_rfl
@[go_sem] theorem ty_size57 : tsize Tryd.prog 57 = (Option.some 256) := by kernel_rfl
@[go_sem] theorem ty_bytes57 : tbytes Tryd.prog 57 = (Option.some 256) := by kernel_rfl
@[go_sem] theorem ty_zero57 : tzero Tryd.prog 57 = (Option.some (Go.Value.agg #[(Go.Value.bool Bool.false), (Go.Value.bool Bool.false), (Go.Value.bool Bool.false), (Go.Value.bool Bool.false), (Go.Value.bool Bool.false), (Go.Value.bool Bool.false), (Go.Value.bool Bool.false), (Go.Value.bool Bool.false), (Go.Value.bool Bool.false), (Go.Value.bool Bool.false), (Go.Value.bool Bool.false), (Go.Value.bool Bool.false), (Go.Value.bool Bool.false), (Go.Value.bool Bool.false), (Go.Value.bool Bool.false), (Go.Value.bool Bool.false), (Go.Value.bool Bool.false), (Go.Value.bool Bool.false), (Go.Value.bool Bool.false), (Go.Value.bool Bool.false), (Go.Value.bool Bool.false), (Go.Value.bool Bool.false), (Go.Value.bool Bool.false), (Go.Value.bool Bool.false), (Go.Value.bool Bool.false), (Go.Value.bool Bool.false), (Go.Value.bool Bool.false), (Go.Value.bool Bool.false), (Go.Value.bool Bool.false), (Go.Value.bool Bool.false), (Go.Value.bool Bool.false), (Go.Value.bool Bool.false), (Go.Value.bool Bool.false), (Go.Value.bool Bool.false), (Go.Value.bool Bool.false), (Go.Value.bool Bool.false), (Go.Value.bool Bool.false), (Go.Value.bool Bool.false), (Go.Value.bool Bool.false), (Go.Value.bool Bool.false), (Go.Value.bool Bool.false), (Go.Value.bool Bool.false), (Go.Value.bool Bool.false), (Go.Value.bool Bool.false), (Go.Value.bool Bool.false), (Go.Value.bool Bool.false), (Go.Value.bool Bool.false), (Go.Value.bool Bool.false), (Go.Value.bool Bool.false), (Go.Value.bool Bool.false), (Go.Value.bool Bool.false), (Go.Value.bool Bool.false), (Go.Value.bool Bool.false), (Go.Value.bool Bool.false), (Go.Value.bool Bool.false), (Go.Value.bool Bool.false), (Go.Value.bool Bool.false), (Go.Value.bool Bool.false), (Go.Value.bool Bool.false), (Go.Value.bool Bool.false), (Go.Value.bool Bool.false), (Go.Value.bool Bool.false), (Go.Value.bool Bool.false), (Go.Value.bool Bool.false), (Go.Value.bool Bool.false), (Go.Value.bool Bool.false), (Go.Value.bool Bool.false), (Go.Value.bool Bool.false), (Go.Value.bool Bool.false), (Go.Value.bool Bool.false), (Go.Value.bool Bool.false), (Go.Value.bool Bool.false), (Go.Value.bool Bool.false), (Go.Value.bool Bool.false), (Go.Value.bool Bool.false), (Go.Value.bool Bool.false), (Go.Value.bool Bool.false), (Go.Value.bool Bool.false), (Go.Value.bool Bool.false), (Go.Value.bool Bool.false), (Go.Value.bool Bool.false), (Go.Value.bool Bool.false), (Go.Value.bool Bool.false), (Go.Value.bool Bool.false), (Go.Value.bool Bool.false), (Go.Value.bool Bool.false), (Go.Value.bool Bool.false), (Go.Value.bool Bool.false), (Go.Value.bool Bool.false), (Go.Value.bool Bool.false), (Go.Value.bool Bool.false), (Go.Value.bool Bool.false), (Go.Value.bool Bool.false), (Go.Value.bool Bool.false), (Go.Value.bool Bool.false), (Go.Value.bool Bool.false), (Go.Value.bool Bool.false), (Go.Value.bool Bool.false), (Go.Value.bool Bool.false), (Go.Value.bool Bool.false), (Go.Value.bool Bool.false), (Go.Value.bool Bool.false), (Go.Value.bool Bool.false), (Go.Value.bool Bool.false), (Go.Value.bool Bool.false), (Go.Value.bool Bool.false), (Go.Value.bool Bool.false), (Go.Value.bool Bool.false), (Go.Value.bool Bool.false), (Go.Value.bool Bool.false), (Go.Value.bool Bool.false), (Go.Value.bool Bool.false), (Go.Value.bool Bool.false), (Go.Value.bool Bool.false), (Go.Value.bool Bool.false), (Go.Value.bool Bool.false), (Go.Value.bool Bool.false), (Go.Value.bool Bool.false), (Go.Value.bool Bool.false), (Go.Value.bool Bool.false), (Go.Value.bool Bool.false), (Go.Value.bool Bool.false), (Go.Value.bool Bool.false), (Go.Value.bool Bool.false), (Go.Value.bool Bool.false), (Go.Value.bool Bool.false), (Go.Value.bool Bool.false), (Go.Value.bool Bool.false), (Go.Value.bool Bool.false), (Go.Value.bool Bool.false), (Go.Value.bool Bool.false), (Go.Value.bool Bool.false), (Go.Value.bool Bool.false), (Go.Value.bool Bool.false), (Go.Value.bool Bool.false), (Go.Value.bool Bool.false), (Go.Value.bool Bool.false), (Go.Value.bool Bool.false), (Go.Value.bool Bool.false), (Go.Value.bool Bool.false), (Go.Value.bool Bool.false), (Go.Value.bool Bool.false), (Go.Value.bool Bool.false), (Go.Value.bool Bool.false), (Go.Value.bool Bool.false), (Go.Value.bool Bool.false), (Go.Value.bool Bool.false), (Go.Value.bool Bool.false), (Go.Value.bool Bool.false), (Go.Value.bool Bool.false), (Go.Value.bool Bool.false), (Go.Value.bool Bool.false), (Go.Value.bool Bool.false), (Go.Value.bool Bool.false), (Go.Value.bool Bool.false), (Go.Value.bool Bool.false), (Go.Value.bool Bool.false), (Go.Value.bool Bool.false), (Go.Value.bool Bool.false), (Go.Value.bool Bool.false), (Go.Value.bool Bool.false), (Go.Value.bool Bool.false), (Go.Value.bool Bool.false), (Go.Value.bool Bool.false), (Go.Value.bool Bool.false), (Go.Value.bool Bool.false), (Go.Value.bool Bool.false), (Go.Value.bool Bool.false), (Go.Value.bool Bool.false), (Go.Value.bool Bool.false), (Go.Value.bool Bool.false), (Go.Value.bool Bool.false), (Go.Value.bool Bool.false), (Go.Value.bool Bool.false), (Go.Value.bool Bool.false), (Go.Value.bool Bool.false), (Go.Value.bool Bool.false), (Go.Value.bool Bool.false), (Go.Value.bool Bool.false), (Go.Value.bool Bool.false), (Go.Value.bool Bool.false), (Go.Value.bool Bool.false), (Go.Value.bool Bool.false), (Go.Value.bool Bool.false), (Go.Value.bool Bool.false), (Go.Value.bool Bool.false), (Go.Value.bool Bool.false), (Go.Value.bool Bool.false), (Go.Value.bool Bool.false), (Go.Value.bool Bool.false), (Go.Value.bool Bool.false), (Go.Value.bool Bool.false), (Go.Value.bool Bool.false), (Go.Value.bool Bool.false), (Go.Value.bool Bool.false), (Go.Value.bool Bool.false), (Go.Value.bool Bool.false), (Go.Value.bool Bool.false), (Go.Value.bool Bool.false), (Go.Value.bool Bool.false), (Go.Value.bool Bool.false), (Go.Value.bool Bool.false), (Go.Value.bool Bool.false), (Go.Value.bool Bool.false), (Go.Value.bool Bool.false), (Go.Value.bool Bool.false), (Go.Value.bool Bool.false), (Go.Value.bool Bool.false), (Go.Value.bool Bool.false), (Go.Value.bool Bool.false), (Go.Value.bool Bool.false), (Go.Value.bool Bool.false), (Go.Value.bool Bool.false), (Go.Value.bool Bool.false), (Go.Value.bool Bool.false), (Go.Value.bool Bool.false), (Go.Value.bool Bool.false), (Go.Value.bool Bool.false), (Go.Value.bool Bool.false), (Go.Value.bool Bool.false), (Go.Value.bool Bool.false), (Go.Value.bool Bool.false), (Go.Value.bool Bool.false), (Go.Value.bool Bool.false), (Go.Value.bool Bool.false), (Go.Value.bool Bool.false), (Go.Value.bool Bool.false), (Go.Value.bool Bool.false), (Go.Value.bool Bool.false), (Go.Value.bool Bool.false), (Go.Value.bool Bool.false), (Go.Value.bool Bool.false), (Go.Value.bool Bool.false), (Go.Value.bool Bool.false), (Go.Value.bool Bool.false), (Go.Value.bool Bool.false), (Go.Value.bool Bool.false), (Go.Value.bool Bool.false), (Go.Value.bool Bool.false), (Go.Value.bool Bool.false), (Go.Value.bool Bool.false), (Go.Value.bool Bool.false), (Go.Value.bool Bool.false), (Go.Value.bool Bool.false), (Go.Value.bool Bool.false), (Go.Value.bool Bool.false), (Go.Value.bool Bool.false), (Go.Value.bool Bool.false), (Go.Value.bool Bool.false), (Go.Value.bool Bool.false), (Go.Value.bool Bool.false), (Go.Value.bool Bool.false), (Go.Value.bool Bool.false), (Go.Value.bool Bool.false), (Go.Value.bool Bool.false), (Go.Value.bool Bool.false)])) := by kernel_rfl
@[go_sem] theorem ty_agg57 : tagg Tryd.prog 57 = (Option.some Bool.true) := by kernel_rfl
@[go_sem] theorem ty_und57 : Program.underlying Tryd.prog 57 = (Option.some (Go.TypeDesc.array 256 4)) := by kernel_rfl
@[go_sem] theorem ty_elem57 : telem Tryd.prog 57 = Option.none := by kernel_rfl
@[go_sem] theorem ty_size58 : tsize Tryd.prog 58 = (Option.some 256) := by kernel_rfl
@[go_sem] theorem ty_bytes58 : tbytes Tryd.prog 58 = (Option.some 256) := by kernel_rfl
@[go_sem] theorem ty_zero58 : tzero Tryd.prog 58 = (Option.some (Go.Value.agg #[(Go.Value.bool Bool.false), (Go.Value.bool Bool.false), (Go.Value.bool Bool.false), (Go.Value.bool Bool.false), (Go.Value.bool Bool.false), (Go.Value.bool Bool.false), (Go.Value.bool Bool.false), (Go.Value.bool Bool.false), (Go.Value.bool Bool.false), (Go.Value.bool Bool.false), (Go.Value.bool Bool.false), (Go.Value.bool Bool.false), (Go.Value.bool Bool.false), (Go.Value.bool Bool.false), (Go.Value.bool Bool.false), (Go.Value.bool Bool.false), (Go.Value.bool Bool.false), (Go.Value.bool Bool.false), (Go.Value.bool Bool.false), (Go.Value.bool Bool.false), (Go.Value.bool Bool.false), (Go.Value.bool Bool.false), (Go.Value.bool Bool.false), (Go.Value.bool Bool.false), (Go.Value.bool Bool.false), (Go.Value.bool Bool.false), (Go.Value.bool Bool.false), (Go.Value.bool Bool.false), (Go.Value.bool Bool.false), (Go.Value.bool Bool.false), (Go.Value.bool Bool.false), (Go.Value.bool Bool.false), (Go.Value.bool Bool.false), (Go.Value.bool Bool.false), (Go.Value.bool Bool.false), (Go.Value.bool Bool.false), (Go.Value.bool Bool.false), (Go.Value.bool Bool.false), (Go.Value.bool Bool.false), (Go.Value.bool Bool.false), (Go.Value.bool Bool.false), (Go.Value.bool Bool.false), (Go.Value.bool Bool.false), (Go.Value.bool Bool.false), (Go.Value.bool Bool.false), (Go.Value.bool Bool.false), (Go.Value.bool Bool.false), (Go.Value.bool Bool.false), (Go.Value.bool Bool.false), (Go.Value.bool Bool.false), (Go.Value.bool Bool.false), (Go.Value.bool Bool.false), (Go.Value.bool Bool.false), (Go.Value.bool Bool.false), (Go.Value.bool Bool.false), (Go.Value.bool Bool.false), (Go.Value.bool Bool.false), (Go.Value.bool Bool.false), (Go.Value.bool Bool.false), (Go.Value.bool Bool.false), (Go.Value.bool Bool.false), (Go.Value.bool Bool.false), (Go.Value.bool Bool.false), (Go.Value.bool Bool.false), (Go.Value.bool Bool.false), (Go.Value.bool Bool.false), (Go.Value.bool Bool.false), (Go.Value.bool Bool.false), (Go.Value.bool Bool.false), (Go.Value.bool Bool.false), (Go.Value.bool Bool.false), (Go.Value.bool Bool.false), (Go.Value.bool Bool.false), (Go.Value.bool Bool.false), (Go.Value.bool Bool.false), (Go.Value.bool Bool.false), (Go.Value.bool Bool.false), (Go.Value.bool Bool.false), (Go.Value.bool Bool.false), (Go.Value.bool Bool.false), (Go.Value.bool Bool.false), (Go.Value.bool Bool.false), (Go.Value.bool Bool.false), (Go.Value.bool Bool.false), (Go.Value.bool Bool.false), (Go.Value.bool Bool.false), (Go.Value.bool Bool.false), (Go.Value.bool Bool.false), (Go.Value.bool Bool.false), (Go.Value.bool Bool.false), (Go.Value.bool Bool.false), (Go.Value.bool Bool.false), (Go.Value.bool Bool.false), (Go.Value.bool Bool.false), (Go.Value.bool Bool.false), (Go.Value.bool Bool.false), (Go.Value.bool Bool.false), (Go.Value.bool Bool.false), (Go.Value.bool Bool.false), (Go.Value.bool Bool.false), (Go.Value.bool Bool.false), (Go.Value.bool Bool.false), (Go.Value.bool Bool.false), (Go.Value.bool Bool.false), (Go.Value.bool Bool.false), (Go.Value.bool Bool.false), (Go.Value.bool Bool.false), (Go.Value.bool Bool.false), (Go.Value.bool Bool.false), (Go.Value.bool Bool.false), (Go.Value.bool Bool.false), (Go.Value.bool Bool.false), (Go.Value.bool Bool.false), (Go.Value.bool Bool.false), (Go.Value.bool Bool.false), (Go.Value.bool Bool.false), (Go.Value.bool Bool.false), (Go.Value.bool Bool.false), (Go.Value.bool Bool.false), (Go.Value.bool Bool.false), (Go.Value.bool Bool.false), (Go.Value.bool Bool.false), (Go.Value.bool Bool.false), (Go.Value.bool Bool.false), (Go.Value.bool Bool.false), (Go.Value.bool Bool.false), (Go.Value.bool Bool.false), (Go.Value.bool Bool.false), (Go.Value.bool Bool.false), (Go.Value.bool Bool.false), (Go.Value.bool Bool.false), (Go.Value.bool Bool.false), (Go.Value.bool Bool.false), (Go.Value.bool Bool.false), (Go.Value.bool Bool.false), (Go.Value.bool Bool.false), (Go.Value.bool Bool.false), (Go.Value.bool Bool.false), (Go.Value.bool Bool.false), (Go.Value.bool Bool.false), (Go.Value.bool Bool.false), (Go.Value.bool Bool.false), (Go.Value.bool Bool.false), (Go.Value.bool Bool.false), (Go.Value.bool Bool.false), (Go.Value.bool Bool.false), (Go.Value.bool Bool.false), (Go.Value.bool Bool.false), (Go.Value.bool Bool.false), (Go.Value.bool Bool.false), (Go.Value.bool Bool.false), (Go.Value.bool Bool.false), (Go.Value.bool Bool.false), (Go.Value.bool Bool.false), (Go.Value.bool Bool.false), (Go.Value.bool Bool.false), (Go.Value.bool Bool.false), (Go.Value.bool Bool.false), (Go.Value.bool Bool.false), (Go.Value.bool Bool.false), (Go.Value.bool Bool.false), (Go.Value.bool Bool.false), (Go.Value.bool Bool.false), (Go.Value.bool Bool.false), (Go.Value.bool Bool.false), (Go.Value.bool Bool.false), (Go.Value.bool Bool.false), (Go.Value.bool Bool.false), (Go.Value.bool Bool.false), (Go.Value.bool Bool.false), (Go.Value.bool Bool.false), (Go.Value.bool Bool.false), (Go.Value.bool Bool.false), (Go.Value.bool Bool.false), (Go.Value.bool Bool.false), (Go.Value.bool Bool.false), (Go.Value.bool Bool.false), (Go.Value.bool Bool.false), (Go.Value.bool Bool.false), (Go.Value.bool Bool.false), (Go.Value.bool Bool.false), (Go.Value.bool Bool.false), (Go.Value.bool Bool.false), (Go.Value.bool Bool.false), (Go.Value.bool Bool.false), (Go.Value.bool Bool.false), (Go.Value.bool Bool.false), (Go.Value.bool Bool.false), (Go.Value.bool Bool.false), (Go.Value.bool Bool.false), (Go.Value.bool Bool.false), (Go.Value.bool Bool.false), (Go.Value.bool Bool.false), (Go.Value.bool Bool.false), (Go.Value.bool Bool.false), (Go.Value.bool Bool.false), (Go.Value.bool Bool.false), (Go.Value.bool Bool.false), (Go.Value.bool Bool.false), (Go.Value.bool Bool.false), (Go.Value.bool Bool.false), (Go.Value.bool Bool.false), (Go.Value.bool Bool.false), (Go.Value.bool Bool.false), (Go.Value.bool Bool.false), (Go.Value.bool Bool.false), (Go.Value.bool Bool.false), (Go.Value.bool Bool.false), (Go.Value.bool Bool.false), (Go.Value.bool Bool.false), (Go.Value.bool Bool.false), (Go.Value.bool Bool.false), (Go.Value.bool Bool.false), (Go.Value.bool Bool.false), (Go.Value.bool Bool.false), (Go.Value.bool Bool.false), (Go.Value.bool Bool.false), (Go.Value.bool Bool.false), (Go.Value.bool Bool.false), (Go.Value.bool Bool.false), (Go.Value.bool Bool.false), (Go.Value.bool Bool.false), (Go.Value.bool Bool.false), (Go.Value.bool Bool.false), (Go.Value.bool Bool.false), (Go.Value.bool Bool.false), (Go.Value.bool Bool.false), (Go.Value.bool Bool.false), (Go.Value.bool Bool.false), (Go.Value.bool Bool.false), (Go.Value.bool Bool.false), (Go.Value.bool Bool.false), (Go.Value.bool Bool.false), (Go.Value.bool Bool.false), (Go.Value.bool Bool.false), (Go.Value.bool Bool.false), (Go.Value.bool Bool.false), (Go.Value.bool Bool.false), (Go.Value.bool Bool.false), (Go.Value.bool Bool.false), (Go.Value.bool Bool.false), (Go.Value.bool Bool.false), (Go.Value.bool Bool.false), (Go.Value.bool Bool.false), (Go.Value.bool Bool.false), (Go.Value.bool Bool.false), (Go.Value.bool Bool.false), (Go.Value.bool Bool.false), (Go.Value.bool Bool.false), (Go.Value.bool Bool.false), (Go.Value.bool Bool.false), (Go.Value.bool Bool.false), (Go.Value.bool Bool.false), (Go.Value.bool Bool.false), (Go.Value.bool Bool.false), (Go.Value.bool Bool.false)])) := by kernel_rfl
@[go_sem] theorem ty_agg58 : tagg Tryd.prog 58 = (Option.some Bool.true) := by kernel_rfl
@[go_sem] theorem ty_und58 : Program.underlying Tryd.prog 58 = (Option.some (Go.TypeDesc.array 256 4)) := by kernel_rfl
@[go_sem] theorem ty_elem58 : telem Tryd.prog 58 = Option.none := by kernel_rfl
@[go_sem] theorem ty_size62 : tsize Tryd.prog 62 = (Option.some 1) := by kernel_rfl
@[go_sem] theorem ty_bytes62 : tbytes Tryd.prog 62 = (Option.some 8) := by kernel_rfl
@[go_sem] theorem ty_zero62 : tzero Tryd.prog 62 = (Option.some (Go.Value.pointer Option.none)) := by kernel_rfl
@[go_sem] theorem ty_agg62 : tagg Tryd.prog 62 = (Option.some Bool.false) := by kernel_rfl
@[go_sem] theorem ty_und62 : Program.underlying Tryd.prog 62 = (Option.some (Go.TypeDesc.pointer 58)) := by kernel_rfl
@[go_sem] theorem ty_elem62 : telem Tryd.prog 62 = Option.none := by kernel_rfl
@[go_sem] theorem ty_size63 : tsize Tryd.prog 63 = (Option.some 1) := by kernel_rfl
@[go_sem] theorem ty_bytes63 : tbytes Tryd.prog 63 = (Option.some 24) := by kernel_rfl
@[go_sem] theorem ty_zero63 : tzero Tryd.prog 63 = (Option.some (Go.Value.slice Option.none 0 0)) := by kernel_rfl
@[go_sem] theorem ty_agg63 : tagg Tryd.prog 63 = (Option.some Bool.false) := by kernel_rfl
@[go_sem] theorem ty_und63 : Program.underlying Tryd.prog 63 = (Option.some (Go.TypeDesc.slice 32)) := by kernel_rfl
@[go_sem] theorem ty_elem63 : telem Tryd.prog 63 = (Option.some 32) := by kernel_rfl
@[go_sem] theorem ty_size67 : tsize Tryd.prog 67 = (Option.some 1) := by kernel_rfl
@[go_sem] theorem ty_bytes67 : tbytes Tryd.prog 67 = (Option.some 8) := by kernel_rfl
@[go_sem] theorem ty_zero67 : tzero Tryd.prog 67 = (Option.some Go.Value.nilFunc) := by kernel_rfl
@[go_sem] theorem ty_agg67 : tagg Tryd.prog 67 = (Option.some Bool.false) := by kernel_rfl
@[go_sem] theorem ty_und67 : Program.underlying Tryd.prog 67 = (Option.some (Go.TypeDesc.func #[32] #[32] Bool.true)) := by kernel_rfl
@[go_sem] theorem ty_elem67 : telem Tryd.prog 67 = Option.none := by kernel_rfl
@[go_sem] theorem ty_size71 : tsize Tryd.prog 71 = (Option.some 1) := by kernel_rfl
@[go_sem] theorem ty_bytes71 : tbytes Tryd.prog 71 = (Option.some 24) := by kernel_rfl
@[go_sem] theorem ty_zero71 : tzero Tryd.prog 71 = (Option.some (Go.Value.slice Option.none 0 0)) := by kernel_rfl
@[go_sem] theorem ty_agg71 : tagg Tryd.prog 71 = (Option.some Bool.false) := by kernel_rfl
@[go_sem] theorem ty_und71 : Program.underlying Tryd.prog 71 = (Option.some (Go.TypeDesc.slice 77)) := by kernel_rfl
@[go_sem] theorem ty_elem71 : telem Tryd.prog 71 = (Option.some 77) := by kernel_rfl
@[go_sem] theorem ty_size74 : tsize Tryd.prog 74 = (Option.some 1) := by kernel_rfl
@[go_sem] theorem ty_bytes74 : tbytes Tryd.prog 74 = (Option.some 24) := by kernel_rfl
@[go_sem] theorem ty_zero74 : tzero Tryd.prog 74 = (Option.some (Go.Value.slice Option.none 0 0)) := by kernel_rfl
@[go_sem] theorem ty_agg74 : tagg Tryd.prog 74 = (Option.some Bool.false) := by kernel_rfl
@[go_sem] theorem ty_und74 : Program.underlying Tryd.prog 74 = (Option.some (Go.TypeDesc.slice 82)) := by kernel_rfl
@[go_sem] theorem ty_elem74 : telem Tryd.prog 74 = (Option.some 82) := by kernel_rfl
@[go_sem] theorem ty_size77 : tsize Tryd.prog 77 = (Option.some 1) := by kernel_rfl
@[go_sem] theorem ty_bytes77 : tbytes Tryd.prog 77 = (Option.some 24) := by kernel_rfl
@[go_sem] theorem ty_zero77 : tzero Tryd.prog 77 = (Option.some (Go.Value.slice Option.none 0 0)) := by kernel_rfl
@[go_sem] theorem ty_agg77 : tagg Tryd.prog 77 = (Option.some Bool.false) := by kernel_rfl
@[go_sem] theorem ty_und77 : Program.underlying Tryd.prog 77 = (Option.some (Go.TypeDesc.slice 105)) := by kernel_rfl
@[go_sem] theorem ty_elem77 : telem Tryd.prog 77 = (Option.some 105) := by kernel_rfl
@[go_sem] theorem ty_size79 : tsize Tryd.prog 79 = (Option.some 1) := by kernel_rfl
@[go_sem] theorem ty_bytes79 : tbytes Tryd.prog 79 = (Option.some 8) := by kernel_rfl
@[go_sem] theorem ty_zero79 : tzero Tryd.prog 79 = (Option.some Go.Value.nilFunc) := by kernel_rfl
@[go_sem] theorem ty_agg79 : tagg Tryd.prog 79 = (Option.some Bool.false) := by kernel_rfl
@[go_sem] theorem ty_und79 : Program.underlying Tryd.prog 79 = (Option.some (Go.TypeDesc.func #[77] #[4] Bool.false)) := by kernel_rfl
@[go_sem] theorem ty_elem79 : telem Tryd.prog 79 = Option.none := by kernel_rfl
@[go_sem] theorem ty_size81 : tsize Tryd.prog 81 = (Option.some 2) := by kernel_rfl
@[go_sem] theorem ty_bytes81 : tbytes Tryd.prog 81 = (Option.some 40) := by kernel_rfl
@[go_sem] theorem ty_zero81 : tzero Tryd.prog 81 = (Option.some (Go.Value.agg #[(Go.Value.string ⟨#[]⟩), (Go.Value.slice Option.none 0 0)])) := by kernel_rfl
@[go_sem] theorem ty_agg81 : tagg Tryd.prog 81 = (Option.some Bool.true) := by kernel_rfl
@[go_sem] theorem ty_field81_0 : tfield Tryd.prog 81 0 = (Option.some ⟨"separator", 9, 0, Bool.false, "", "licit/recipe", 0⟩) := by kernel_rfl
@[go_sem] theorem ty_field81_1 : tfield Tryd.prog 81 1 = (Option.some ⟨"words", 32, 1, Bool.false, "", "licit/recipe", 16⟩) := by kernel_rfl
@[go_sem] theorem ty_build81 (parts : List (Nat × AV)) : abuild Tryd.prog 81 parts = (setCells [(Go.Ab.AV.data (Go.Ab.D.str [])), Go.Ab.AV.nils] ([(0, 1), (1, 1)][·]?) parts).map mkAgg := abuild_of (z := (Go.Value.agg #[(Go.Value.string ⟨#[]⟩), (Go.Value.slice Option.none 0 0)])) (by kernel_rfl) (by kernel_rfl) (by kernel_rfl)
@[go_sem] theorem ty_size82 : tsize Tryd.prog 82 = (Option.some 2) := by kernel_rfl
@[go_sem] theorem ty_bytes82 : tbytes Tryd.prog 82 = (Option.some 40) := by kernel_rfl
@[go_sem] theorem ty_zero82 : tzero Tryd.prog 82 = (Option.some (Go.Value.agg #[(Go.Value.string ⟨#[]⟩), (Go.Value.slice Option.none 0 0)])) := by kernel_rfl
@[go_sem] theorem ty_agg82 : tagg Tryd.prog 82 = (Option.some Bool.true) := by kernel_rfl
@[go_sem] theorem ty_field82_0 : tfield Tryd.prog 82 0 = (Option.some ⟨"separator", 9, 0, Bool.false, "", "licit/recipe", 0⟩) := by kernel_rfl
@[go_sem] theorem ty_field82_1 : tfield Tryd.prog 82 1 = (Option.some ⟨"words", 32, 1, Bool.false, "", "licit/recipe", 16⟩) := by kernel_rfl
@[go_sem] theorem ty_build82 (parts : List (Nat × AV)) : abuild Tryd.prog 82 parts = (setCells [(Go.Ab.AV.data (Go.Ab.D.str [])), Go.Ab.AV.nils] ([(0, 1), (1, 1)][·]?) parts).map mkAgg := abuild_of (z := (Go.Value.agg #[(Go.Value.string ⟨#[]⟩), (Go.Value.slice Option.none 0 0)])) (by kernel_rfl) (by kernel_rfl) (by kernel_rfl)
@[go_sem] theorem ty_size84 : tsize Tryd.prog 84 = (Option.some 1) := by kernel_rfl
@[go_sem] theorem ty_bytes84 : tbytes Tryd.prog 84 = (Option.some 8) := by kernel_rfl
@[go_sem] theorem ty_zero84 : tzero Tryd.prog 84 = (Option.some Go.Value.nilFunc) := by kernel_rfl
@[go_sem] theorem ty_agg84 : tagg Tryd.prog 84 = (Option.some Bool.false) := by kernel_rfl
@[go_sem] theorem ty_und84 : Program.underlying Tryd.prog 84 = (Option.some (Go.TypeDesc.func #[82] #[4] Bool.false)) := by kernel_rfl
@[go_sem] theorem ty_elem84 : telem Tryd.prog 84 = Option.none := by kernel_rfl
@[go_sem] theorem ty_size90 : tsize Tryd.prog 90 = (Option.some 1) := by kernel_rfl
@[go_sem] theorem ty_bytes90 : tbytes Tryd.prog 90 = (Option.some 8) := by kernel_rfl
@[go_sem] theorem ty_zero90 : tzero Tryd.prog 90 = (Option.some (Go.Value.pointer Option.none)) := by kernel_rfl
@[go_sem] theorem ty_agg90 : tagg Tryd.prog 90 = (Option.some Bool.false) := by kernel_rfl
@[go_sem] theorem ty_und90 : Program.underlying Tryd.prog 90 = (Option.some (Go.TypeDesc.pointer 93)) := by kernel_rfl
@[go_sem] theorem ty_elem90 : telem Tryd.prog 90 = Option.none := by kernel_rfl
@[go_sem] theorem ty_size91 : tsize Tryd.prog 91 = (Option.some 1) := by kernel_rfl
@[go_sem] theorem ty_bytes91 : tbytes Tryd.prog 91 = (Option.some 24) := by kernel_rfl
@[go_sem] theorem ty_zero91 : tzero Tryd.prog 91 = (Option.some (Go.Value.slice Option.none 0 0)) := by kernel_rfl
@[go_sem] theorem ty_agg91 : tagg Tryd.prog 91 = (Option.some Bool.false) := by kernel_rfl
@[go_sem] theorem ty_und91 : Program.underlying Tryd.prog 91 = (Option.some (Go.TypeDesc.slice 5)) := by kernel_rfl
@[go_sem] theorem ty_elem91 : telem Tryd.prog 91 = (Option.some 5) := by kernel_rfl
@[go_sem] theorem ty_size92 : tsize Tryd.prog 92 = (Option.some 2) := by kernel_rfl
@[go_sem] theorem ty_bytes92 : tbytes Tryd.prog 92 = (Option.some 32) := by kernel_rfl
@[go_sem] theorem ty_zero92 : tzero Tryd.prog 92 = (Option.some (Go.Value.agg #[(Go.Value.pointer Option.none), (Go.Value.slice Option.none 0 0)])) := by kernel_rfl
@[go_sem] theorem ty_agg92 : tagg Tryd.prog 92 = (Option.some Bool.true) := by kernel_rfl
@[go_sem] theorem ty_field92_0 : tfield Tryd.prog 92 0 = (Option.some ⟨"addr", 90, 0, Bool.false, "", "strings", 0⟩) := by kernel_rfl
@[go_sem] theorem ty_field92_1 : tfield Tryd.prog 92 1 = (Option.some ⟨"buf", 91, 1, Bool.false, "", "strings", 8⟩) := by kernel_rfl
@[go_sem] theorem ty_build92 (parts : List (Nat × AV)) : abuild Tryd.prog 92 parts = (setCells [(Go.Ab.AV.data Go.Ab.D.nilp), Go.Ab.AV.nils] ([(0, 1), (1, 1)][·]?) parts).map mkAgg := abuild_of (z := (Go.Value.agg #[(Go.Value.pointer Option.none), (Go.Value.slice Option.none 0 0)])) (by kernel_rfl) (by kernel_rfl) (by kernel_rfl)
@[go_sem] theorem ty_size93 : tsize Tryd.prog 93 = (Option.some 2) := by kernel_rfl
@[go_sem] theorem ty_bytes93 : tbytes Tryd.prog 93 = (Option.some 32) := by kernel_rfl
@[go_sem] theorem ty_zero93 : tzero Tryd.prog 93 = (Option.some (Go.Value.agg #[(Go.Value.pointer Option.none), (Go.Value.slice Option.none 0 0)])) := by kernel_rfl
@[go_sem] theorem ty_agg93 : tagg Tryd.prog 93 = (Option.some Bool.true) := by kernel_rfl
@[go_sem] theorem ty_field93_0 : tfield Tryd.prog 93 0 = (Option.some ⟨"addr", 90, 0, Bool.false, "", "strings", 0⟩) := by kernel_rfl
@[go_sem] theorem ty_field93_1 : tfield Tryd.prog 93 1 = (Option.some ⟨"buf", 91, 1, Bool.false, "", "strings", 8⟩) := by kernel_rfl
@[go_sem] theorem ty_build93 (parts : List (Nat × AV)) : abuild Tryd.prog 93 parts = (setCells [(Go.Ab.AV.data Go.Ab.D.nilp), Go.Ab.AV.nils] ([(0, 1), (1, 1)][·]?) parts).map mkAgg := abuild_of (z := (Go.Value.agg #[(Go.Value.pointer Option.none), (Go.Value.slice Option.none 0 0)])) (by kernel_rfl) (by kernel_rfl) (by kernel_rfl)
@[go_sem] theorem ty_size104 : tsize Tryd.prog 104 = (Option.some 3) := by kernel_rfl
@[go_sem] theorem ty_bytes104 : tbytes Tryd.prog 104 = (Option.some 32) := by kernel_rfl
@[go_sem] theorem ty_zero104 : tzero Tryd.prog 104 = (Option.some (Go.Value.agg #[(Go.Value.string ⟨#[]⟩), (Go.Value.int Go.IntKind.i64 0), (Go.Value.bool Bool.false)])) := by kernel_rfl
@[go_sem] theorem ty_agg104 : tagg Tryd.prog 104 = (Option.some Bool.true) := by kernel_rfl
@[go_sem] theorem ty_field104_0 : tfield Tryd.prog 104 0 = (Option.some ⟨"separator", 9, 0, Bool.false, "", "licit/recipe", 0⟩) := by kernel_rfl
@[go_sem] theorem ty_field104_1 : tfield Tryd.prog 104 1 = (Option.some ⟨"least", 3, 1, Bool.false, "", "licit/recipe", 16⟩) := by kernel_rfl
@[go_sem] theorem ty_field104_2 : tfield Tryd.prog 104 2 = (Option.some ⟨"many", 4, 2, Bool.false, "", "licit/recipe", 24⟩) := by kernel_rfl
@[go_sem] theorem ty_build104 (parts : List (Nat × AV)) : abuild Tryd.prog 104 parts = (setCells [(Go.Ab.AV.data (Go.Ab.D.str [])), (Go.Ab.AV.data (Go.Ab.D.int Go.IntKind.i64 0)), (Go.Ab.AV.data (Go.Ab.D.bool Bool.false))] ([(0, 1), (1, 1), (2, 1)][·]?) parts).map mkAgg := abuild_of (z := (Go.Value.agg #[(Go.Value.string ⟨#[]⟩), (Go.Value.int Go.IntKind.i64 0), (Go.Value.bool Bool.false)])) (by kernel_rfl) (by kernel_rfl) (by kernel_rfl)
@[go_sem] theorem ty_size105 : tsize Tryd.prog 105 = (Option.some 3) := by kernel_rfl
@[go_sem] theorem ty_bytes105 : tbytes Tryd.prog 105 = (Option.some 32) := by kernel_rfl
@[go_sem] theorem ty_zero105 : tzero Tryd.prog 105 = (Option.some (Go.Value.agg #[(Go.Value.string ⟨#[]⟩), (Go.Value.int Go.IntKind.i64 0), (Go.Value.bool Bool.false)])) := by kernel_rfl
@[go_sem] theorem ty_agg105 : tagg Tryd.prog 105 = (Option.some Bool.true) := by kernel_rfl
@[go_sem] theorem ty_field105_0 : tfield Tryd.prog 105 0 = (Option.some ⟨"separator", 9, 0, Bool.false, "", "licit/recipe", 0⟩) := by kernel_rfl
@[go_sem] theorem ty_field105_1 : tfield Tryd.prog 105 1 = (Option.some ⟨"least", 3, 1, Bool.false, "", "licit/recipe", 16⟩) := by kernel_rfl
@[go_sem] theorem ty_field105_2 : tfield Tryd.prog 105 2 = (Option.some ⟨"many", 4, 2, Bool.false, "", "licit/recipe", 24⟩) := by kernel_rfl
@[go_sem] theorem ty_build105 (parts : List (Nat × AV)) : abuild Tryd.prog 105 parts = (setCells [(Go.Ab.AV.data (Go.Ab.D.str [])), (Go.Ab.AV.data (Go.Ab.D.int Go.IntKind.i64 0)), (Go.Ab.AV.data (Go.Ab.D.bool Bool.false))] ([(0, 1), (1, 1), (2, 1)][·]?) parts).map mkAgg := abuild_of (z := (Go.Value.agg #[(Go.Value.string ⟨#[]⟩), (Go.Value.int Go.IntKind.i64 0), (Go.Value.bool Bool.false)])) (by kernel_rfl) (by kernel_rfl) (by kernel_rfl)
@[go_sem] theorem ty_size110 : tsize Tryd.prog 110 = (Option.some 1) := by kernel_rfl
@[go_sem] theorem ty_bytes110 : tbytes Tryd.prog 110 = (Option.some 8) := by kernel_rfl
@[go_sem] theorem ty_zero110 : tzero Tryd.prog 110 = (Option.some Go.Value.nilFunc) := by kernel_rfl
@[go_sem] theorem ty_agg110 : tagg Tryd.prog 110 = (Option.some Bool.false) := by kernel_rfl
@[go_sem] theorem ty_und110 : Program.underlying Tryd.prog 110 = (Option.some (Go.TypeDesc.func #[82, 105] #[4] Bool.false)) := by kernel_rfl
@[go_sem] theorem ty_elem110 : telem Tryd.prog 110 = Option.none := by kernel_rfl
@[go_sem] theorem ty_size119 : tsize Tryd.prog 119 = (Option.some 2) := by kernel_rfl
@[go_sem] theorem ty_bytes119 : tbytes Tryd.prog 119 = (Option.some 24) := by kernel_rfl
@[go_sem] theorem ty_zero119 : tzero Tryd.prog 119 = (Option.some (Go.Value.agg #[(Go.Value.int Go.IntKind.i64 0), (Go.Value.string ⟨#[]⟩)])) := by kernel_rfl
@[go_sem] theorem ty_agg119 : tagg Tryd.prog 119 = (Option.some Bool.true) := by kernel_rfl
@[go_sem] theorem ty_field119_0 : tfield Tryd.prog 119 0 = (Option.some ⟨"Kind", 3, 0, Bool.false, "", "", 0⟩) := by kernel_rfl
@[go_sem] theorem ty_field119_1 : tfield Tryd.prog 119 1 = (Option.some ⟨"Text", 9, 1, Bool.false, "", "", 8⟩) := by kernel_rfl
@[go_sem] theorem ty_build119 (parts : List (Nat × AV)) : abuild Tryd.prog 119 parts = (setCells [(Go.Ab.AV.data (Go.Ab.D.int Go.IntKind.i64 0)), (Go.Ab.AV.data (Go.Ab.D.str []))] ([(0, 1), (1, 1)][·]?) parts).map mkAgg := abuild_of (z := (Go.Value.agg #[(Go.Value.int Go.IntKind.i64 0), (Go.Value.string ⟨#[]⟩)])) (by kernel_rfl) (by kernel_rfl) (by kernel_rfl)
@[go_sem] theorem ty_size120 : tsize Tryd.prog 120 = (Option.some 2) := by kernel_rfl
@[go_sem] theorem ty_bytes120 : tbytes Tryd.prog 120 = (Option.some 24) := by kernel_rfl
@[go_sem] theorem ty_zero120 : tzero Tryd.prog 120 = (Option.some (Go.Value.agg #[(Go.Value.int Go.IntKind.i64 0), (Go.Value.string ⟨#[]⟩)])) := by kernel_rfl
@[go_sem] theorem ty_agg120 : tagg Tryd.prog 120 = (Option.some Bool.true) := by kernel_rfl
@[go_sem] theorem ty_field120_0 : tfield Tryd.prog 120 0 = (Option.some ⟨"Kind", 3, 0, Bool.false, "", "", 0⟩) := by kernel_rfl
@[go_sem] theorem ty_field120_1 : tfield Tryd.prog 120 1 = (Option.some ⟨"Text", 9, 1, Bool.false, "", "", 8⟩) := by kernel_rfl
@[go_sem] theorem ty_build120 (parts : List (Nat × AV)) : abuild Tryd.prog 120 parts = (setCells [(Go.Ab.AV.data (Go.Ab.D.int Go.IntKind.i64 0)), (Go.Ab.AV.data (Go.Ab.D.str []))] ([(0, 1), (1, 1)][·]?) parts).map mkAgg := abuild_of (z := (Go.Value.agg #[(Go.Value.int Go.IntKind.i64 0), (Go.Value.string ⟨#[]⟩)])) (by kernel_rfl) (by kernel_rfl) (by kernel_rfl)
@[go_sem] theorem ty_size122 : tsize Tryd.prog 122 = (Option.some 1) := by kernel_rfl
@[go_sem] theorem ty_bytes122 : tbytes Tryd.prog 122 = (Option.some 4) := by kernel_rfl
@[go_sem] theorem ty_zero122 : tzero Tryd.prog 122 = (Option.some (Go.Value.int Go.IntKind.u32 0)) := by kernel_rfl
@[go_sem] theorem ty_agg122 : tagg Tryd.prog 122 = (Option.some Bool.false) := by kernel_rfl
@[go_sem] theorem ty_und122 : Program.underlying Tryd.prog 122 = (Option.some (Go.TypeDesc.int Go.IntKind.u32)) := by kernel_rfl
@[go_sem] theorem ty_elem122 : telem Tryd.prog 122 = Option.none := by kernel_rfl
@[go_sem] theorem ty_size125 : tsize Tryd.prog 125 = (Option.some 1) := by kernel_rfl
@[go_sem] theorem ty_bytes125 : tbytes Tryd.prog 125 = (Option.some 8) := by kernel_rfl
@[go_sem] theorem ty_zero125 : tzero Tryd.prog 125 = (Option.some Go.Value.nilFunc) := by kernel_rfl
@[go_sem] theorem ty_agg125 : tagg Tryd.prog 125 = (Option.some Bool.false) := by kernel_rfl
@[go_sem] theorem ty_und125 : Program.underlying Tryd.prog 125 = (Option.some (Go.TypeDesc.func #[21] #[4] Bool.false)) := by kernel_rfl
@[go_sem] theorem ty_elem125 : telem Tryd.prog 125 = Option.none := by kernel_rfl
@[go_sem] theorem ty_size141 : tsize Tryd.prog 141 = (Option.some 1) := by kernel_rfl
@[go_sem] theorem ty_bytes141 : tbytes Tryd.prog 141 = (Option.some 8) := by kernel_rfl
@[go_sem] theorem ty_zero141 : tzero Tryd.prog 141 = (Option.some (Go.Value.int Go.IntKind.u64 0)) := by kernel_rfl
@[go_sem] theorem ty_agg141 : tagg Tryd.prog 141 = (Option.some Bool.false) := by kernel_rfl
@[go_sem] theorem ty_und141 : Program.underlying Tryd.prog 141 = (Option.some (Go.TypeDesc.int Go.IntKind.u64)) := by kernel_rfl
@[go_sem] theorem ty_elem141 : telem Tryd.prog 141 = Option.none := by kernel_rfl
end Go.Ab
