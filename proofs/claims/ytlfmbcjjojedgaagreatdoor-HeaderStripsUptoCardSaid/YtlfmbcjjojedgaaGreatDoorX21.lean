/-
  One text of the proof (own work): contracts of functions of the program, by the abstract machine.
-/
import Derived.Test.YtlfmbcjjojedgaaGreatDoorChecked
import Derived.Test.YtlfmbcjjojedgaaGreatDoorX19
import Derived.Test.YtlfmbcjjojedgaaGreatDoorX20
set_option linter.unusedVariables false
set_option linter.unusedSimpArgs false
namespace Go.Ab
open Go Go.RowKit Go.Proofs
@[go_sem] theorem ty_size3 : tsize Tryz.prog 3 = (Option.some 1) := by kernel_rfl
@[go_sem] theorem ty_bytes3 : tbytes Tryz.prog 3 = (Option.some 8) := by kernel_rfl
@[go_sem] theorem ty_zero3 : tzero Tryz.prog 3 = (Option.some (Go.Value.int Go.IntKind.i64 0)) := by kernel_rfl
@[go_sem] theorem ty_agg3 : tagg Tryz.prog 3 = (Option.some Bool.false) := by kernel_rfl
@[go_sem] theorem ty_und3 : Program.underlying Tryz.prog 3 = (Option.some (Go.TypeDesc.int Go.IntKind.i64)) := by kernel_rfl
@[go_sem] theorem ty_elem3 : telem Tryz.prog 3 = Option.none := by kernel_rfl
@[go_sem] theorem ty_size4 : tsize Tryz.prog 4 = (Option.some 1) := by kernel_rfl
@[go_sem] theorem ty_bytes4 : tbytes Tryz.prog 4 = (Option.some 1) := by kernel_rfl
@[go_sem] theorem ty_zero4 : tzero Tryz.prog 4 = (Option.some (Go.Value.bool Bool.false)) := by kernel_rfl
@[go_sem] theorem ty_agg4 : tagg Tryz.prog 4 = (Option.some Bool.false) := by kernel_rfl
@[go_sem] theorem ty_und4 : Program.underlying Tryz.prog 4 = (Option.some Go.TypeDesc.bool) := by kernel_rfl
@[go_sem] theorem ty_elem4 : telem Tryz.prog 4 = Option.none := by kernel_rfl
@[go_sem] theorem ty_size5 : tsize Tryz.prog 5 = (Option.some 1) := by kernel_rfl
@[go_sem] theorem ty_bytes5 : tbytes Tryz.prog 5 = (Option.some 1) := by kernel_rfl
@[go_sem] theorem ty_zero5 : tzero Tryz.prog 5 = (Option.some (Go.Value.int Go.IntKind.u8 0)) := by kernel_rfl
@[go_sem] theorem ty_agg5 : tagg Tryz.prog 5 = (Option.some Bool.false) := by kernel_rfl
@[go_sem] theorem ty_und5 : Program.underlying Tryz.prog 5 = (Option.some (Go.TypeDesc.int Go.IntKind.u8)) := by kernel_rfl
@[go_sem] theorem ty_elem5 : telem Tryz.prog 5 = Option.none := by kernel_rfl
@[go_sem] theorem ty_size9 : tsize Tryz.prog 9 = (Option.some 1) := by kernel_rfl
@[go_sem] theorem ty_bytes9 : tbytes Tryz.prog 9 = (Option.some 16) := by kernel_rfl
@[go_sem] theorem ty_zero9 : tzero Tryz.prog 9 = (Option.some (Go.Value.string ⟨#[]⟩)) := by kernel_rfl
@[go_sem] theorem ty_agg9 : tagg Tryz.prog 9 = (Option.some Bool.false) := by kernel_rfl
@[go_sem] theorem ty_und9 : Program.underlying Tryz.prog 9 = (Option.some Go.TypeDesc.string) := by kernel_rfl
@[go_sem] theorem ty_elem9 : telem Tryz.prog 9 = Option.none := by kernel_rfl
@[go_sem] theorem ty_size21 : tsize Tryz.prog 21 = (Option.some 1) := by kernel_rfl
@[go_sem] theorem ty_bytes21 : tbytes Tryz.prog 21 = (Option.some 4) := by kernel_rfl
@[go_sem] theorem ty_zero21 : tzero Tryz.prog 21 = (Option.some (Go.Value.int Go.IntKind.i32 0)) := by kernel_rfl
@[go_sem] theorem ty_agg21 : tagg Tryz.prog 21 = (Option.some Bool.false) := by kernel_rfl
@[go_sem] theorem ty_und21 : Program.underlying Tryz.prog 21 = (Option.some (Go.TypeDesc.int Go.IntKind.i32)) := by kernel_rfl
@[go_sem] theorem ty_elem21 : telem Tryz.prog 21 = Option.none := by kernel_rfl
@[go_sem] theorem ty_size24 : tsize Tryz.prog 24 = (Option.some 1) := by kernel_rfl
@[go_sem] theorem ty_bytes24 : tbytes Tryz.prog 24 = (Option.some 24) := by kernel_rfl
@[go_sem] theorem ty_zero24 : tzero Tryz.prog 24 = (Option.some (Go.Value.slice Option.none 0 0)) := by kernel_rfl
@[go_sem] theorem ty_agg24 : tagg Tryz.prog 24 = (Option.some Bool.false) := by kernel_rfl
@[go_sem] theorem ty_und24 : Program.underlying Tryz.prog 24 = (Option.some (Go.TypeDesc.slice 26)) := by kernel_rfl
@[go_sem] theorem ty_elem24 : telem Tryz.prog 24 = (Option.some 26) := by kernel_rfl
@[go_sem] theorem ty_size25 : tsize Tryz.prog 25 = (Option.some 3) := by kernel_rfl
@[go_sem] theorem ty_bytes25 : tbytes Tryz.prog 25 = (Option.some 32) := by kernel_rfl
@[go_sem] theorem ty_zero25 : tzero Tryz.prog 25 = (Option.some (Go.Value.agg #[(Go.Value.int Go.IntKind.i64 0), (Go.Value.int Go.IntKind.i64 0), (Go.Value.string ⟨#[]⟩)])) := by kernel_rfl
@[go_sem] theorem ty_agg25 : tagg Tryz.prog 25 = (Option.some Bool.true) := by kernel_rfl
@[go_sem] theorem ty_field25_0 : tfield Tryz.prog 25 0 = (Option.some ⟨"Kind", 3, 0, Bool.false, "", "", 0⟩) := by kernel_rfl
@[go_sem] theorem ty_field25_1 : tfield Tryz.prog 25 1 = (Option.some ⟨"Line", 3, 1, Bool.false, "", "", 8⟩) := by kernel_rfl
@[go_sem] theorem ty_field25_2 : tfield Tryz.prog 25 2 = (Option.some ⟨"Text", 9, 2, Bool.false, "", "", 16⟩) := by kernel_rfl
@[go_sem] theorem ty_build25 (parts : List (Nat × AV)) : abuild Tryz.prog 25 parts = (setCells [(Go.Ab.AV.data (Go.Ab.D.int Go.IntKind.i64 0)), (Go.Ab.AV.data (Go.Ab.D.int Go.IntKind.i64 0)), (Go.Ab.AV.data (Go.Ab.D.str []))] ([(0, 1), (1, 1), (2, 1)][·]?) parts).map mkAgg := abuild_of (z := (Go.Value.agg #[(Go.Value.int Go.IntKind.i64 0), (Go.Value.int Go.IntKind.i64 0), (Go.Value.string ⟨#[]⟩)])) (by kernel_rfl) (by kernel_rfl) (by kernel_rfl)
@[go_sem] theorem ty_size26 : tsize Tryz.prog 26 = (Option.some 3) := by kernel_rfl
@[go_sem] theorem ty_bytes26 : tbytes Tryz.prog 26 = (Option.some 32) := by kernel_rfl
@[go_sem] theorem ty_zero26 : tzero Tryz.prog 26 = (Option.some (Go.Value.agg #[(Go.Value.int Go.IntKind.i64 0), (Go.Value.int Go.IntKind.i64 0), (Go.Value.string ⟨#[]⟩)])) := by kernel_rfl
@[go_sem] theorem ty_agg26 : tagg Tryz.prog 26 = (Option.some Bool.true) := by kernel_rfl
@[go_sem] theorem ty_field26_0 : tfield Tryz.prog 26 0 = (Option.some ⟨"Kind", 3, 0, Bool.false, "", "", 0⟩) := by kernel_rfl
@[go_sem] theorem ty_field26_1 : tfield Tryz.prog 26 1 = (Option.some ⟨"Line", 3, 1, Bool.false, "", "", 8⟩) := by kernel_rfl
@[go_sem] theorem ty_field26_2 : tfield Tryz.prog 26 2 = (Option.some ⟨"Text", 9, 2, Bool.false, "", "", 16⟩) := by kernel_rfl
@[go_sem] theorem ty_build26 (parts : List (Nat × AV)) : abuild Tryz.prog 26 parts = (setCells [(Go.Ab.AV.data (Go.Ab.D.int Go.IntKind.i64 0)), (Go.Ab.AV.data (Go.Ab.D.int Go.IntKind.i64 0)), (Go.Ab.AV.data (Go.Ab.D.str []))] ([(0, 1), (1, 1), (2, 1)][·]?) parts).map mkAgg := abuild_of (z := (Go.Value.agg #[(Go.Value.int Go.IntKind.i64 0), (Go.Value.int Go.IntKind.i64 0), (Go.Value.string ⟨#[]⟩)])) (by kernel_rfl) (by kernel_rfl) (by kernel_rfl)
@[go_sem] theorem ty_size31 : tsize Tryz.prog 31 = (Option.some 1) := by kernel_rfl
@[go_sem] theorem ty_bytes31 : tbytes Tryz.prog 31 = (Option.some 24) := by kernel_rfl
@[go_sem] theorem ty_zero31 : tzero Tryz.prog 31 = (Option.some (Go.Value.slice Option.none 0 0)) := by kernel_rfl
@[go_sem] theorem ty_agg31 : tagg Tryz.prog 31 = (Option.some Bool.false) := by kernel_rfl
@[go_sem] theorem ty_und31 : Program.underlying Tryz.prog 31 = (Option.some (Go.TypeDesc.slice 33)) := by kernel_rfl
@[go_sem] theorem ty_elem31 : telem Tryz.prog 31 = (Option.some 33) := by kernel_rfl
@[go_sem] theorem ty_size32 : tsize Tryz.prog 32 = (Option.some 4) := by kernel_rfl
@[go_sem] theorem ty_bytes32 : tbytes Tryz.prog 32 = (Option.some 64) := by kernel_rfl
@[go_sem] theorem ty_zero32 : tzero Tryz.prog 32 = (Option.some (Go.Value.agg #[(Go.Value.int Go.IntKind.i64 0), (Go.Value.string ⟨#[]⟩), (Go.Value.string ⟨#[]⟩), (Go.Value.slice Option.none 0 0)])) := by kernel_rfl
@[go_sem] theorem ty_agg32 : tagg Tryz.prog 32 = (Option.some Bool.true) := by kernel_rfl
@[go_sem] theorem ty_field32_0 : tfield Tryz.prog 32 0 = (Option.some ⟨"Kind", 3, 0, Bool.false, "", "", 0⟩) := by kernel_rfl
@[go_sem] theorem ty_field32_1 : tfield Tryz.prog 32 1 = (Option.some ⟨"Name", 9, 1, Bool.false, "", "", 8⟩) := by kernel_rfl
@[go_sem] theorem ty_field32_2 : tfield Tryz.prog 32 2 = (Option.some ⟨"Exception", 9, 2, Bool.false, "", "", 24⟩) := by kernel_rfl
@[go_sem] theorem ty_field32_3 : tfield Tryz.prog 32 3 = (Option.some ⟨"Kids", 31, 3, Bool.false, "", "", 40⟩) := by kernel_rfl
@[go_sem] theorem ty_build32 (parts : List (Nat × AV)) : abuild Tryz.prog 32 parts = (setCells [(Go.Ab.AV.data (Go.Ab.D.int Go.IntKind.i64 0)), (Go.Ab.AV.data (Go.Ab.D.str [])), (Go.Ab.AV.data (Go.Ab.D.str [])), Go.Ab.AV.nils] ([(0, 1), (1, 1), (2, 1), (3, 1)][·]?) parts).map mkAgg := abuild_of (z := (Go.Value.agg #[(Go.Value.int Go.IntKind.i64 0), (Go.Value.string ⟨#[]⟩), (Go.Value.string ⟨#[]⟩), (Go.Value.slice Option.none 0 0)])) (by kernel_rfl) (by kernel_rfl) (by kernel_rfl)
@[go_sem] theorem ty_size33 : tsize Tryz.prog 33 = (Option.some 4) := by kernel_rfl
@[go_sem] theorem ty_bytes33 : tbytes Tryz.prog 33 = (Option.some 64) := by kernel_rfl
@[go_sem] theorem ty_zero33 : tzero Tryz.prog 33 = (Option.some (Go.Value.agg #[(Go.Value.int Go.IntKind.i64 0), (Go.Value.string ⟨#[]⟩), (Go.Value.string ⟨#[]⟩), (Go.Value.slice Option.none 0 0)])) := by kernel_rfl
@[go_sem] theorem ty_agg33 : tagg Tryz.prog 33 = (Option.some Bool.true) := by kernel_rfl
@[go_sem] theorem ty_field33_0 : tfield Tryz.prog 33 0 = (Option.some ⟨"Kind", 3, 0, Bool.false, "", "", 0⟩) := by kernel_rfl
@[go_sem] theorem ty_field33_1 : tfield Tryz.prog 33 1 = (Option.some ⟨"Name", 9, 1, Bool.false, "", "", 8⟩) := by kernel_rfl
@[go_sem] theorem ty_field33_2 : tfield Tryz.prog 33 2 = (Option.some ⟨"Exception", 9, 2, Bool.false, "", "", 24⟩) := by kernel_rfl
@[go_sem] theorem ty_field33_3 : tfield Tryz.prog 33 3 = (Option.some ⟨"Kids", 31, 3, Bool.false, "", "", 40⟩) := by kernel_rfl
@[go_sem] theorem ty_build33 (parts : List (Nat × AV)) : abuild Tryz.prog 33 parts = (setCells [(Go.Ab.AV.data (Go.Ab.D.int Go.IntKind.i64 0)), (Go.Ab.AV.data (Go.Ab.D.str [])), (Go.Ab.AV.data (Go.Ab.D.str [])), Go.Ab.AV.nils] ([(0, 1), (1, 1), (2, 1), (3, 1)][·]?) parts).map mkAgg := abuild_of (z := (Go.Value.agg #[(Go.Value.int Go.IntKind.i64 0), (Go.Value.string ⟨#[]⟩), (Go.Value.string ⟨#[]⟩), (Go.Value.slice Option.none 0 0)])) (by kernel_rfl) (by kernel_rfl) (by kernel_rfl)
@[go_sem] theorem ty_size34 : tsize Tryz.prog 34 = (Option.some 1) := by kernel_rfl
@[go_sem] theorem ty_bytes34 : tbytes Tryz.prog 34 = (Option.some 8) := by kernel_rfl
@[go_sem] theorem ty_zero34 : tzero Tryz.prog 34 = (Option.some (Go.Value.int Go.IntKind.i64 0)) := by kernel_rfl
@[go_sem] theorem ty_agg34 : tagg Tryz.prog 34 = (Option.some Bool.false) := by kernel_rfl
@[go_sem] theorem ty_und34 : Program.underlying Tryz.prog 34 = (Option.some (Go.TypeDesc.int Go.IntKind.i64)) := by kernel_rfl
@[go_sem] theorem ty_elem34 : telem Tryz.prog 34 = Option.none := by kernel_rfl
@[go_sem] theorem ty_size37 : tsize Tryz.prog 37 = (Option.some 6) := by kernel_rfl
@[go_sem] theorem ty_bytes37 : tbytes Tryz.prog 37 = (Option.some 80) := by kernel_rfl
@[go_sem] theorem ty_zero37 : tzero Tryz.prog 37 = (Option.some (Go.Value.agg #[(Go.Value.int Go.IntKind.i64 0), (Go.Value.string ⟨#[]⟩), (Go.Value.string ⟨#[]⟩), (Go.Value.slice Option.none 0 0), (Go.Value.int Go.IntKind.i64 0), (Go.Value.int Go.IntKind.i64 0)])) := by kernel_rfl
@[go_sem] theorem ty_agg37 : tagg Tryz.prog 37 = (Option.some Bool.true) := by kernel_rfl
@[go_sem] theorem ty_field37_0 : tfield Tryz.prog 37 0 = (Option.some ⟨"Expr", 33, 0, Bool.false, "", "", 0⟩) := by kernel_rfl
@[go_sem] theorem ty_field37_1 : tfield Tryz.prog 37 1 = (Option.some ⟨"Line", 3, 4, Bool.false, "", "", 64⟩) := by kernel_rfl
@[go_sem] theorem ty_field37_2 : tfield Tryz.prog 37 2 = (Option.some ⟨"Error", 34, 5, Bool.false, "", "", 72⟩) := by kernel_rfl
@[go_sem] theorem ty_build37 (parts : List (Nat × AV)) : abuild Tryz.prog 37 parts = (setCells [(Go.Ab.AV.data (Go.Ab.D.int Go.IntKind.i64 0)), (Go.Ab.AV.data (Go.Ab.D.str [])), (Go.Ab.AV.data (Go.Ab.D.str [])), Go.Ab.AV.nils, (Go.Ab.AV.data (Go.Ab.D.int Go.IntKind.i64 0)), (Go.Ab.AV.data (Go.Ab.D.int Go.IntKind.i64 0))] ([(0, 4), (4, 1), (5, 1)][·]?) parts).map mkAgg := abuild_of (z := (Go.Value.agg #[(Go.Value.int Go.IntKind.i64 0), (Go.Value.string ⟨#[]⟩), (Go.Value.string ⟨#[]⟩), (Go.Value.slice Option.none 0 0), (Go.Value.int Go.IntKind.i64 0), (Go.Value.int Go.IntKind.i64 0)])) (by kernel_rfl) (by kernel_rfl) (by kernel_rfl)
@[go_sem] theorem ty_size38 : tsize Tryz.prog 38 = (Option.some 6) := by kernel_rfl
@[go_sem] theorem ty_bytes38 : tbytes Tryz.prog 38 = (Option.some 80) := by kernel_rfl
@[go_sem] theorem ty_zero38 : tzero Tryz.prog 38 = (Option.some (Go.Value.agg #[(Go.Value.int Go.IntKind.i64 0), (Go.Value.string ⟨#[]⟩), (Go.Value.string ⟨#[]⟩), (Go.Value.slice Option.none 0 0), (Go.Value.int Go.IntKind.i64 0), (Go.Value.int Go.IntKind.i64 0)])) := by kernel_rfl
@[go_sem] theorem ty_agg38 : tagg Tryz.prog 38 = (Option.some Bool.true) := by kernel_rfl
@[go_sem] theorem ty_field38_0 : tfield Tryz.prog 38 0 = (Option.some ⟨"Expr", 33, 0, Bool.false, "", "", 0⟩) := by kernel_rfl
@[go_sem] theorem ty_field38_1 : tfield Tryz.prog 38 1 = (Option.some ⟨"Line", 3, 4, Bool.false, "", "", 64⟩) := by kernel_rfl
@[go_sem] theorem ty_field38_2 : tfield Tryz.prog 38 2 = (Option.some ⟨"Error", 34, 5, Bool.false, "", "", 72⟩) := by kernel_rfl
@[go_sem] theorem ty_build38 (parts : List (Nat × AV)) : abuild Tryz.prog 38 parts = (setCells [(Go.Ab.AV.data (Go.Ab.D.int Go.IntKind.i64 0)), (Go.Ab.AV.data (Go.Ab.D.str [])), (Go.Ab.AV.data (Go.Ab.D.str [])), Go.Ab.AV.nils, (Go.Ab.AV.data (Go.Ab.D.int Go.IntKind.i64 0)), (Go.Ab.AV.data (Go.Ab.D.int Go.IntKind.i64 0))] ([(0, 4), (4, 1), (5, 1)][·]?) parts).map mkAgg := abuild_of (z := (Go.Value.agg #[(Go.Value.int Go.IntKind.i64 0), (Go.Value.string ⟨#[]⟩), (Go.Value.string ⟨#[]⟩), (Go.Value.slice Option.none 0 0), (Go.Value.int Go.IntKind.i64 0), (Go.Value.int Go.IntKind.i64 0)])) (by kernel_rfl) (by kernel_rfl) (by kernel_rfl)
@[go_sem] theorem ty_size40 : tsize Tryz.prog 40 = (Option.some 1) := by kernel_rfl
@[go_sem] theorem ty_bytes40 : tbytes Tryz.prog 40 = (Option.some 8) := by kernel_rfl
@[go_sem] theorem ty_zero40 : tzero Tryz.prog 40 = (Option.some Go.Value.nilFunc) := by kernel_rfl
@[go_sem] theorem ty_agg40 : tagg Tryz.prog 40 = (Option.some Bool.false) := by kernel_rfl
@[go_sem] theorem ty_und40 : Program.underlying Tryz.prog 40 = (Option.some (Go.TypeDesc.func #[33, 33] #[4] Bool.false)) := by kernel_rfl
@[go_sem] theorem ty_elem40 : telem Tryz.prog 40 = Option.none := by kernel_rfl
@[go_sem] theorem ty_size42 : tsize Tryz.prog 42 = (Option.some 1) := by kernel_rfl
@[go_sem] theorem ty_bytes42 : tbytes Tryz.prog 42 = (Option.some 24) := by kernel_rfl
@[go_sem] theorem ty_zero42 : tzero Tryz.prog 42 = (Option.some (Go.Value.slice Option.none 0 0)) := by kernel_rfl
@[go_sem] theorem ty_agg42 : tagg Tryz.prog 42 = (Option.some Bool.false) := by kernel_rfl
@[go_sem] theorem ty_und42 : Program.underlying Tryz.prog 42 = (Option.some (Go.TypeDesc.slice 9)) := by kernel_rfl
@[go_sem] theorem ty_elem42 : telem Tryz.prog 42 = (Option.some 9) := by kernel_rfl
@[go_sem] theorem ty_size49 : tsize Tryz.prog 49 = (Option.some 1) := by kernel_rfl
@[go_sem] theorem ty_bytes49 : tbytes Tryz.prog 49 = (Option.some 8) := by kernel_rfl
@[go_sem] theorem ty_zero49 : tzero Tryz.prog 49 = (Option.some Go.Value.nilFunc) := by kernel_rfl
@[go_sem] theorem ty_agg49 : tagg Tryz.prog 49 = (Option.some Bool.false) := by kernel_rfl
@[go_sem] theorem ty_und49 : Program.underlying Tryz.prog 49 = (Option.some (Go.TypeDesc.func #[33] #[4] Bool.false)) := by kernel_rfl
@[go_sem] theorem ty_elem49 : telem Tryz.prog 49 = Option.none := by kernel_rfl
@[go_sem] theorem ty_size58 : tsize Tryz.prog 58 = (Option.some 1) := by kernel_rfl
@[go_sem] theorem ty_bytes58 : tbytes Tryz.prog 58 = (Option.some 8) := by kernel_rfl
@[go_sem] theorem ty_zero58 : tzero Tryz.prog 58 = (Option.some Go.Value.nilFunc) := by kernel_rfl
@[go_sem] theorem ty_agg58 : tagg Tryz.prog 58 = (Option.some Bool.false) := by kernel_rfl
@[go_sem] theorem ty_und58 : Program.underlying Tryz.prog 58 = (Option.some (Go.TypeDesc.func #[26] #[4] Bool.false)) := by kernel_rfl
@[go_sem] theorem ty_elem58 : telem Tryz.prog 58 = Option.none := by kernel_rfl
@[go_sem] theorem ty_size60 : tsize Tryz.prog 60 = (Option.some 1) := by kernel_rfl
@[go_sem] theorem ty_bytes60 : tbytes Tryz.prog 60 = (Option.some 24) := by kernel_rfl
@[go_sem] theorem ty_zero60 : tzero Tryz.prog 60 = (Option.some (Go.Value.slice Option.none 0 0)) := by kernel_rfl
@[go_sem] theorem ty_agg60 : tagg Tryz.prog 60 = (Option.some Bool.false) := by kernel_rfl
@[go_sem] theorem ty_und60 : Program.underlying Tryz.prog 60 = (Option.some (Go.TypeDesc.slice 5)) := by kernel_rfl
@[go_sem] theorem ty_elem60 : telem Tryz.prog 60 = (Option.some 5) := by kernel_rfl
@[go_sem] theorem ty_size77 : tsize Tryz.prog 77 = (Option.some 6) := by kernel_rfl
@[go_sem] theorem ty_bytes77 : tbytes Tryz.prog 77 = (Option.some 80) := by kernel_rfl
@[go_sem] theorem ty_zero77 : tzero Tryz.prog 77 = (Option.some (Go.Value.agg #[(Go.Value.int Go.IntKind.i64 0), (Go.Value.string ⟨#[]⟩), (Go.Value.string ⟨#[]⟩), (Go.Value.slice Option.none 0 0), (Go.Value.int Go.IntKind.i64 0), (Go.Value.int Go.IntKind.i64 0)])) := by kernel_rfl
@[go_sem] theorem ty_agg77 : tagg Tryz.prog 77 = (Option.some Bool.true) := by kernel_rfl
@[go_sem] theorem ty_field77_0 : tfield Tryz.prog 77 0 = (Option.some ⟨"Expr", 33, 0, Bool.false, "", "", 0⟩) := by kernel_rfl
@[go_sem] theorem ty_field77_1 : tfield Tryz.prog 77 1 = (Option.some ⟨"At", 3, 4, Bool.false, "", "", 64⟩) := by kernel_rfl
@[go_sem] theorem ty_field77_2 : tfield Tryz.prog 77 2 = (Option.some ⟨"Error", 34, 5, Bool.false, "", "", 72⟩) := by kernel_rfl
@[go_sem] theorem ty_build77 (parts : List (Nat × AV)) : abuild Tryz.prog 77 parts = (setCells [(Go.Ab.AV.data (Go.Ab.D.int Go.IntKind.i64 0)), (Go.Ab.AV.data (Go.Ab.D.str [])), (Go.Ab.AV.data (Go.Ab.D.str [])), Go.Ab.AV.nils, (Go.Ab.AV.data (Go.Ab.D.int Go.IntKind.i64 0)), (Go.Ab.AV.data (Go.Ab.D.int Go.IntKind.i64 0))] ([(0, 4), (4, 1), (5, 1)][·]?) parts).map mkAgg := abuild_of (z := (Go.Value.agg #[(Go.Value.int Go.IntKind.i64 0), (Go.Value.string ⟨#[]⟩), (Go.Value.string ⟨#[]⟩), (Go.Value.slice Option.none 0 0), (Go.Value.int Go.IntKind.i64 0), (Go.Value.int Go.IntKind.i64 0)])) (by kernel_rfl) (by kernel_rfl) (by kernel_rfl)
@[go_sem] theorem ty_size78 : tsize Tryz.prog 78 = (Option.some 6) := by kernel_rfl
@[go_sem] theorem ty_bytes78 : tbytes Tryz.prog 78 = (Option.some 80) := by kernel_rfl
@[go_sem] theorem ty_zero78 : tzero Tryz.prog 78 = (Option.some (Go.Value.agg #[(Go.Value.int Go.IntKind.i64 0), (Go.Value.string ⟨#[]⟩), (Go.Value.string ⟨#[]⟩), (Go.Value.slice Option.none 0 0), (Go.Value.int Go.IntKind.i64 0), (Go.Value.int Go.IntKind.i64 0)])) := by kernel_rfl
@[go_sem] theorem ty_agg78 : tagg Tryz.prog 78 = (Option.some Bool.true) := by kernel_rfl
@[go_sem] theorem ty_field78_0 : tfield Tryz.prog 78 0 = (Option.some ⟨"Expr", 33, 0, Bool.false, "", "", 0⟩) := by kernel_rfl
@[go_sem] theorem ty_field78_1 : tfield Tryz.prog 78 1 = (Option.some ⟨"At", 3, 4, Bool.false, "", "", 64⟩) := by kernel_rfl
@[go_sem] theorem ty_field78_2 : tfield Tryz.prog 78 2 = (Option.some ⟨"Error", 34, 5, Bool.false, "", "", 72⟩) := by kernel_rfl
@[go_sem] theorem ty_build78 (parts : List (Nat × AV)) : abuild Tryz.prog 78 parts = (setCells [(Go.Ab.AV.data (Go.Ab.D.int Go.IntKind.i64 0)), (Go.Ab.AV.data (Go.Ab.D.str [])), (Go.Ab.AV.data (Go.Ab.D.str [])), Go.Ab.AV.nils, (Go.Ab.AV.data (Go.Ab.D.int Go.IntKind.i64 0)), (Go.Ab.AV.data (Go.Ab.D.int Go.IntKind.i64 0))] ([(0, 4), (4, 1), (5, 1)][·]?) parts).map mkAgg := abuild_of (z := (Go.Value.agg #[(Go.Value.int Go.IntKind.i64 0), (Go.Value.string ⟨#[]⟩), (Go.Value.string ⟨#[]⟩), (Go.Value.slice Option.none 0 0), (Go.Value.int Go.IntKind.i64 0), (Go.Value.int Go.IntKind.i64 0)])) (by kernel_rfl) (by kernel_rfl) (by kernel_rfl)
@[go_sem] theorem ty_size96 : tsize Tryz.prog 96 = (Option.some 1) := by kernel_rfl
@[go_sem] theorem ty_bytes96 : tbytes Tryz.prog 96 = (Option.some 8) := by kernel_rfl
@[go_sem] theorem ty_zero96 : tzero Tryz.prog 96 = (Option.some (Go.Value.pointer Option.none)) := by kernel_rfl
@[go_sem] theorem ty_agg96 : tagg Tryz.prog 96 = (Option.some Bool.false) := by kernel_rfl
@[go_sem] theorem ty_und96 : Program.underlying Tryz.prog 96 = (Option.some (Go.TypeDesc.pointer 98)) := by kernel_rfl
@[go_sem] theorem ty_elem96 : telem Tryz.prog 96 = Option.none := by kernel_rfl
@[go_sem] theorem ty_size97 : tsize Tryz.prog 97 = (Option.some 2) := by kernel_rfl
@[go_sem] theorem ty_bytes97 : tbytes Tryz.prog 97 = (Option.some 32) := by kernel_rfl
@[go_sem] theorem ty_zero97 : tzero Tryz.prog 97 = (Option.some (Go.Value.agg #[(Go.Value.pointer Option.none), (Go.Value.slice Option.none 0 0)])) := by kernel_rfl
@[go_sem] theorem ty_agg97 : tagg Tryz.prog 97 = (Option.some Bool.true) := by kernel_rfl
@[go_sem] theorem ty_field97_0 : tfield Tryz.prog 97 0 = (Option.some ⟨"addr", 96, 0, Bool.false, "", "strings", 0⟩) := by kernel_rfl
@[go_sem] theorem ty_field97_1 : tfield Tryz.prog 97 1 = (Option.some ⟨"buf", 60, 1, Bool.false, "", "strings", 8⟩) := by kernel_rfl
@[go_sem] theorem ty_build97 (parts : List (Nat × AV)) : abuild Tryz.prog 97 parts = (setCells [(Go.Ab.AV.data Go.Ab.D.nilp), Go.Ab.AV.nils] ([(0, 1), (1, 1)][·]?) parts).map mkAgg := abuild_of (z := (Go.Value.agg #[(Go.Value.pointer Option.none), (Go.Value.slice Option.none 0 0)])) (by kernel_rfl) (by kernel_rfl) (by kernel_rfl)
@[go_sem] theorem ty_size98 : tsize Tryz.prog 98 = (Option.some 2) := by kernel_rfl
@[go_sem] theorem ty_bytes98 : tbytes Tryz.prog 98 = (Option.some 32) := by kernel_rfl
@[go_sem] theorem ty_zero98 : tzero Tryz.prog 98 = (Option.some (Go.Value.agg #[(Go.Value.pointer Option.none), (Go.Value.slice Option.none 0 0)])) := by kernel_rfl
@[go_sem] theorem ty_agg98 : tagg Tryz.prog 98 = (Option.some Bool.true) := by kernel_rfl
@[go_sem] theorem ty_field98_0 : tfield Tryz.prog 98 0 = (Option.some ⟨"addr", 96, 0, Bool.false, "", "strings", 0⟩) := by kernel_rfl
@[go_sem] theorem ty_field98_1 : tfield Tryz.prog 98 1 = (Option.some ⟨"buf", 60, 1, Bool.false, "", "strings", 8⟩) := by kernel_rfl
@[go_sem] theorem ty_build98 (parts : List (Nat × AV)) : abuild Tryz.prog 98 parts = (setCells [(Go.Ab.AV.data Go.Ab.D.nilp), Go.Ab.AV.nils] ([(0, 1), (1, 1)][·]?) parts).map mkAgg := abuild_of (z := (Go.Value.agg #[(Go.Value.pointer Option.none), (Go.Value.slice Option.none 0 0)])) (by kernel_rfl) (by kernel_rfl) (by kernel_rfl)
@[go_sem] theorem ty_size111 : tsize Tryz.prog 111 = (Option.some 1) := by kernel_rfl
@[go_sem] theorem ty_bytes111 : tbytes Tryz.prog 111 = (Option.some 8) := by kernel_rfl
@[go_sem] theorem ty_zero111 : tzero Tryz.prog 111 = (Option.some Go.Value.nilFunc) := by kernel_rfl
@[go_sem] theorem ty_agg111 : tagg Tryz.prog 111 = (Option.some Bool.false) := by kernel_rfl
@[go_sem] theorem ty_und111 : Program.underlying Tryz.prog 111 = (Option.some (Go.TypeDesc.func #[5] #[4] Bool.false)) := by kernel_rfl
@[go_sem] theorem ty_elem111 : telem Tryz.prog 111 = Option.none := by kernel_rfl
@[go_sem] theorem ty_size112 : tsize Tryz.prog 112 = (Option.some 1) := by kernel_rfl
@[go_sem] theorem ty_bytes112 : tbytes Tryz.prog 112 = (Option.some 8) := by kernel_rfl
@[go_sem] theorem ty_zero112 : tzero Tryz.prog 112 = (Option.some (Go.Value.pointer Option.none)) := by kernel_rfl
@[go_sem] theorem ty_agg112 : tagg Tryz.prog 112 = (Option.some Bool.false) := by kernel_rfl
@[go_sem] theorem ty_und112 : Program.underlying Tryz.prog 112 = (Option.some (Go.TypeDesc.pointer 114)) := by kernel_rfl
@[go_sem] theorem ty_elem112 : telem Tryz.prog 112 = Option.none := by kernel_rfl
@[go_sem] theorem ty_size113 : tsize Tryz.prog 113 = (Option.some 5) := by kernel_rfl
@[go_sem] theorem ty_bytes113 : tbytes Tryz.prog 113 = (Option.some 48) := by kernel_rfl
@[go_sem] theorem ty_zero113 : tzero Tryz.prog 113 = (Option.some (Go.Value.agg #[(Go.Value.string ⟨#[]⟩), (Go.Value.int Go.IntKind.i64 0), (Go.Value.int Go.IntKind.i64 0), (Go.Value.int Go.IntKind.i64 0), (Go.Value.int Go.IntKind.i64 0)])) := by kernel_rfl
@[go_sem] theorem ty_agg113 : tagg Tryz.prog 113 = (Option.some Bool.true) := by kernel_rfl
@[go_sem] theorem ty_field113_0 : tfield Tryz.prog 113 0 = (Option.some ⟨"s", 9, 0, Bool.false, "", "licit/licexpr", 0⟩) := by kernel_rfl
@[go_sem] theorem ty_field113_1 : tfield Tryz.prog 113 1 = (Option.some ⟨"at", 3, 1, Bool.false, "", "licit/licexpr", 16⟩) := by kernel_rfl
@[go_sem] theorem ty_field113_2 : tfield Tryz.prog 113 2 = (Option.some ⟨"open", 3, 2, Bool.false, "", "licit/licexpr", 24⟩) := by kernel_rfl
@[go_sem] theorem ty_field113_3 : tfield Tryz.prog 113 3 = (Option.some ⟨"e", 34, 3, Bool.false, "", "licit/licexpr", 32⟩) := by kernel_rfl
@[go_sem] theorem ty_field113_4 : tfield Tryz.prog 113 4 = (Option.some ⟨"here", 3, 4, Bool.false, "", "licit/licexpr", 40⟩) := by kernel_rfl
@[go_sem] theorem ty_build113 (parts : List (Nat × AV)) : abuild Tryz.prog 113 parts = (setCells [(Go.Ab.AV.data (Go.Ab.D.str [])), (Go.Ab.AV.data (Go.Ab.D.int Go.IntKind.i64 0)), (Go.Ab.AV.data (Go.Ab.D.int Go.IntKind.i64 0)), (Go.Ab.AV.data (Go.Ab.D.int Go.IntKind.i64 0)), (Go.Ab.AV.data (Go.Ab.D.int Go.IntKind.i64 0))] ([(0, 1), (1, 1), (2, 1), (3, 1), (4, 1)][·]?) parts).map mkAgg := abuild_of (z := (Go.Value.agg #[(Go.Value.string ⟨#[]⟩), (Go.Value.int Go.IntKind.i64 0), (Go.Value.int Go.IntKind.i64 0), (Go.Value.int Go.IntKind.i64 0), (Go.Value.int Go.IntKind.i64 0)])) (by kernel_rfl) (by kernel_rfl) (by kernel_rfl)
@[go_sem] theorem ty_size114 : tsize Tryz.prog 114 = (Option.some 5) := by kernel_rfl
@[go_sem] theorem ty_bytes114 : tbytes Tryz.prog 114 = (Option.some 48) := by kernel_rfl
@[go_sem] theorem ty_zero114 : tzero Tryz.prog 114 = (Option.some (Go.Value.agg #[(Go.Value.string ⟨#[]⟩), (Go.Value.int Go.IntKind.i64 0), (Go.Value.int Go.IntKind.i64 0), (Go.Value.int Go.IntKind.i64 0), (Go.Value.int Go.IntKind.i64 0)])) := by kernel_rfl
@[go_sem] theorem ty_agg114 : tagg Tryz.prog 114 = (Option.some Bool.true) := by kernel_rfl
@[go_sem] theorem ty_field114_0 : tfield Tryz.prog 114 0 = (Option.some ⟨"s", 9, 0, Bool.false, "", "licit/licexpr", 0⟩) := by kernel_rfl
@[go_sem] theorem ty_field114_1 : tfield Tryz.prog 114 1 = (Option.some ⟨"at", 3, 1, Bool.false, "", "licit/licexpr", 16⟩) := by kernel_rfl
@[go_sem] theorem ty_field114_2 : tfield Tryz.prog 114 2 = (Option.some ⟨"open", 3, 2, Bool.false, "", "licit/licexpr", 24⟩) := by kernel_rfl
@[go_sem] theorem ty_field114_3 : tfield Tryz.prog 114 3 = (Option.some ⟨"e", 34, 3, Bool.false, "", "licit/licexpr", 32⟩) := by kernel_rfl
@[go_sem] theorem ty_field114_4 : tfield Tryz.prog 114 4 = (Option.some ⟨"here", 3, 4, Bool.false, "", "licit/licexpr", 40⟩) := by kernel_rfl
@[go_sem] theorem ty_build114 (parts : List (Nat × AV)) : abuild Tryz.prog 114 parts = (setCells [(Go.Ab.AV.data (Go.Ab.D.str [])), (Go.Ab.AV.data (Go.Ab.D.int Go.IntKind.i64 0)), (Go.Ab.AV.data (Go.Ab.D.int Go.IntKind.i64 0)), (Go.Ab.AV.data (Go.Ab.D.int Go.IntKind.i64 0)), (Go.Ab.AV.data (Go.Ab.D.int Go.IntKind.i64 0))] ([(0, 1), (1, 1), (2, 1), (3, 1), (4, 1)][·]?) parts).map mkAgg := abuild_of (z := (Go.Value.agg #[(Go.Value.string ⟨#[]⟩), (Go.Value.int Go.IntKind.i64 0), (Go.Value.int Go.IntKind.i64 0), (Go.Value.int Go.IntKind.i64 0), (Go.Value.int Go.IntKind.i64 0)])) (by kernel_rfl) (by kernel_rfl) (by kernel_rfl)
@[go_sem] theorem ty_size116 : tsize Tryz.prog 116 = (Option.some 1) := by kernel_rfl
@[go_sem] theorem ty_bytes116 : tbytes Tryz.prog 116 = (Option.some 8) := by kernel_rfl
@[go_sem] theorem ty_zero116 : tzero Tryz.prog 116 = (Option.some Go.Value.nilFunc) := by kernel_rfl
@[go_sem] theorem ty_agg116 : tagg Tryz.prog 116 = (Option.some Bool.false) := by kernel_rfl
@[go_sem] theorem ty_und116 : Program.underlying Tryz.prog 116 = (Option.some (Go.TypeDesc.func #[] #[33] Bool.false)) := by kernel_rfl
@[go_sem] theorem ty_elem116 : telem Tryz.prog 116 = Option.none := by kernel_rfl
@[go_sem] theorem ty_size122 : tsize Tryz.prog 122 = (Option.some 1) := by kernel_rfl
@[go_sem] theorem ty_bytes122 : tbytes Tryz.prog 122 = (Option.some 8) := by kernel_rfl
@[go_sem] theorem ty_zero122 : tzero Tryz.prog 122 = (Option.some (Go.Value.int Go.IntKind.u64 0)) := by kernel_rfl
@[go_sem] theorem ty_agg122 : tagg Tryz.prog 122 = (Option.some Bool.false) := by kernel_rfl
@[go_sem] theorem ty_und122 : Program.underlying Tryz.prog 122 = (Option.some (Go.TypeDesc.int Go.IntKind.u64)) := by kernel_rfl
@[go_sem] theorem ty_elem122 : telem Tryz.prog 122 = Option.none := by kernel_rfl
@[go_sem] theorem ty_size123 : tsize Tryz.prog 123 = (Option.some 2) := by kernel_rfl
@[go_sem] theorem ty_bytes123 : tbytes Tryz.prog 123 = (Option.some 32) := by kernel_rfl
@[go_sem] theorem ty_zero123 : tzero Tryz.prog 123 = (Option.some (Go.Value.agg #[(Go.Value.string ⟨#[]⟩), (Go.Value.string ⟨#[]⟩)])) := by kernel_rfl
@[go_sem] theorem ty_agg123 : tagg Tryz.prog 123 = (Option.some Bool.true) := by kernel_rfl
@[go_sem] theorem ty_und123 : Program.underlying Tryz.prog 123 = (Option.some (Go.TypeDesc.array 2 9)) := by kernel_rfl
@[go_sem] theorem ty_elem123 : telem Tryz.prog 123 = Option.none := by kernel_rfl
@[go_sem] theorem ty_size125 : tsize Tryz.prog 125 = (Option.some 1) := by kernel_rfl
@[go_sem] theorem ty_bytes125 : tbytes Tryz.prog 125 = (Option.some 8) := by kernel_rfl
@[go_sem] theorem ty_zero125 : tzero Tryz.prog 125 = (Option.some Go.Value.nilFunc) := by kernel_rfl
@[go_sem] theorem ty_agg125 : tagg Tryz.prog 125 = (Option.some Bool.false) := by kernel_rfl
@[go_sem] theorem ty_und125 : Program.underlying Tryz.prog 125 = (Option.some (Go.TypeDesc.func #[33, 49] #[4] Bool.false)) := by kernel_rfl
@[go_sem] theorem ty_elem125 : telem Tryz.prog 125 = Option.none := by kernel_rfl
@[go_sem] theorem ty_size128 : tsize Tryz.prog 128 = (Option.some 256) := by kernel_rfl
@[go_sem] theorem ty_bytes128 : tbytes Tryz.prog 128 = (Option.some 256) := by kernel_rfl
@[go_sem] theorem ty_zero128 : tzero Tryz.prog 128 = (Option.some (Go.Value.agg #[(Go.Value.bool Bool.false), (Go.Value.bool Bool.false), (Go.Value.bool Bool.false), (Go.Value.bool Bool.false), (Go.Value.bool Bool.false), (Go.Value.bool Bool.false), (Go.Value.bool Bool.false), (Go.Value.bool Bool.false), (Go.Value.bool Bool.false), (Go.Value.bool Bool.false), (Go.Value.bool Bool.false), (Go.Value.bool Bool.false), (Go.Value.bool Bool.false), (Go.Value.bool Bool.false), (Go.Value.bool Bool.false), (Go.Value.bool Bool.false), (Go.Value.bool Bool.false), (Go.Value.bool Bool.false), (Go.Value.bool Bool.false), (Go.Value.bool Bool.false), (Go.Value.bool Bool.false), (Go.Value.bool Bool.false), (Go.Value.bool Bool.false), (Go.Value.bool Bool.false), (Go.Value.bool Bool.false), (Go.Value.bool Bool.false), (Go.Value.bool Bool.false), (Go.Value.bool Bool.false), (Go.Value.bool Bool.false), (Go.Value.bool Bool.false), (Go.Value.bool Bool.false), (Go.Value.bool Bool.false), (Go.Value.bool Bool.false), (Go.Value.bool Bool.false), (Go.Value.bool Bool.false), (Go.Value.bool Bool.false), (Go.Value.bool Bool.false), (Go.Value.bool Bool.false), (Go.Value.bool Bool.false), (Go.Value.bool Bool.false), (Go.Value.bool Bool.false), (Go.Value.bool Bool.false), (Go.Value.bool Bool.false), (Go.Value.bool Bool.false), (Go.Value.bool Bool.false), (Go.Value.bool Bool.false), (Go.Value.bool Bool.false), (Go.Value.bool Bool.false), (Go.Value.bool Bool.false), (Go.Value.bool Bool.false), (Go.Value.bool Bool.false), (Go.Value.bool Bool.false), (Go.Value.bool Bool.false), (Go.Value.bool Bool.false), (Go.Value.bool Bool.false), (Go.Value.bool Bool.false), (Go.Value.bool Bool.false), (Go.Value.bool Bool.false), (Go.Value.bool Bool.false), (Go.Value.bool Bool.false), (Go.Value.bool Bool.false), (Go.Value.bool Bool.false), (Go.Value.bool Bool.false), (Go.Value.bool Bool.false), (Go.Value.bool Bool.false), (Go.Value.bool Bool.false), (Go.Value.bool Bool.false), (Go.Value.bool Bool.false), (Go.Value.bool Bool.false), (Go.Value.bool Bool.false), (Go.Value.bool Bool.false), (Go.Value.bool Bool.false), (Go.Value.bool Bool.false), (Go.Value.bool Bool.false), (Go.Value.bool Bool.false), (Go.Value.bool Bool.false), (Go.Value.bool Bool.false), (Go.Value.bool Bool.false), (Go.Value.bool Bool.false), (Go.Value.bool Bool.false), (Go.Value.bool Bool.false), (Go.Value.bool Bool.false), (Go.Value.bool Bool.false), (Go.Value.bool Bool.false), (Go.Value.bool Bool.false), (Go.Value.bool Bool.false), (Go.Value.bool Bool.false), (Go.Value.bool Bool.false), (Go.Value.bool Bool.false), (Go.Value.bool Bool.false), (Go.Value.bool Bool.false), (Go.Value.bool Bool.false), (Go.Value.bool Bool.false), (Go.Value.bool Bool.false), (Go.Value.bool Bool.false), (Go.Value.bool Bool.false), (Go.Value.bool Bool.false), (Go.Value.bool Bool.false), (Go.Value.bool Bool.false), (Go.Value.bool Bool.false), (Go.Value.bool Bool.false), (Go.Value.bool Bool.false), (Go.Value.bool Bool.false), (Go.Value.bool Bool.false), (Go.Value.bool Bool.false), (Go.Value.bool Bool.false), (Go.Value.bool Bool.false), (Go.Value.bool Bool.false), (Go.Value.bool Bool.false), (Go.Value.bool Bool.false), (Go.Value.bool Bool.false), (Go.Value.bool Bool.false), (Go.Value.bool Bool.false), (Go.Value.bool Bool.false), (Go.Value.bool Bool.false), (Go.Value.bool Bool.false), (Go.Value.bool Bool.false), (Go.Value.bool Bool.false), (Go.Value.bool Bool.false), (Go.Value.bool Bool.false), (Go.Value.bool Bool.false), (Go.Value.bool Bool.false), (Go.Value.bool Bool.false), (Go.Value.bool Bool.false), (Go.Value.bool Bool.false), (Go.Value.bool Bool.false), (Go.Value.bool Bool.false), (Go.Value.bool Bool.false), (Go.Value.bool Bool.false), (Go.Value.bool Bool.false), (Go.Value.bool Bool.false), (Go.Value.bool Bool.false), (Go.Value.bool Bool.false), (Go.Value.bool Bool.false), (Go.Value.bool Bool.false), (Go.Value.bool Bool.false), (Go.Value.bool Bool.false), (Go.Value.bool Bool.false), (Go.Value.bool Bool.false), (Go.Value.bool Bool.false), (Go.Value.bool Bool.false), (Go.Value.bool Bool.false), (Go.Value.bool Bool.false), (Go.Value.bool Bool.false), (Go.Value.bool Bool.false), (Go.Value.bool Bool.false), (Go.Value.bool Bool.false), (Go.Value.bool Bool.false), (Go.Value.bool Bool.false), (Go.Value.bool Bool.false), (Go.Value.bool Bool.false), (Go.Value.bool Bool.false), (Go.Value.bool Bool.false), (Go.Value.bool Bool.false), (Go.Value.bool Bool.false), (Go.Value.bool Bool.false), (Go.Value.bool Bool.false), (Go.Value.bool Bool.false), (Go.Value.bool Bool.false), (Go.Value.bool Bool.false), (Go.Value.bool Bool.false), (Go.Value.bool Bool.false), (Go.Value.bool Bool.false), (Go.Value.bool Bool.false), (Go.Value.bool Bool.false), (Go.Value.bool Bool.false), (Go.Value.bool Bool.false), (Go.Value.bool Bool.false), (Go.Value.bool Bool.false), (Go.Value.bool Bool.false), (Go.Value.bool Bool.false), (Go.Value.bool Bool.false), (Go.Value.bool Bool.false), (Go.Value.bool Bool.false), (Go.Value.bool Bool.false), (Go.Value.bool Bool.false), (Go.Value.bool Bool.false), (Go.Value.bool Bool.false), (Go.Value.bool Bool.false), (Go.Value.bool Bool.false), (Go.Value.bool Bool.false), (Go.Value.bool Bool.false), (Go.Value.bool Bool.false), (Go.Value.bool Bool.false), (Go.Value.bool Bool.false), (Go.Value.bool Bool.false), (Go.Value.bool Bool.false), (Go.Value.bool Bool.false), (Go.Value.bool Bool.false), (Go.Value.bool Bool.false), (Go.Value.bool Bool.false), (Go.Value.bool Bool.false), (Go.Value.bool Bool.false), (Go.Value.bool Bool.false), (Go.Value.bool Bool.false), (Go.Value.bool Bool.false), (Go.Value.bool Bool.false), (Go.Value.bool Bool.false), (Go.Value.bool Bool.false), (Go.Value.bool Bool.false), (Go.Value.bool Bool.false), (Go.Value.bool Bool.false), (Go.Value.bool Bool.false), (Go.Value.bool Bool.false), (Go.Value.bool Bool.false), (Go.Value.bool Bool.false), (Go.Value.bool Bool.false), (Go.Value.bool Bool.false), (Go.Value.bool Bool.false), (Go.Value.bool Bool.false), (Go.Value.bool Bool.false), (Go.Value.bool Bool.false), (Go.Value.bool Bool.false), (Go.Value.bool Bool.false), (Go.Value.bool Bool.false), (Go.Value.bool Bool.false), (Go.Value.bool Bool.false), (Go.Value.bool Bool.false), (Go.Value.bool Bool.false), (Go.Value.bool Bool.false), (Go.Value.bool Bool.false), (Go.Value.bool Bool.false), (Go.Value.bool Bool.false), (Go.Value.bool Bool.false), (Go.Value.bool Bool.false), (Go.Value.bool Bool.false), (Go.Value.bool Bool.false), (Go.Value.bool Bool.false), (Go.Value.bool Bool.false), (Go.Value.bool Bool.false), (Go.Value.bool Bool.false), (Go.Value.bool Bool.false), (Go.Value.bool Bool.false), (Go.Value.bool Bool.false), (Go.Value.bool Bool.false), (Go.Value.bool Bool.false), (Go.Value.bool Bool.false), (Go.Value.bool Bool.false), (Go.Value.bool Bool.false), (Go.Value.bool Bool.false), (Go.Value.bool Bool.false), (Go.Value.bool Bool.false), (Go.Value.bool Bool.false), (Go.Value.bool Bool.false), (Go.Value.bool Bool.false), (Go.Value.bool Bool.false), (Go.Value.bool Bool.false), (Go.Value.bool Bool.false), (Go.Value.bool Bool.false), (Go.Value.bool Bool.false), (Go.Value.bool Bool.false), (Go.Value.bool Bool.false), (Go.Value.bool Bool.false), (Go.Value.bool Bool.false), (Go.Value.bool Bool.false), (Go.Value.bool Bool.false)])) := by kernel_rfl
@[go_sem] theorem ty_agg128 : tagg Tryz.prog 128 = (Option.some Bool.true) := by kernel_rfl
@[go_sem] theorem ty_und128 : Program.underlying Tryz.prog 128 = (Option.some (Go.TypeDesc.array 256 4)) := by kernel_rfl
@[go_sem] theorem ty_elem128 : telem Tryz.prog 128 = Option.none := by kernel_rfl
@[go_sem] theorem ty_size129 : tsize Tryz.prog 129 = (Option.some 256) := by kernel_rfl
@[go_sem] theorem ty_bytes129 : tbytes Tryz.prog 129 = (Option.some 256) := by kernel_rfl
@[go_sem] theorem ty_zero129 : tzero Tryz.prog 129 = (Option.some (Go.Value.agg #[(Go.Value.bool Bool.false), (Go.Value.bool Bool.false), (Go.Value.bool Bool.false), (Go.Value.bool Bool.false), (Go.Value.bool Bool.false), (Go.Value.bool Bool.false), (Go.Value.bool Bool.false), (Go.Value.bool Bool.false), (Go.Value.bool Bool.false), (Go.Value.bool Bool.false), (Go.Value.bool Bool.false), (Go.Value.bool Bool.false), (Go.Value.bool Bool.false), (Go.Value.bool Bool.false), (Go.Value.bool Bool.false), (Go.Value.bool Bool.false), (Go.Value.bool Bool.false), (Go.Value.bool Bool.false), (Go.Value.bool Bool.false), (Go.Value.bool Bool.false), (Go.Value.bool Bool.false), (Go.Value.bool Bool.false), (Go.Value.bool Bool.false), (Go.Value.bool Bool.false), (Go.Value.bool Bool.false), (Go.Value.bool Bool.false), (Go.Value.bool Bool.false), (Go.Value.bool Bool.false), (Go.Value.bool Bool.false), (Go.Value.bool Bool.false), (Go.Value.bool Bool.false), (Go.Value.bool Bool.false), (Go.Value.bool Bool.false), (Go.Value.bool Bool.false), (Go.Value.bool Bool.false), (Go.Value.bool Bool.false), (Go.Value.bool Bool.false), (Go.Value.bool Bool.false), (Go.Value.bool Bool.false), (Go.Value.bool Bool.false), (Go.Value.bool Bool.false), (Go.Value.bool Bool.false), (Go.Value.bool Bool.false), (Go.Value.bool Bool.false), (Go.Value.bool Bool.false), (Go.Value.bool Bool.false), (Go.Value.bool Bool.false), (Go.Value.bool Bool.false), (Go.Value.bool Bool.false), (Go.Value.bool Bool.false), (Go.Value.bool Bool.false), (Go.Value.bool Bool.false), (Go.Value.bool Bool.false), (Go.Value.bool Bool.false), (Go.Value.bool Bool.false), (Go.Value.bool Bool.false), (Go.Value.bool Bool.false), (Go.Value.bool Bool.false), (Go.Value.bool Bool.false), (Go.Value.bool Bool.false), (Go.Value.bool Bool.false), (Go.Value.bool Bool.false), (Go.Value.bool Bool.false), (Go.Value.bool Bool.false), (Go.Value.bool Bool.false), (Go.Value.bool Bool.false), (Go.Value.bool Bool.false), (Go.Value.bool Bool.false), (Go.Value.bool Bool.false), (Go.Value.bool Bool.false), (Go.Value.bool Bool.false), (Go.Value.bool Bool.false), (Go.Value.bool Bool.false), (Go.Value.bool Bool.false), (Go.Value.bool Bool.false), (Go.Value.bool Bool.false), (Go.Value.bool Bool.false), (Go.Value.bool Bool.false), (Go.Value.bool Bool.false), (Go.Value.bool Bool.false), (Go.Value.bool Bool.false), (Go.Value.bool Bool.false), (Go.Value.bool Bool.false), (Go.Value.bool Bool.false), (Go.Value.bool Bool.false), (Go.Value.bool Bool.false), (Go.Value.bool Bool.false), (Go.Value.bool Bool.false), (Go.Value.bool Bool.false), (Go.Value.bool Bool.false), (Go.Value.bool Bool.false), (Go.Value.bool Bool.false), (Go.Value.bool Bool.false), (Go.Value.bool Bool.false), (Go.Value.bool Bool.false), (Go.Value.bool Bool.false), (Go.Value.bool Bool.false), (Go.Value.bool Bool.false), (Go.Value.bool Bool.false), (Go.Value.bool Bool.false), (Go.Value.bool Bool.false), (Go.Value.bool Bool.false), (Go.Value.bool Bool.false), (Go.Value.bool Bool.false), (Go.Value.bool Bool.false), (Go.Value.bool Bool.false), (Go.Value.bool Bool.false), (Go.Value.bool Bool.false), (Go.Value.bool Bool.false), (Go.Value.bool Bool.false), (Go.Value.bool Bool.false), (Go.Value.bool Bool.false), (Go.Value.bool Bool.false), (Go.Value.bool Bool.false), (Go.Value.bool Bool.false), (Go.Value.bool Bool.false), (Go.Value.bool Bool.false), (Go.Value.bool Bool.false), (Go.Value.bool Bool.false), (Go.Value.bool Bool.false), (Go.Value.bool Bool.false), (Go.Value.bool Bool.false), (Go.Value.bool Bool.false), (Go.Value.bool Bool.false), (Go.Value.bool Bool.false), (Go.Value.bool Bool.false), (Go.Value.bool Bool.false), (Go.Value.bool Bool.false), (Go.Value.bool Bool.false), (Go.Value.bool Bool.false), (Go.Value.bool Bool.false), (Go.Value.bool Bool.false), (Go.Value.bool Bool.false), (Go.Value.bool Bool.false), (Go.Value.bool Bool.false), (Go.Value.bool Bool.false), (Go.Value.bool Bool.false), (Go.Value.bool Bool.false), (Go.Value.bool Bool.false), (Go.Value.bool Bool.false), (Go.Value.bool Bool.false), (Go.Value.bool Bool.false), (Go.Value.bool Bool.false), (Go.Value.bool Bool.false), (Go.Value.bool Bool.false), (Go.Value.bool Bool.false), (Go.Value.bool Bool.false), (Go.Value.bool Bool.false), (Go.Value.bool Bool.false), (Go.Value.bool Bool.false), (Go.Value.bool Bool.false), (Go.Value.bool Bool.false), (Go.Value.bool Bool.false), (Go.Value.bool Bool.false), (Go.Value.bool Bool.false), (Go.Value.bool Bool.false), (Go.Value.bool Bool.false), (Go.Value.bool Bool.false), (Go.Value.bool Bool.false), (Go.Value.bool Bool.false), (Go.Value.bool Bool.false), (Go.Value.bool Bool.false), (Go.Value.bool Bool.false), (Go.Value.bool Bool.false), (Go.Value.bool Bool.false), (Go.Value.bool Bool.false), (Go.Value.bool Bool.false), (Go.Value.bool Bool.false), (Go.Value.bool Bool.false), (Go.Value.bool Bool.false), (Go.Value.bool Bool.false), (Go.Value.bool Bool.false), (Go.Value.bool Bool.false), (Go.Value.bool Bool.false), (Go.Value.bool Bool.false), (Go.Value.bool Bool.false), (Go.Value.bool Bool.false), (Go.Value.bool Bool.false), (Go.Value.bool Bool.false), (Go.Value.bool Bool.false), (Go.Value.bool Bool.false), (Go.Value.bool Bool.false), (Go.Value.bool Bool.false), (Go.Value.bool Bool.false), (Go.Value.bool Bool.false), (Go.Value.bool Bool.false), (Go.Value.bool Bool.false), (Go.Value.bool Bool.false), (Go.Value.bool Bool.false), (Go.Value.bool Bool.false), (Go.Value.bool Bool.false), (Go.Value.bool Bool.false), (Go.Value.bool Bool.false), (Go.Value.bool Bool.false), (Go.Value.bool Bool.false), (Go.Value.bool Bool.false), (Go.Value.bool Bool.false), (Go.Value.bool Bool.false), (Go.Value.bool Bool.false), (Go.Value.bool Bool.false), (Go.Value.bool Bool.false), (Go.Value.bool Bool.false), (Go.Value.bool Bool.false), (Go.Value.bool Bool.false), (Go.Value.bool Bool.false), (Go.Value.bool Bool.false), (Go.Value.bool Bool.false), (Go.Value.bool Bool.false), (Go.Value.bool Bool.false), (Go.Value.bool Bool.false), (Go.Value.bool Bool.false), (Go.Value.bool Bool.false), (Go.Value.bool Bool.false), (Go.Value.bool Bool.false), (Go.Value.bool Bool.false), (Go.Value.bool Bool.false), (Go.Value.bool Bool.false), (Go.Value.bool Bool.false), (Go.Value.bool Bool.false), (Go.Value.bool Bool.false), (Go.Value.bool Bool.false), (Go.Value.bool Bool.false), (Go.Value.bool Bool.false), (Go.Value.bool Bool.false), (Go.Value.bool Bool.false), (Go.Value.bool Bool.false), (Go.Value.bool Bool.false), (Go.Value.bool Bool.false), (Go.Value.bool Bool.false), (Go.Value.bool Bool.false), (Go.Value.bool Bool.false), (Go.Value.bool Bool.false), (Go.Value.bool Bool.false), (Go.Value.bool Bool.false), (Go.Value.bool Bool.false), (Go.Value.bool Bool.false), (Go.Value.bool Bool.false), (Go.Value.bool Bool.false), (Go.Value.bool Bool.false), (Go.Value.bool Bool.false), (Go.Value.bool Bool.false), (Go.Value.bool Bool.false), (Go.Value.bool Bool.false), (Go.Value.bool Bool.false), (Go.Value.bool Bool.false), (Go.Value.bool Bool.false), (Go.Value.bool Bool.false), (Go.Value.bool Bool.false), (Go.Value.bool Bool.false), (Go.Value.bool Bool.false), (Go.Value.bool Bool.false), (Go.Value.bool Bool.false), (Go.Value.bool Bool.false), (Go.Value.bool Bool.false), (Go.Value.bool Bool.false), (Go.Value.bool Bool.false)])) := by kernel_rfl
@[go_sem] theorem ty_agg129 : tagg Tryz.prog 129 = (Option.some Bool.true) := by kernel_rfl
@[go_sem] theorem ty_und129 : Program.underlying Tryz.prog 129 = (Option.some (Go.TypeDesc.array 256 4)) := by kernel_rfl
@[go_sem] theorem ty_elem129 : telem Tryz.prog 129 = Option.none := by kernel_rfl
@[go_sem] theorem ty_size133 : tsize Tryz.prog 133 = (Option.some 1) := by kernel_rfl
@[go_sem] theorem ty_bytes133 : tbytes Tryz.prog 133 = (Option.some 8) := by kernel_rfl
@[go_sem] theorem ty_zero133 : tzero Tryz.prog 133 = (Option.some (Go.Value.pointer Option.none)) := by kernel_rfl
@[go_sem] theorem ty_agg133 : tagg Tryz.prog 133 = (Option.some Bool.false) := by kernel_rfl
@[go_sem] theorem ty_und133 : Program.underlying Tryz.prog 133 = (Option.some (Go.TypeDesc.pointer 129)) := by kernel_rfl
@[go_sem] theorem ty_elem133 : telem Tryz.prog 133 = Option.none := by kernel_rfl
@[go_sem] theorem ty_size139 : tsize Tryz.prog 139 = (Option.some 1) := by kernel_rfl
@[go_sem] theorem ty_bytes139 : tbytes Tryz.prog 139 = (Option.some 8) := by kernel_rfl
@[go_sem] theorem ty_zero139 : tzero Tryz.prog 139 = (Option.some (Go.Value.int Go.IntKind.i64 0)) := by kernel_rfl
@[go_sem] theorem ty_agg139 : tagg Tryz.prog 139 = (Option.some Bool.false) := by kernel_rfl
@[go_sem] theorem ty_und139 : Program.underlying Tryz.prog 139 = (Option.some (Go.TypeDesc.int Go.IntKind.i64)) := by kernel_rfl
@[go_sem] theorem ty_elem139 : telem Tryz.prog 139 = Option.none := by kernel_rfl
@[go_sem] theorem ty_size150 : tsize Tryz.prog 150 = (Option.some 1) := by kernel_rfl
@[go_sem] theorem ty_bytes150 : tbytes Tryz.prog 150 = (Option.some 8) := by kernel_rfl
@[go_sem] theorem ty_zero150 : tzero Tryz.prog 150 = (Option.some (Go.Value.int Go.IntKind.u64 0)) := by kernel_rfl
@[go_sem] theorem ty_agg150 : tagg Tryz.prog 150 = (Option.some Bool.false) := by kernel_rfl
@[go_sem] theorem ty_und150 : Program.underlying Tryz.prog 150 = (Option.some (Go.TypeDesc.int Go.IntKind.u64)) := by kernel_rfl
@[go_sem] theorem ty_elem150 : telem Tryz.prog 150 = Option.none := by kernel_rfl
@[go_sem] theorem ty_size160 : tsize Tryz.prog 160 = (Option.some 1) := by kernel_rfl
@[go_sem] theorem ty_bytes160 : tbytes Tryz.prog 160 = (Option.some 8) := by kernel_rfl
@[go_sem] theorem ty_zero160 : tzero Tryz.prog 160 = (Option.some (Go.Value.int Go.IntKind.u64 0)) := by kernel_rfl
@[go_sem] theorem ty_agg160 : tagg Tryz.prog 160 = (Option.some Bool.false) := by kernel_rfl
@[go_sem] theorem ty_und160 : Program.underlying Tryz.prog 160 = (Option.some (Go.TypeDesc.int Go.IntKind.u64)) := by kernel_rfl
@[go_sem] theorem ty_elem160 : telem Tryz.prog 160 = Option.none := by kernel_rfl
@[go_sem] theorem ty_size164 : tsize Tryz.prog 164 = (Option.some 1) := by kernel_rfl
@[go_sem] theorem ty_bytes164 : tbytes Tryz.prog 164 = (Option.some 8) := by kernel_rfl
@[go_sem] theorem ty_zero164 : tzero Tryz.prog 164 = (Option.some (Go.Value.pointer Option.none)) := by kernel_rfl
@[go_sem] theorem ty_agg164 : tagg Tryz.prog 164 = (Option.some Bool.false) := by kernel_rfl
@[go_sem] theorem ty_und164 : Program.underlying Tryz.prog 164 = (Option.some (Go.TypeDesc.pointer 3)) := by kernel_rfl
@[go_sem] theorem ty_elem164 : telem Tryz.prog 164 = Option.none := by kernel_rfl
end Go.Ab
