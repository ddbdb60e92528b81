/-
  One text of the proof (own work): contracts of functions of the program, by the abstract machine.
-/
import Derived.Test.YtapnigckcnknoaaGreatDoorChecked
import Derived.Test.YtapnigckcnknoaaGreatDoorX12
import Derived.Test.YtapnigckcnknoaaGreatDoorX13
set_option linter.unusedVariables false
set_option linter.unusedSimpArgs false
namespace Go.Ab
open Go Go.RowKit Go.Proofs
@[go_sem] theorem ty_size3 : tsize Tryz.prog 3 = (Option.some 1) := by kernel_rfl
@[go_sem] theorem ty_bytes3 : tbytes Tryz.prog 3 = (Option.some 8) := by kernel_rfl
@[go_sem] theorem ty_zero3 : tzero Tryz.prog 3 = (Option.some (Go.Value.int Go.IntKind.i64 0)) := by kernel_rfl
@[go_sem] theorem ty_agg3 : tagg Tryz.prog 3 = (Option.some Bool.false) := by kernel_rfl
@[go_sem] theorem ty_und3 : Program.underlying Tryz.prog 3 = (Option.some (Go.TypeDesc.int Go.IntKind.i64)) := by kernel_rfl
@[go_sem] theorem ty_elem3 : telem Tryz.prog 3 = Option.none := by kernel_rfl
@[go_sem] theorem ty_size4 : tsize Tryz.prog 4 = (Option.some 1) := by kernel_rfl
@[go_sem] theorem ty_bytes4 : tbytes Tryz.prog 4 = (Option.some 1) := by kernel_rfl
@[go_sem] theorem ty_zero4 : tzero Tryz.prog 4 = (Option.some (Go.Value.bool Bool.false)) := by kernel_rfl
@[go_sem] theorem ty_agg4 : tagg Tryz.prog 4 = (Option.some Bool.false) := by kernel_rfl
@[go_sem] theorem ty_und4 : Program.underlying Tryz.prog 4 = (Option.some Go.TypeDesc.bool) := by kernel_rfl
@[go_sem] theorem ty_elem4 : telem Tryz.prog 4 = Option.none := by kernel_rfl
@[go_sem] theorem ty_size5 : tsize Tryz.prog 5 = (Option.some 1) := by kernel_rfl
@[go_sem] theorem ty_bytes5 : tbytes Tryz.prog 5 = (Option.some 1) := by kernel_rfl
@[go_sem] theorem ty_zero5 : tzero Tryz.prog 5 = (Option.some (Go.Value.int Go.IntKind.u8 0)) := by kernel_rfl
@[go_sem] theorem ty_agg5 : tagg Tryz.prog 5 = (Option.some Bool.false) := by kernel_rfl
@[go_sem] theorem ty_und5 : Program.underlying Tryz.prog 5 = (Option.some (Go.TypeDesc.int Go.IntKind.u8)) := by kernel_rfl
@[go_sem] theorem ty_elem5 : telem Tryz.prog 5 = Option.none := by kernel_rfl
@[go_sem] theorem ty_size9 : tsize Tryz.prog 9 = (Option.some 1) := by kernel_rfl
@[go_sem] theorem ty_bytes9 : tbytes Tryz.prog 9 = (Option.some 16) := by kernel_rfl
@[go_sem] theorem ty_zero9 : tzero Tryz.prog 9 = (Option.some (Go.Value.string ⟨#[]⟩)) := by kernel_rfl
@[go_sem] theorem ty_agg9 : tagg Tryz.prog 9 = (Option.some Bool.false) := by kernel_rfl
@[go_sem] theorem ty_und9 : Program.underlying Tryz.prog 9 = (Option.some Go.TypeDesc.string) := by kernel_rfl
@[go_sem] theorem ty_elem9 : telem Tryz.prog 9 = Option.none := by kernel_rfl
@[go_sem] theorem ty_size21 : tsize Tryz.prog 21 = (Option.some 1) := by kernel_rfl
@[go_sem] theorem ty_bytes21 : tbytes Tryz.prog 21 = (Option.some 4) := by kernel_rfl
@[go_sem] theorem ty_zero21 : tzero Tryz.prog 21 = (Option.some (Go.Value.int Go.IntKind.i32 0)) := by kernel_rfl
@[go_sem] theorem ty_agg21 : tagg Tryz.prog 21 = (Option.some Bool.false) := by kernel_rfl
@[go_sem] theorem ty_und21 : Program.underlying Tryz.prog 21 = (Option.some (Go.TypeDesc.int Go.IntKind.i32)) := by kernel_rfl
@[go_sem] theorem ty_elem21 : telem Tryz.prog 21 = Option.none := by kernel_rfl
@[go_sem] theorem ty_size22 : tsize Tryz.prog 22 = (Option.some 1) := by kernel_rfl
@[go_sem] theorem ty_bytes22 : tbytes Tryz.prog 22 = (Option.some 24) := by kernel_rfl
@[go_sem] theorem ty_zero22 : tzero Tryz.prog 22 = (Option.some (Go.Value.slice Option.none 0 0)) := by kernel_rfl
@[go_sem] theorem ty_agg22 : tagg Tryz.prog 22 = (Option.some Bool.false) := by kernel_rfl
@[go_sem] theorem ty_und22 : Program.underlying Tryz.prog 22 = (Option.some (Go.TypeDesc.slice 67)) := by kernel_rfl
@[go_sem] theorem ty_elem22 : telem Tryz.prog 22 = (Option.some 67) := by kernel_rfl
@[go_sem] theorem ty_size23 : tsize Tryz.prog 23 = (Option.some 1) := by kernel_rfl
@[go_sem] theorem ty_bytes23 : tbytes Tryz.prog 23 = (Option.some 24) := by kernel_rfl
@[go_sem] theorem ty_zero23 : tzero Tryz.prog 23 = (Option.some (Go.Value.slice Option.none 0 0)) := by kernel_rfl
@[go_sem] theorem ty_agg23 : tagg Tryz.prog 23 = (Option.some Bool.false) := by kernel_rfl
@[go_sem] theorem ty_und23 : Program.underlying Tryz.prog 23 = (Option.some (Go.TypeDesc.slice 67)) := by kernel_rfl
@[go_sem] theorem ty_elem23 : telem Tryz.prog 23 = (Option.some 67) := by kernel_rfl
@[go_sem] theorem ty_size24 : tsize Tryz.prog 24 = (Option.some 1) := by kernel_rfl
@[go_sem] theorem ty_bytes24 : tbytes Tryz.prog 24 = (Option.some 24) := by kernel_rfl
@[go_sem] theorem ty_zero24 : tzero Tryz.prog 24 = (Option.some (Go.Value.slice Option.none 0 0)) := by kernel_rfl
@[go_sem] theorem ty_agg24 : tagg Tryz.prog 24 = (Option.some Bool.false) := by kernel_rfl
@[go_sem] theorem ty_und24 : Program.underlying Tryz.prog 24 = (Option.some (Go.TypeDesc.slice 9)) := by kernel_rfl
@[go_sem] theorem ty_elem24 : telem Tryz.prog 24 = (Option.some 9) := by kernel_rfl
@[go_sem] theorem ty_size25 : tsize Tryz.prog 25 = (Option.some 3) := by kernel_rfl
@[go_sem] theorem ty_bytes25 : tbytes Tryz.prog 25 = (Option.some 32) := by kernel_rfl
@[go_sem] theorem ty_zero25 : tzero Tryz.prog 25 = (Option.some (Go.Value.agg #[(Go.Value.string ⟨#[]⟩), (Go.Value.int Go.IntKind.i64 0), (Go.Value.int Go.IntKind.i64 0)])) := by kernel_rfl
@[go_sem] theorem ty_agg25 : tagg Tryz.prog 25 = (Option.some Bool.true) := by kernel_rfl
@[go_sem] theorem ty_field25_0 : tfield Tryz.prog 25 0 = (Option.some ⟨"Path", 9, 0, Bool.false, "", "", 0⟩) := by kernel_rfl
@[go_sem] theorem ty_field25_1 : tfield Tryz.prog 25 1 = (Option.some ⟨"From", 3, 1, Bool.false, "", "", 16⟩) := by kernel_rfl
@[go_sem] theorem ty_field25_2 : tfield Tryz.prog 25 2 = (Option.some ⟨"To", 3, 2, Bool.false, "", "", 24⟩) := by kernel_rfl
@[go_sem] theorem ty_build25 (parts : List (Nat × AV)) : abuild Tryz.prog 25 parts = (setCells [(Go.Ab.AV.data (Go.Ab.D.str [])), (Go.Ab.AV.data (Go.Ab.D.int Go.IntKind.i64 0)), (Go.Ab.AV.data (Go.Ab.D.int Go.IntKind.i64 0))] ([(0, 1), (1, 1), (2, 1)][·]?) parts).map mkAgg := abuild_of (z := (Go.Value.agg #[(Go.Value.string ⟨#[]⟩), (Go.Value.int Go.IntKind.i64 0), (Go.Value.int Go.IntKind.i64 0)])) (by kernel_rfl) (by kernel_rfl) (by kernel_rfl)
@[go_sem] theorem ty_size26 : tsize Tryz.prog 26 = (Option.some 3) := by kernel_rfl
@[go_sem] theorem ty_bytes26 : tbytes Tryz.prog 26 = (Option.some 32) := by kernel_rfl
@[go_sem] theorem ty_zero26 : tzero Tryz.prog 26 = (Option.some (Go.Value.agg #[(Go.Value.string ⟨#[]⟩), (Go.Value.int Go.IntKind.i64 0), (Go.Value.int Go.IntKind.i64 0)])) := by kernel_rfl
@[go_sem] theorem ty_agg26 : tagg Tryz.prog 26 = (Option.some Bool.true) := by kernel_rfl
@[go_sem] theorem ty_field26_0 : tfield Tryz.prog 26 0 = (Option.some ⟨"Path", 9, 0, Bool.false, "", "", 0⟩) := by kernel_rfl
@[go_sem] theorem ty_field26_1 : tfield Tryz.prog 26 1 = (Option.some ⟨"From", 3, 1, Bool.false, "", "", 16⟩) := by kernel_rfl
@[go_sem] theorem ty_field26_2 : tfield Tryz.prog 26 2 = (Option.some ⟨"To", 3, 2, Bool.false, "", "", 24⟩) := by kernel_rfl
@[go_sem] theorem ty_build26 (parts : List (Nat × AV)) : abuild Tryz.prog 26 parts = (setCells [(Go.Ab.AV.data (Go.Ab.D.str [])), (Go.Ab.AV.data (Go.Ab.D.int Go.IntKind.i64 0)), (Go.Ab.AV.data (Go.Ab.D.int Go.IntKind.i64 0))] ([(0, 1), (1, 1), (2, 1)][·]?) parts).map mkAgg := abuild_of (z := (Go.Value.agg #[(Go.Value.string ⟨#[]⟩), (Go.Value.int Go.IntKind.i64 0), (Go.Value.int Go.IntKind.i64 0)])) (by kernel_rfl) (by kernel_rfl) (by kernel_rfl)
@[go_sem] theorem ty_size27 : tsize Tryz.prog 27 = (Option.some 5) := by kernel_rfl
@[go_sem] theorem ty_bytes27 : tbytes Tryz.prog 27 = (Option.some 72) := by kernel_rfl
@[go_sem] theorem ty_zero27 : tzero Tryz.prog 27 = (Option.some (Go.Value.agg #[(Go.Value.string ⟨#[]⟩), (Go.Value.slice Option.none 0 0), (Go.Value.string ⟨#[]⟩), (Go.Value.int Go.IntKind.i64 0), (Go.Value.int Go.IntKind.i64 0)])) := by kernel_rfl
@[go_sem] theorem ty_agg27 : tagg Tryz.prog 27 = (Option.some Bool.true) := by kernel_rfl
@[go_sem] theorem ty_field27_0 : tfield Tryz.prog 27 0 = (Option.some ⟨"Name", 9, 0, Bool.false, "", "", 0⟩) := by kernel_rfl
@[go_sem] theorem ty_field27_1 : tfield Tryz.prog 27 1 = (Option.some ⟨"Params", 24, 1, Bool.false, "", "", 16⟩) := by kernel_rfl
@[go_sem] theorem ty_field27_2 : tfield Tryz.prog 27 2 = (Option.some ⟨"Body", 26, 2, Bool.false, "", "", 40⟩) := by kernel_rfl
@[go_sem] theorem ty_build27 (parts : List (Nat × AV)) : abuild Tryz.prog 27 parts = (setCells [(Go.Ab.AV.data (Go.Ab.D.str [])), Go.Ab.AV.nils, (Go.Ab.AV.data (Go.Ab.D.str [])), (Go.Ab.AV.data (Go.Ab.D.int Go.IntKind.i64 0)), (Go.Ab.AV.data (Go.Ab.D.int Go.IntKind.i64 0))] ([(0, 1), (1, 1), (2, 3)][·]?) parts).map mkAgg := abuild_of (z := (Go.Value.agg #[(Go.Value.string ⟨#[]⟩), (Go.Value.slice Option.none 0 0), (Go.Value.string ⟨#[]⟩), (Go.Value.int Go.IntKind.i64 0), (Go.Value.int Go.IntKind.i64 0)])) (by kernel_rfl) (by kernel_rfl) (by kernel_rfl)
@[go_sem] theorem ty_size28 : tsize Tryz.prog 28 = (Option.some 5) := by kernel_rfl
@[go_sem] theorem ty_bytes28 : tbytes Tryz.prog 28 = (Option.some 72) := by kernel_rfl
@[go_sem] theorem ty_zero28 : tzero Tryz.prog 28 = (Option.some (Go.Value.agg #[(Go.Value.string ⟨#[]⟩), (Go.Value.slice Option.none 0 0), (Go.Value.string ⟨#[]⟩), (Go.Value.int Go.IntKind.i64 0), (Go.Value.int Go.IntKind.i64 0)])) := by kernel_rfl
@[go_sem] theorem ty_agg28 : tagg Tryz.prog 28 = (Option.some Bool.true) := by kernel_rfl
@[go_sem] theorem ty_field28_0 : tfield Tryz.prog 28 0 = (Option.some ⟨"Name", 9, 0, Bool.false, "", "", 0⟩) := by kernel_rfl
@[go_sem] theorem ty_field28_1 : tfield Tryz.prog 28 1 = (Option.some ⟨"Params", 24, 1, Bool.false, "", "", 16⟩) := by kernel_rfl
@[go_sem] theorem ty_field28_2 : tfield Tryz.prog 28 2 = (Option.some ⟨"Body", 26, 2, Bool.false, "", "", 40⟩) := by kernel_rfl
@[go_sem] theorem ty_build28 (parts : List (Nat × AV)) : abuild Tryz.prog 28 parts = (setCells [(Go.Ab.AV.data (Go.Ab.D.str [])), Go.Ab.AV.nils, (Go.Ab.AV.data (Go.Ab.D.str [])), (Go.Ab.AV.data (Go.Ab.D.int Go.IntKind.i64 0)), (Go.Ab.AV.data (Go.Ab.D.int Go.IntKind.i64 0))] ([(0, 1), (1, 1), (2, 3)][·]?) parts).map mkAgg := abuild_of (z := (Go.Value.agg #[(Go.Value.string ⟨#[]⟩), (Go.Value.slice Option.none 0 0), (Go.Value.string ⟨#[]⟩), (Go.Value.int Go.IntKind.i64 0), (Go.Value.int Go.IntKind.i64 0)])) (by kernel_rfl) (by kernel_rfl) (by kernel_rfl)
@[go_sem] theorem ty_size32 : tsize Tryz.prog 32 = (Option.some 1) := by kernel_rfl
@[go_sem] theorem ty_bytes32 : tbytes Tryz.prog 32 = (Option.some 24) := by kernel_rfl
@[go_sem] theorem ty_zero32 : tzero Tryz.prog 32 = (Option.some (Go.Value.slice Option.none 0 0)) := by kernel_rfl
@[go_sem] theorem ty_agg32 : tagg Tryz.prog 32 = (Option.some Bool.false) := by kernel_rfl
@[go_sem] theorem ty_und32 : Program.underlying Tryz.prog 32 = (Option.some (Go.TypeDesc.slice 28)) := by kernel_rfl
@[go_sem] theorem ty_elem32 : telem Tryz.prog 32 = (Option.some 28) := by kernel_rfl
@[go_sem] theorem ty_size33 : tsize Tryz.prog 33 = (Option.some 1) := by kernel_rfl
@[go_sem] theorem ty_bytes33 : tbytes Tryz.prog 33 = (Option.some 24) := by kernel_rfl
@[go_sem] theorem ty_zero33 : tzero Tryz.prog 33 = (Option.some (Go.Value.slice Option.none 0 0)) := by kernel_rfl
@[go_sem] theorem ty_agg33 : tagg Tryz.prog 33 = (Option.some Bool.false) := by kernel_rfl
@[go_sem] theorem ty_und33 : Program.underlying Tryz.prog 33 = (Option.some (Go.TypeDesc.slice 206)) := by kernel_rfl
@[go_sem] theorem ty_elem33 : telem Tryz.prog 33 = (Option.some 206) := by kernel_rfl
@[go_sem] theorem ty_size34 : tsize Tryz.prog 34 = (Option.some 1) := by kernel_rfl
@[go_sem] theorem ty_bytes34 : tbytes Tryz.prog 34 = (Option.some 24) := by kernel_rfl
@[go_sem] theorem ty_zero34 : tzero Tryz.prog 34 = (Option.some (Go.Value.slice Option.none 0 0)) := by kernel_rfl
@[go_sem] theorem ty_agg34 : tagg Tryz.prog 34 = (Option.some Bool.false) := by kernel_rfl
@[go_sem] theorem ty_und34 : Program.underlying Tryz.prog 34 = (Option.some (Go.TypeDesc.slice 26)) := by kernel_rfl
@[go_sem] theorem ty_elem34 : telem Tryz.prog 34 = (Option.some 26) := by kernel_rfl
@[go_sem] theorem ty_size35 : tsize Tryz.prog 35 = (Option.some 1) := by kernel_rfl
@[go_sem] theorem ty_bytes35 : tbytes Tryz.prog 35 = (Option.some 24) := by kernel_rfl
@[go_sem] theorem ty_zero35 : tzero Tryz.prog 35 = (Option.some (Go.Value.slice Option.none 0 0)) := by kernel_rfl
@[go_sem] theorem ty_agg35 : tagg Tryz.prog 35 = (Option.some Bool.false) := by kernel_rfl
@[go_sem] theorem ty_und35 : Program.underlying Tryz.prog 35 = (Option.some (Go.TypeDesc.slice 26)) := by kernel_rfl
@[go_sem] theorem ty_elem35 : telem Tryz.prog 35 = (Option.some 26) := by kernel_rfl
@[go_sem] theorem ty_size36 : tsize Tryz.prog 36 = (Option.some 6) := by kernel_rfl
@[go_sem] theorem ty_bytes36 : tbytes Tryz.prog 36 = (Option.some 136) := by kernel_rfl
@[go_sem] theorem ty_zero36 : tzero Tryz.prog 36 = (Option.some (Go.Value.agg #[(Go.Value.string ⟨#[]⟩), (Go.Value.slice Option.none 0 0), (Go.Value.slice Option.none 0 0), (Go.Value.slice Option.none 0 0), (Go.Value.slice Option.none 0 0), (Go.Value.slice Option.none 0 0)])) := by kernel_rfl
@[go_sem] theorem ty_agg36 : tagg Tryz.prog 36 = (Option.some Bool.true) := by kernel_rfl
@[go_sem] theorem ty_field36_0 : tfield Tryz.prog 36 0 = (Option.some ⟨"Path", 9, 0, Bool.false, "", "", 0⟩) := by kernel_rfl
@[go_sem] theorem ty_field36_1 : tfield Tryz.prog 36 1 = (Option.some ⟨"Flags", 24, 1, Bool.false, "", "", 16⟩) := by kernel_rfl
@[go_sem] theorem ty_field36_2 : tfield Tryz.prog 36 2 = (Option.some ⟨"Macros", 32, 2, Bool.false, "", "", 40⟩) := by kernel_rfl
@[go_sem] theorem ty_field36_3 : tfield Tryz.prog 36 3 = (Option.some ⟨"Items", 33, 3, Bool.false, "", "", 64⟩) := by kernel_rfl
@[go_sem] theorem ty_field36_4 : tfield Tryz.prog 36 4 = (Option.some ⟨"Heads", 35, 4, Bool.false, "", "", 88⟩) := by kernel_rfl
@[go_sem] theorem ty_field36_5 : tfield Tryz.prog 36 5 = (Option.some ⟨"Files", 24, 5, Bool.false, "", "", 112⟩) := by kernel_rfl
@[go_sem] theorem ty_build36 (parts : List (Nat × AV)) : abuild Tryz.prog 36 parts = (setCells [(Go.Ab.AV.data (Go.Ab.D.str [])), Go.Ab.AV.nils, Go.Ab.AV.nils, Go.Ab.AV.nils, Go.Ab.AV.nils, Go.Ab.AV.nils] ([(0, 1), (1, 1), (2, 1), (3, 1), (4, 1), (5, 1)][·]?) parts).map mkAgg := abuild_of (z := (Go.Value.agg #[(Go.Value.string ⟨#[]⟩), (Go.Value.slice Option.none 0 0), (Go.Value.slice Option.none 0 0), (Go.Value.slice Option.none 0 0), (Go.Value.slice Option.none 0 0), (Go.Value.slice Option.none 0 0)])) (by kernel_rfl) (by kernel_rfl) (by kernel_rfl)
@[go_sem] theorem ty_size37 : tsize Tryz.prog 37 = (Option.some 6) := by kernel_rfl
@[go_sem] theorem ty_bytes37 : tbytes Tryz.prog 37 = (Option.some 136) := by kernel_rfl
@[go_sem] theorem ty_zero37 : tzero Tryz.prog 37 = (Option.some (Go.Value.agg #[(Go.Value.string ⟨#[]⟩), (Go.Value.slice Option.none 0 0), (Go.Value.slice Option.none 0 0), (Go.Value.slice Option.none 0 0), (Go.Value.slice Option.none 0 0), (Go.Value.slice Option.none 0 0)])) := by kernel_rfl
@[go_sem] theorem ty_agg37 : tagg Tryz.prog 37 = (Option.some Bool.true) := by kernel_rfl
@[go_sem] theorem ty_field37_0 : tfield Tryz.prog 37 0 = (Option.some ⟨"Path", 9, 0, Bool.false, "", "", 0⟩) := by kernel_rfl
@[go_sem] theorem ty_field37_1 : tfield Tryz.prog 37 1 = (Option.some ⟨"Flags", 24, 1, Bool.false, "", "", 16⟩) := by kernel_rfl
@[go_sem] theorem ty_field37_2 : tfield Tryz.prog 37 2 = (Option.some ⟨"Macros", 32, 2, Bool.false, "", "", 40⟩) := by kernel_rfl
@[go_sem] theorem ty_field37_3 : tfield Tryz.prog 37 3 = (Option.some ⟨"Items", 33, 3, Bool.false, "", "", 64⟩) := by kernel_rfl
@[go_sem] theorem ty_field37_4 : tfield Tryz.prog 37 4 = (Option.some ⟨"Heads", 35, 4, Bool.false, "", "", 88⟩) := by kernel_rfl
@[go_sem] theorem ty_field37_5 : tfield Tryz.prog 37 5 = (Option.some ⟨"Files", 24, 5, Bool.false, "", "", 112⟩) := by kernel_rfl
@[go_sem] theorem ty_build37 (parts : List (Nat × AV)) : abuild Tryz.prog 37 parts = (setCells [(Go.Ab.AV.data (Go.Ab.D.str [])), Go.Ab.AV.nils, Go.Ab.AV.nils, Go.Ab.AV.nils, Go.Ab.AV.nils, Go.Ab.AV.nils] ([(0, 1), (1, 1), (2, 1), (3, 1), (4, 1), (5, 1)][·]?) parts).map mkAgg := abuild_of (z := (Go.Value.agg #[(Go.Value.string ⟨#[]⟩), (Go.Value.slice Option.none 0 0), (Go.Value.slice Option.none 0 0), (Go.Value.slice Option.none 0 0), (Go.Value.slice Option.none 0 0), (Go.Value.slice Option.none 0 0)])) (by kernel_rfl) (by kernel_rfl) (by kernel_rfl)
@[go_sem] theorem ty_size38 : tsize Tryz.prog 38 = (Option.some 1) := by kernel_rfl
@[go_sem] theorem ty_bytes38 : tbytes Tryz.prog 38 = (Option.some 24) := by kernel_rfl
@[go_sem] theorem ty_zero38 : tzero Tryz.prog 38 = (Option.some (Go.Value.slice Option.none 0 0)) := by kernel_rfl
@[go_sem] theorem ty_agg38 : tagg Tryz.prog 38 = (Option.some Bool.false) := by kernel_rfl
@[go_sem] theorem ty_und38 : Program.underlying Tryz.prog 38 = (Option.some (Go.TypeDesc.slice 55)) := by kernel_rfl
@[go_sem] theorem ty_elem38 : telem Tryz.prog 38 = (Option.some 55) := by kernel_rfl
@[go_sem] theorem ty_size39 : tsize Tryz.prog 39 = (Option.some 1) := by kernel_rfl
@[go_sem] theorem ty_bytes39 : tbytes Tryz.prog 39 = (Option.some 8) := by kernel_rfl
@[go_sem] theorem ty_zero39 : tzero Tryz.prog 39 = (Option.some (Go.Value.int Go.IntKind.i64 0)) := by kernel_rfl
@[go_sem] theorem ty_agg39 : tagg Tryz.prog 39 = (Option.some Bool.false) := by kernel_rfl
@[go_sem] theorem ty_und39 : Program.underlying Tryz.prog 39 = (Option.some (Go.TypeDesc.int Go.IntKind.i64)) := by kernel_rfl
@[go_sem] theorem ty_elem39 : telem Tryz.prog 39 = Option.none := by kernel_rfl
@[go_sem] theorem ty_size44 : tsize Tryz.prog 44 = (Option.some 2) := by kernel_rfl
@[go_sem] theorem ty_bytes44 : tbytes Tryz.prog 44 = (Option.some 24) := by kernel_rfl
@[go_sem] theorem ty_zero44 : tzero Tryz.prog 44 = (Option.some (Go.Value.agg #[(Go.Value.string ⟨#[]⟩), (Go.Value.int Go.IntKind.i64 0)])) := by kernel_rfl
@[go_sem] theorem ty_agg44 : tagg Tryz.prog 44 = (Option.some Bool.true) := by kernel_rfl
@[go_sem] theorem ty_field44_0 : tfield Tryz.prog 44 0 = (Option.some ⟨"Path", 9, 0, Bool.false, "", "", 0⟩) := by kernel_rfl
@[go_sem] theorem ty_field44_1 : tfield Tryz.prog 44 1 = (Option.some ⟨"N", 3, 1, Bool.false, "", "", 16⟩) := by kernel_rfl
@[go_sem] theorem ty_build44 (parts : List (Nat × AV)) : abuild Tryz.prog 44 parts = (setCells [(Go.Ab.AV.data (Go.Ab.D.str [])), (Go.Ab.AV.data (Go.Ab.D.int Go.IntKind.i64 0))] ([(0, 1), (1, 1)][·]?) parts).map mkAgg := abuild_of (z := (Go.Value.agg #[(Go.Value.string ⟨#[]⟩), (Go.Value.int Go.IntKind.i64 0)])) (by kernel_rfl) (by kernel_rfl) (by kernel_rfl)
@[go_sem] theorem ty_size45 : tsize Tryz.prog 45 = (Option.some 2) := by kernel_rfl
@[go_sem] theorem ty_bytes45 : tbytes Tryz.prog 45 = (Option.some 24) := by kernel_rfl
@[go_sem] theorem ty_zero45 : tzero Tryz.prog 45 = (Option.some (Go.Value.agg #[(Go.Value.string ⟨#[]⟩), (Go.Value.int Go.IntKind.i64 0)])) := by kernel_rfl
@[go_sem] theorem ty_agg45 : tagg Tryz.prog 45 = (Option.some Bool.true) := by kernel_rfl
@[go_sem] theorem ty_field45_0 : tfield Tryz.prog 45 0 = (Option.some ⟨"Path", 9, 0, Bool.false, "", "", 0⟩) := by kernel_rfl
@[go_sem] theorem ty_field45_1 : tfield Tryz.prog 45 1 = (Option.some ⟨"N", 3, 1, Bool.false, "", "", 16⟩) := by kernel_rfl
@[go_sem] theorem ty_build45 (parts : List (Nat × AV)) : abuild Tryz.prog 45 parts = (setCells [(Go.Ab.AV.data (Go.Ab.D.str [])), (Go.Ab.AV.data (Go.Ab.D.int Go.IntKind.i64 0))] ([(0, 1), (1, 1)][·]?) parts).map mkAgg := abuild_of (z := (Go.Value.agg #[(Go.Value.string ⟨#[]⟩), (Go.Value.int Go.IntKind.i64 0)])) (by kernel_rfl) (by kernel_rfl) (by kernel_rfl)
@[go_sem] theorem ty_size46 : tsize Tryz.prog 46 = (Option.some 6) := by kernel_rfl
@[go_sem] theorem ty_bytes46 : tbytes Tryz.prog 46 = (Option.some 112) := by kernel_rfl
@[go_sem] theorem ty_zero46 : tzero Tryz.prog 46 = (Option.some (Go.Value.agg #[(Go.Value.slice Option.none 0 0), (Go.Value.slice Option.none 0 0), (Go.Value.slice Option.none 0 0), (Go.Value.string ⟨#[]⟩), (Go.Value.int Go.IntKind.i64 0), (Go.Value.string ⟨#[]⟩)])) := by kernel_rfl
@[go_sem] theorem ty_agg46 : tagg Tryz.prog 46 = (Option.some Bool.true) := by kernel_rfl
@[go_sem] theorem ty_field46_0 : tfield Tryz.prog 46 0 = (Option.some ⟨"Tree", 23, 0, Bool.false, "", "", 0⟩) := by kernel_rfl
@[go_sem] theorem ty_field46_1 : tfield Tryz.prog 46 1 = (Option.some ⟨"Macros", 32, 1, Bool.false, "", "", 24⟩) := by kernel_rfl
@[go_sem] theorem ty_field46_2 : tfield Tryz.prog 46 2 = (Option.some ⟨"Tokens", 38, 2, Bool.false, "", "", 48⟩) := by kernel_rfl
@[go_sem] theorem ty_field46_3 : tfield Tryz.prog 46 3 = (Option.some ⟨"Line", 45, 3, Bool.false, "", "", 72⟩) := by kernel_rfl
@[go_sem] theorem ty_field46_4 : tfield Tryz.prog 46 4 = (Option.some ⟨"Text", 9, 5, Bool.false, "", "", 96⟩) := by kernel_rfl
@[go_sem] theorem ty_build46 (parts : List (Nat × AV)) : abuild Tryz.prog 46 parts = (setCells [Go.Ab.AV.nils, Go.Ab.AV.nils, Go.Ab.AV.nils, (Go.Ab.AV.data (Go.Ab.D.str [])), (Go.Ab.AV.data (Go.Ab.D.int Go.IntKind.i64 0)), (Go.Ab.AV.data (Go.Ab.D.str []))] ([(0, 1), (1, 1), (2, 1), (3, 2), (5, 1)][·]?) parts).map mkAgg := abuild_of (z := (Go.Value.agg #[(Go.Value.slice Option.none 0 0), (Go.Value.slice Option.none 0 0), (Go.Value.slice Option.none 0 0), (Go.Value.string ⟨#[]⟩), (Go.Value.int Go.IntKind.i64 0), (Go.Value.string ⟨#[]⟩)])) (by kernel_rfl) (by kernel_rfl) (by kernel_rfl)
@[go_sem] theorem ty_size47 : tsize Tryz.prog 47 = (Option.some 6) := by kernel_rfl
@[go_sem] theorem ty_bytes47 : tbytes Tryz.prog 47 = (Option.some 112) := by kernel_rfl
@[go_sem] theorem ty_zero47 : tzero Tryz.prog 47 = (Option.some (Go.Value.agg #[(Go.Value.slice Option.none 0 0), (Go.Value.slice Option.none 0 0), (Go.Value.slice Option.none 0 0), (Go.Value.string ⟨#[]⟩), (Go.Value.int Go.IntKind.i64 0), (Go.Value.string ⟨#[]⟩)])) := by kernel_rfl
@[go_sem] theorem ty_agg47 : tagg Tryz.prog 47 = (Option.some Bool.true) := by kernel_rfl
@[go_sem] theorem ty_field47_0 : tfield Tryz.prog 47 0 = (Option.some ⟨"Tree", 23, 0, Bool.false, "", "", 0⟩) := by kernel_rfl
@[go_sem] theorem ty_field47_1 : tfield Tryz.prog 47 1 = (Option.some ⟨"Macros", 32, 1, Bool.false, "", "", 24⟩) := by kernel_rfl
@[go_sem] theorem ty_field47_2 : tfield Tryz.prog 47 2 = (Option.some ⟨"Tokens", 38, 2, Bool.false, "", "", 48⟩) := by kernel_rfl
@[go_sem] theorem ty_field47_3 : tfield Tryz.prog 47 3 = (Option.some ⟨"Line", 45, 3, Bool.false, "", "", 72⟩) := by kernel_rfl
@[go_sem] theorem ty_field47_4 : tfield Tryz.prog 47 4 = (Option.some ⟨"Text", 9, 5, Bool.false, "", "", 96⟩) := by kernel_rfl
@[go_sem] theorem ty_build47 (parts : List (Nat × AV)) : abuild Tryz.prog 47 parts = (setCells [Go.Ab.AV.nils, Go.Ab.AV.nils, Go.Ab.AV.nils, (Go.Ab.AV.data (Go.Ab.D.str [])), (Go.Ab.AV.data (Go.Ab.D.int Go.IntKind.i64 0)), (Go.Ab.AV.data (Go.Ab.D.str []))] ([(0, 1), (1, 1), (2, 1), (3, 2), (5, 1)][·]?) parts).map mkAgg := abuild_of (z := (Go.Value.agg #[(Go.Value.slice Option.none 0 0), (Go.Value.slice Option.none 0 0), (Go.Value.slice Option.none 0 0), (Go.Value.string ⟨#[]⟩), (Go.Value.int Go.IntKind.i64 0), (Go.Value.string ⟨#[]⟩)])) (by kernel_rfl) (by kernel_rfl) (by kernel_rfl)
@[go_sem] theorem ty_size54 : tsize Tryz.prog 54 = (Option.some 2) := by kernel_rfl
@[go_sem] theorem ty_bytes54 : tbytes Tryz.prog 54 = (Option.some 24) := by kernel_rfl
@[go_sem] theorem ty_zero54 : tzero Tryz.prog 54 = (Option.some (Go.Value.agg #[(Go.Value.int Go.IntKind.i64 0), (Go.Value.string ⟨#[]⟩)])) := by kernel_rfl
@[go_sem] theorem ty_agg54 : tagg Tryz.prog 54 = (Option.some Bool.true) := by kernel_rfl
@[go_sem] theorem ty_field54_0 : tfield Tryz.prog 54 0 = (Option.some ⟨"Kind", 3, 0, Bool.false, "", "", 0⟩) := by kernel_rfl
@[go_sem] theorem ty_field54_1 : tfield Tryz.prog 54 1 = (Option.some ⟨"Text", 9, 1, Bool.false, "", "", 8⟩) := by kernel_rfl
@[go_sem] theorem ty_build54 (parts : List (Nat × AV)) : abuild Tryz.prog 54 parts = (setCells [(Go.Ab.AV.data (Go.Ab.D.int Go.IntKind.i64 0)), (Go.Ab.AV.data (Go.Ab.D.str []))] ([(0, 1), (1, 1)][·]?) parts).map mkAgg := abuild_of (z := (Go.Value.agg #[(Go.Value.int Go.IntKind.i64 0), (Go.Value.string ⟨#[]⟩)])) (by kernel_rfl) (by kernel_rfl) (by kernel_rfl)
@[go_sem] theorem ty_size55 : tsize Tryz.prog 55 = (Option.some 2) := by kernel_rfl
@[go_sem] theorem ty_bytes55 : tbytes Tryz.prog 55 = (Option.some 24) := by kernel_rfl
@[go_sem] theorem ty_zero55 : tzero Tryz.prog 55 = (Option.some (Go.Value.agg #[(Go.Value.int Go.IntKind.i64 0), (Go.Value.string ⟨#[]⟩)])) := by kernel_rfl
@[go_sem] theorem ty_agg55 : tagg Tryz.prog 55 = (Option.some Bool.true) := by kernel_rfl
@[go_sem] theorem ty_field55_0 : tfield Tryz.prog 55 0 = (Option.some ⟨"Kind", 3, 0, Bool.false, "", "", 0⟩) := by kernel_rfl
@[go_sem] theorem ty_field55_1 : tfield Tryz.prog 55 1 = (Option.some ⟨"Text", 9, 1, Bool.false, "", "", 8⟩) := by kernel_rfl
@[go_sem] theorem ty_build55 (parts : List (Nat × AV)) : abuild Tryz.prog 55 parts = (setCells [(Go.Ab.AV.data (Go.Ab.D.int Go.IntKind.i64 0)), (Go.Ab.AV.data (Go.Ab.D.str []))] ([(0, 1), (1, 1)][·]?) parts).map mkAgg := abuild_of (z := (Go.Value.agg #[(Go.Value.int Go.IntKind.i64 0), (Go.Value.string ⟨#[]⟩)])) (by kernel_rfl) (by kernel_rfl) (by kernel_rfl)
@[go_sem] theorem ty_size61 : tsize Tryz.prog 61 = (Option.some 1) := by kernel_rfl
@[go_sem] theorem ty_bytes61 : tbytes Tryz.prog 61 = (Option.some 8) := by kernel_rfl
@[go_sem] theorem ty_zero61 : tzero Tryz.prog 61 = (Option.some Go.Value.nilFunc) := by kernel_rfl
@[go_sem] theorem ty_agg61 : tagg Tryz.prog 61 = (Option.some Bool.false) := by kernel_rfl
@[go_sem] theorem ty_und61 : Program.underlying Tryz.prog 61 = (Option.some (Go.TypeDesc.func #[28] #[4] Bool.false)) := by kernel_rfl
@[go_sem] theorem ty_elem61 : telem Tryz.prog 61 = Option.none := by kernel_rfl
@[go_sem] theorem ty_size62 : tsize Tryz.prog 62 = (Option.some 1) := by kernel_rfl
@[go_sem] theorem ty_bytes62 : tbytes Tryz.prog 62 = (Option.some 8) := by kernel_rfl
@[go_sem] theorem ty_zero62 : tzero Tryz.prog 62 = (Option.some Go.Value.nilFunc) := by kernel_rfl
@[go_sem] theorem ty_agg62 : tagg Tryz.prog 62 = (Option.some Bool.false) := by kernel_rfl
@[go_sem] theorem ty_und62 : Program.underlying Tryz.prog 62 = (Option.some (Go.TypeDesc.func #[55] #[4] Bool.false)) := by kernel_rfl
@[go_sem] theorem ty_elem62 : telem Tryz.prog 62 = Option.none := by kernel_rfl
@[go_sem] theorem ty_size66 : tsize Tryz.prog 66 = (Option.some 2) := by kernel_rfl
@[go_sem] theorem ty_bytes66 : tbytes Tryz.prog 66 = (Option.some 32) := by kernel_rfl
@[go_sem] theorem ty_zero66 : tzero Tryz.prog 66 = (Option.some (Go.Value.agg #[(Go.Value.string ⟨#[]⟩), (Go.Value.string ⟨#[]⟩)])) := by kernel_rfl
@[go_sem] theorem ty_agg66 : tagg Tryz.prog 66 = (Option.some Bool.true) := by kernel_rfl
@[go_sem] theorem ty_field66_0 : tfield Tryz.prog 66 0 = (Option.some ⟨"Path", 9, 0, Bool.false, "", "", 0⟩) := by kernel_rfl
@[go_sem] theorem ty_field66_1 : tfield Tryz.prog 66 1 = (Option.some ⟨"Data", 9, 1, Bool.false, "", "", 16⟩) := by kernel_rfl
@[go_sem] theorem ty_build66 (parts : List (Nat × AV)) : abuild Tryz.prog 66 parts = (setCells [(Go.Ab.AV.data (Go.Ab.D.str [])), (Go.Ab.AV.data (Go.Ab.D.str []))] ([(0, 1), (1, 1)][·]?) parts).map mkAgg := abuild_of (z := (Go.Value.agg #[(Go.Value.string ⟨#[]⟩), (Go.Value.string ⟨#[]⟩)])) (by kernel_rfl) (by kernel_rfl) (by kernel_rfl)
@[go_sem] theorem ty_size67 : tsize Tryz.prog 67 = (Option.some 2) := by kernel_rfl
@[go_sem] theorem ty_bytes67 : tbytes Tryz.prog 67 = (Option.some 32) := by kernel_rfl
@[go_sem] theorem ty_zero67 : tzero Tryz.prog 67 = (Option.some (Go.Value.agg #[(Go.Value.string ⟨#[]⟩), (Go.Value.string ⟨#[]⟩)])) := by kernel_rfl
@[go_sem] theorem ty_agg67 : tagg Tryz.prog 67 = (Option.some Bool.true) := by kernel_rfl
@[go_sem] theorem ty_field67_0 : tfield Tryz.prog 67 0 = (Option.some ⟨"Path", 9, 0, Bool.false, "", "", 0⟩) := by kernel_rfl
@[go_sem] theorem ty_field67_1 : tfield Tryz.prog 67 1 = (Option.some ⟨"Data", 9, 1, Bool.false, "", "", 16⟩) := by kernel_rfl
@[go_sem] theorem ty_build67 (parts : List (Nat × AV)) : abuild Tryz.prog 67 parts = (setCells [(Go.Ab.AV.data (Go.Ab.D.str [])), (Go.Ab.AV.data (Go.Ab.D.str []))] ([(0, 1), (1, 1)][·]?) parts).map mkAgg := abuild_of (z := (Go.Value.agg #[(Go.Value.string ⟨#[]⟩), (Go.Value.string ⟨#[]⟩)])) (by kernel_rfl) (by kernel_rfl) (by kernel_rfl)
@[go_sem] theorem ty_size76 : tsize Tryz.prog 76 = (Option.some 1) := by kernel_rfl
@[go_sem] theorem ty_bytes76 : tbytes Tryz.prog 76 = (Option.some 24) := by kernel_rfl
@[go_sem] theorem ty_zero76 : tzero Tryz.prog 76 = (Option.some (Go.Value.slice Option.none 0 0)) := by kernel_rfl
@[go_sem] theorem ty_agg76 : tagg Tryz.prog 76 = (Option.some Bool.false) := by kernel_rfl
@[go_sem] theorem ty_und76 : Program.underlying Tryz.prog 76 = (Option.some (Go.TypeDesc.slice 79)) := by kernel_rfl
@[go_sem] theorem ty_elem76 : telem Tryz.prog 76 = (Option.some 79) := by kernel_rfl
@[go_sem] theorem ty_size77 : tsize Tryz.prog 77 = (Option.some 1) := by kernel_rfl
@[go_sem] theorem ty_bytes77 : tbytes Tryz.prog 77 = (Option.some 8) := by kernel_rfl
@[go_sem] theorem ty_zero77 : tzero Tryz.prog 77 = (Option.some (Go.Value.map Option.none)) := by kernel_rfl
@[go_sem] theorem ty_agg77 : tagg Tryz.prog 77 = (Option.some Bool.false) := by kernel_rfl
@[go_sem] theorem ty_und77 : Program.underlying Tryz.prog 77 = (Option.some (Go.TypeDesc.map 9 4)) := by kernel_rfl
@[go_sem] theorem ty_elem77 : telem Tryz.prog 77 = Option.none := by kernel_rfl
@[go_sem] theorem ty_size78 : tsize Tryz.prog 78 = (Option.some 3) := by kernel_rfl
@[go_sem] theorem ty_bytes78 : tbytes Tryz.prog 78 = (Option.some 32) := by kernel_rfl
@[go_sem] theorem ty_zero78 : tzero Tryz.prog 78 = (Option.some (Go.Value.agg #[(Go.Value.int Go.IntKind.i64 0), (Go.Value.string ⟨#[]⟩), (Go.Value.map Option.none)])) := by kernel_rfl
@[go_sem] theorem ty_agg78 : tagg Tryz.prog 78 = (Option.some Bool.true) := by kernel_rfl
@[go_sem] theorem ty_field78_0 : tfield Tryz.prog 78 0 = (Option.some ⟨"Token", 55, 0, Bool.true, "", "", 0⟩) := by kernel_rfl
@[go_sem] theorem ty_field78_1 : tfield Tryz.prog 78 1 = (Option.some ⟨"hidden", 77, 2, Bool.false, "", "licit/expand", 24⟩) := by kernel_rfl
@[go_sem] theorem ty_build78 (parts : List (Nat × AV)) : abuild Tryz.prog 78 parts = (setCells [(Go.Ab.AV.data (Go.Ab.D.int Go.IntKind.i64 0)), (Go.Ab.AV.data (Go.Ab.D.str [])), (Go.Ab.AV.data (Go.Ab.D.map [] []))] ([(0, 2), (2, 1)][·]?) parts).map mkAgg := abuild_of (z := (Go.Value.agg #[(Go.Value.int Go.IntKind.i64 0), (Go.Value.string ⟨#[]⟩), (Go.Value.map Option.none)])) (by kernel_rfl) (by kernel_rfl) (by kernel_rfl)
@[go_sem] theorem ty_size79 : tsize Tryz.prog 79 = (Option.some 3) := by kernel_rfl
@[go_sem] theorem ty_bytes79 : tbytes Tryz.prog 79 = (Option.some 32) := by kernel_rfl
@[go_sem] theorem ty_zero79 : tzero Tryz.prog 79 = (Option.some (Go.Value.agg #[(Go.Value.int Go.IntKind.i64 0), (Go.Value.string ⟨#[]⟩), (Go.Value.map Option.none)])) := by kernel_rfl
@[go_sem] theorem ty_agg79 : tagg Tryz.prog 79 = (Option.some Bool.true) := by kernel_rfl
@[go_sem] theorem ty_field79_0 : tfield Tryz.prog 79 0 = (Option.some ⟨"Token", 55, 0, Bool.true, "", "", 0⟩) := by kernel_rfl
@[go_sem] theorem ty_field79_1 : tfield Tryz.prog 79 1 = (Option.some ⟨"hidden", 77, 2, Bool.false, "", "licit/expand", 24⟩) := by kernel_rfl
@[go_sem] theorem ty_build79 (parts : List (Nat × AV)) : abuild Tryz.prog 79 parts = (setCells [(Go.Ab.AV.data (Go.Ab.D.int Go.IntKind.i64 0)), (Go.Ab.AV.data (Go.Ab.D.str [])), (Go.Ab.AV.data (Go.Ab.D.map [] []))] ([(0, 2), (2, 1)][·]?) parts).map mkAgg := abuild_of (z := (Go.Value.agg #[(Go.Value.int Go.IntKind.i64 0), (Go.Value.string ⟨#[]⟩), (Go.Value.map Option.none)])) (by kernel_rfl) (by kernel_rfl) (by kernel_rfl)
@[go_sem] theorem ty_size85 : tsize Tryz.prog 85 = (Option.some 1) := by kernel_rfl
@[go_sem] theorem ty_bytes85 : tbytes Tryz.prog 85 = (Option.some 24) := by kernel_rfl
@[go_sem] theorem ty_zero85 : tzero Tryz.prog 85 = (Option.some (Go.Value.slice Option.none 0 0)) := by kernel_rfl
@[go_sem] theorem ty_agg85 : tagg Tryz.prog 85 = (Option.some Bool.false) := by kernel_rfl
@[go_sem] theorem ty_und85 : Program.underlying Tryz.prog 85 = (Option.some (Go.TypeDesc.slice 87)) := by kernel_rfl
@[go_sem] theorem ty_elem85 : telem Tryz.prog 85 = (Option.some 87) := by kernel_rfl
@[go_sem] theorem ty_size86 : tsize Tryz.prog 86 = (Option.some 3) := by kernel_rfl
@[go_sem] theorem ty_bytes86 : tbytes Tryz.prog 86 = (Option.some 48) := by kernel_rfl
@[go_sem] theorem ty_zero86 : tzero Tryz.prog 86 = (Option.some (Go.Value.agg #[(Go.Value.int Go.IntKind.i64 0), (Go.Value.string ⟨#[]⟩), (Go.Value.slice Option.none 0 0)])) := by kernel_rfl
@[go_sem] theorem ty_agg86 : tagg Tryz.prog 86 = (Option.some Bool.true) := by kernel_rfl
@[go_sem] theorem ty_field86_0 : tfield Tryz.prog 86 0 = (Option.some ⟨"T", 55, 0, Bool.false, "", "", 0⟩) := by kernel_rfl
@[go_sem] theorem ty_field86_1 : tfield Tryz.prog 86 1 = (Option.some ⟨"Hidden", 24, 2, Bool.false, "", "", 24⟩) := by kernel_rfl
@[go_sem] theorem ty_build86 (parts : List (Nat × AV)) : abuild Tryz.prog 86 parts = (setCells [(Go.Ab.AV.data (Go.Ab.D.int Go.IntKind.i64 0)), (Go.Ab.AV.data (Go.Ab.D.str [])), Go.Ab.AV.nils] ([(0, 2), (2, 1)][·]?) parts).map mkAgg := abuild_of (z := (Go.Value.agg #[(Go.Value.int Go.IntKind.i64 0), (Go.Value.string ⟨#[]⟩), (Go.Value.slice Option.none 0 0)])) (by kernel_rfl) (by kernel_rfl) (by kernel_rfl)
@[go_sem] theorem ty_size87 : tsize Tryz.prog 87 = (Option.some 3) := by kernel_rfl
@[go_sem] theorem ty_bytes87 : tbytes Tryz.prog 87 = (Option.some 48) := by kernel_rfl
@[go_sem] theorem ty_zero87 : tzero Tryz.prog 87 = (Option.some (Go.Value.agg #[(Go.Value.int Go.IntKind.i64 0), (Go.Value.string ⟨#[]⟩), (Go.Value.slice Option.none 0 0)])) := by kernel_rfl
@[go_sem] theorem ty_agg87 : tagg Tryz.prog 87 = (Option.some Bool.true) := by kernel_rfl
@[go_sem] theorem ty_field87_0 : tfield Tryz.prog 87 0 = (Option.some ⟨"T", 55, 0, Bool.false, "", "", 0⟩) := by kernel_rfl
@[go_sem] theorem ty_field87_1 : tfield Tryz.prog 87 1 = (Option.some ⟨"Hidden", 24, 2, Bool.false, "", "", 24⟩) := by kernel_rfl
@[go_sem] theorem ty_build87 (parts : List (Nat × AV)) : abuild Tryz.prog 87 parts = (setCells [(Go.Ab.AV.data (Go.Ab.D.int Go.IntKind.i64 0)), (Go.Ab.AV.data (Go.Ab.D.str [])), Go.Ab.AV.nils] ([(0, 2), (2, 1)][·]?) parts).map mkAgg := abuild_of (z := (Go.Value.agg #[(Go.Value.int Go.IntKind.i64 0), (Go.Value.string ⟨#[]⟩), (Go.Value.slice Option.none 0 0)])) (by kernel_rfl) (by kernel_rfl) (by kernel_rfl)
@[go_sem] theorem ty_size90 : tsize Tryz.prog 90 = (Option.some 1) := by kernel_rfl
@[go_sem] theorem ty_bytes90 : tbytes Tryz.prog 90 = (Option.some 24) := by kernel_rfl
@[go_sem] theorem ty_zero90 : tzero Tryz.prog 90 = (Option.some (Go.Value.slice Option.none 0 0)) := by kernel_rfl
@[go_sem] theorem ty_agg90 : tagg Tryz.prog 90 = (Option.some Bool.false) := by kernel_rfl
@[go_sem] theorem ty_und90 : Program.underlying Tryz.prog 90 = (Option.some (Go.TypeDesc.slice 85)) := by kernel_rfl
@[go_sem] theorem ty_elem90 : telem Tryz.prog 90 = (Option.some 85) := by kernel_rfl
@[go_sem] theorem ty_size107 : tsize Tryz.prog 107 = (Option.some 1) := by kernel_rfl
@[go_sem] theorem ty_bytes107 : tbytes Tryz.prog 107 = (Option.some 24) := by kernel_rfl
@[go_sem] theorem ty_zero107 : tzero Tryz.prog 107 = (Option.some (Go.Value.slice Option.none 0 0)) := by kernel_rfl
@[go_sem] theorem ty_agg107 : tagg Tryz.prog 107 = (Option.some Bool.false) := by kernel_rfl
@[go_sem] theorem ty_und107 : Program.underlying Tryz.prog 107 = (Option.some (Go.TypeDesc.slice 76)) := by kernel_rfl
@[go_sem] theorem ty_elem107 : telem Tryz.prog 107 = (Option.some 76) := by kernel_rfl
@[go_sem] theorem ty_size115 : tsize Tryz.prog 115 = (Option.some 1) := by kernel_rfl
@[go_sem] theorem ty_bytes115 : tbytes Tryz.prog 115 = (Option.some 8) := by kernel_rfl
@[go_sem] theorem ty_zero115 : tzero Tryz.prog 115 = (Option.some Go.Value.nilFunc) := by kernel_rfl
@[go_sem] theorem ty_agg115 : tagg Tryz.prog 115 = (Option.some Bool.false) := by kernel_rfl
@[go_sem] theorem ty_und115 : Program.underlying Tryz.prog 115 = (Option.some (Go.TypeDesc.func #[26] #[4] Bool.false)) := by kernel_rfl
@[go_sem] theorem ty_elem115 : telem Tryz.prog 115 = Option.none := by kernel_rfl
@[go_sem] theorem ty_size119 : tsize Tryz.prog 119 = (Option.some 1) := by kernel_rfl
@[go_sem] theorem ty_bytes119 : tbytes Tryz.prog 119 = (Option.some 8) := by kernel_rfl
@[go_sem] theorem ty_zero119 : tzero Tryz.prog 119 = (Option.some Go.Value.nilFunc) := by kernel_rfl
@[go_sem] theorem ty_agg119 : tagg Tryz.prog 119 = (Option.some Bool.false) := by kernel_rfl
@[go_sem] theorem ty_und119 : Program.underlying Tryz.prog 119 = (Option.some (Go.TypeDesc.func #[26, 26] #[3] Bool.false)) := by kernel_rfl
@[go_sem] theorem ty_elem119 : telem Tryz.prog 119 = Option.none := by kernel_rfl
@[go_sem] theorem ty_size123 : tsize Tryz.prog 123 = (Option.some 1) := by kernel_rfl
@[go_sem] theorem ty_bytes123 : tbytes Tryz.prog 123 = (Option.some 4) := by kernel_rfl
@[go_sem] theorem ty_zero123 : tzero Tryz.prog 123 = (Option.some (Go.Value.int Go.IntKind.u32 0)) := by kernel_rfl
@[go_sem] theorem ty_agg123 : tagg Tryz.prog 123 = (Option.some Bool.false) := by kernel_rfl
@[go_sem] theorem ty_und123 : Program.underlying Tryz.prog 123 = (Option.some (Go.TypeDesc.int Go.IntKind.u32)) := by kernel_rfl
@[go_sem] theorem ty_elem123 : telem Tryz.prog 123 = Option.none := by kernel_rfl
@[go_sem] theorem ty_size130 : tsize Tryz.prog 130 = (Option.some 1) := by kernel_rfl
@[go_sem] theorem ty_bytes130 : tbytes Tryz.prog 130 = (Option.some 8) := by kernel_rfl
@[go_sem] theorem ty_zero130 : tzero Tryz.prog 130 = (Option.some Go.Value.nilFunc) := by kernel_rfl
@[go_sem] theorem ty_agg130 : tagg Tryz.prog 130 = (Option.some Bool.false) := by kernel_rfl
@[go_sem] theorem ty_und130 : Program.underlying Tryz.prog 130 = (Option.some (Go.TypeDesc.func #[67] #[4] Bool.false)) := by kernel_rfl
@[go_sem] theorem ty_elem130 : telem Tryz.prog 130 = Option.none := by kernel_rfl
@[go_sem] theorem ty_size134 : tsize Tryz.prog 134 = (Option.some 1) := by kernel_rfl
@[go_sem] theorem ty_bytes134 : tbytes Tryz.prog 134 = (Option.some 8) := by kernel_rfl
@[go_sem] theorem ty_zero134 : tzero Tryz.prog 134 = (Option.some Go.Value.nilFunc) := by kernel_rfl
@[go_sem] theorem ty_agg134 : tagg Tryz.prog 134 = (Option.some Bool.false) := by kernel_rfl
@[go_sem] theorem ty_und134 : Program.underlying Tryz.prog 134 = (Option.some (Go.TypeDesc.func #[21] #[4] Bool.false)) := by kernel_rfl
@[go_sem] theorem ty_elem134 : telem Tryz.prog 134 = Option.none := by kernel_rfl
@[go_sem] theorem ty_size138 : tsize Tryz.prog 138 = (Option.some 1) := by kernel_rfl
@[go_sem] theorem ty_bytes138 : tbytes Tryz.prog 138 = (Option.some 8) := by kernel_rfl
@[go_sem] theorem ty_zero138 : tzero Tryz.prog 138 = (Option.some (Go.Value.pointer Option.none)) := by kernel_rfl
@[go_sem] theorem ty_agg138 : tagg Tryz.prog 138 = (Option.some Bool.false) := by kernel_rfl
@[go_sem] theorem ty_und138 : Program.underlying Tryz.prog 138 = (Option.some (Go.TypeDesc.pointer 141)) := by kernel_rfl
@[go_sem] theorem ty_elem138 : telem Tryz.prog 138 = Option.none := by kernel_rfl
@[go_sem] theorem ty_size139 : tsize Tryz.prog 139 = (Option.some 1) := by kernel_rfl
@[go_sem] theorem ty_bytes139 : tbytes Tryz.prog 139 = (Option.some 24) := by kernel_rfl
@[go_sem] theorem ty_zero139 : tzero Tryz.prog 139 = (Option.some (Go.Value.slice Option.none 0 0)) := by kernel_rfl
@[go_sem] theorem ty_agg139 : tagg Tryz.prog 139 = (Option.some Bool.false) := by kernel_rfl
@[go_sem] theorem ty_und139 : Program.underlying Tryz.prog 139 = (Option.some (Go.TypeDesc.slice 5)) := by kernel_rfl
@[go_sem] theorem ty_elem139 : telem Tryz.prog 139 = (Option.some 5) := by kernel_rfl
@[go_sem] theorem ty_size140 : tsize Tryz.prog 140 = (Option.some 2) := by kernel_rfl
@[go_sem] theorem ty_bytes140 : tbytes Tryz.prog 140 = (Option.some 32) := by kernel_rfl
@[go_sem] theorem ty_zero140 : tzero Tryz.prog 140 = (Option.some (Go.Value.agg #[(Go.Value.pointer Option.none), (Go.Value.slice Option.none 0 0)])) := by kernel_rfl
@[go_sem] theorem ty_agg140 : tagg Tryz.prog 140 = (Option.some Bool.true) := by kernel_rfl
@[go_sem] theorem ty_field140_0 : tfield Tryz.prog 140 0 = (Option.some ⟨"addr", 138, 0, Bool.false, "", "strings", 0⟩) := by kernel_rfl
@[go_sem] theorem ty_field140_1 : tfield Tryz.prog 140 1 = (Option.some ⟨"buf", 139, 1, Bool.false, "", "strings", 8⟩) := by kernel_rfl
@[go_sem] theorem ty_build140 (parts : List (Nat × AV)) : abuild Tryz.prog 140 parts = (setCells [(Go.Ab.AV.data Go.Ab.D.nilp), Go.Ab.AV.nils] ([(0, 1), (1, 1)][·]?) parts).map mkAgg := abuild_of (z := (Go.Value.agg #[(Go.Value.pointer Option.none), (Go.Value.slice Option.none 0 0)])) (by kernel_rfl) (by kernel_rfl) (by kernel_rfl)
@[go_sem] theorem ty_size141 : tsize Tryz.prog 141 = (Option.some 2) := by kernel_rfl
@[go_sem] theorem ty_bytes141 : tbytes Tryz.prog 141 = (Option.some 32) := by kernel_rfl
@[go_sem] theorem ty_zero141 : tzero Tryz.prog 141 = (Option.some (Go.Value.agg #[(Go.Value.pointer Option.none), (Go.Value.slice Option.none 0 0)])) := by kernel_rfl
@[go_sem] theorem ty_agg141 : tagg Tryz.prog 141 = (Option.some Bool.true) := by kernel_rfl
@[go_sem] theorem ty_field141_0 : tfield Tryz.prog 141 0 = (Option.some ⟨"addr", 138, 0, Bool.false, "", "strings", 0⟩) := by kernel_rfl
@[go_sem] theorem ty_field141_1 : tfield Tryz.prog 141 1 = (Option.some ⟨"buf", 139, 1, Bool.false, "", "strings", 8⟩) := by kernel_rfl
@[go_sem] theorem ty_build141 (parts : List (Nat × AV)) : abuild Tryz.prog 141 parts = (setCells [(Go.Ab.AV.data Go.Ab.D.nilp), Go.Ab.AV.nils] ([(0, 1), (1, 1)][·]?) parts).map mkAgg := abuild_of (z := (Go.Value.agg #[(Go.Value.pointer Option.none), (Go.Value.slice Option.none 0 0)])) (by kernel_rfl) (by kernel_rfl) (by kernel_rfl)
@[go_sem] theorem ty_size148 : tsize Tryz.prog 148 = (Option.some 1) := by kernel_rfl
@[go_sem] theorem ty_bytes148 : tbytes Tryz.prog 148 = (Option.some 24) := by kernel_rfl
@[go_sem] theorem ty_zero148 : tzero Tryz.prog 148 = (Option.some (Go.Value.slice Option.none 0 0)) := by kernel_rfl
@[go_sem] theorem ty_agg148 : tagg Tryz.prog 148 = (Option.some Bool.false) := by kernel_rfl
@[go_sem] theorem ty_und148 : Program.underlying Tryz.prog 148 = (Option.some (Go.TypeDesc.slice 77)) := by kernel_rfl
@[go_sem] theorem ty_elem148 : telem Tryz.prog 148 = (Option.some 77) := by kernel_rfl
@[go_sem] theorem ty_size153 : tsize Tryz.prog 153 = (Option.some 1) := by kernel_rfl
@[go_sem] theorem ty_bytes153 : tbytes Tryz.prog 153 = (Option.some 8) := by kernel_rfl
@[go_sem] theorem ty_zero153 : tzero Tryz.prog 153 = (Option.some (Go.Value.int Go.IntKind.u64 0)) := by kernel_rfl
@[go_sem] theorem ty_agg153 : tagg Tryz.prog 153 = (Option.some Bool.false) := by kernel_rfl
@[go_sem] theorem ty_und153 : Program.underlying Tryz.prog 153 = (Option.some (Go.TypeDesc.int Go.IntKind.u64)) := by kernel_rfl
@[go_sem] theorem ty_elem153 : telem Tryz.prog 153 = Option.none := by kernel_rfl
@[go_sem] theorem ty_size154 : tsize Tryz.prog 154 = (Option.some 1) := by kernel_rfl
@[go_sem] theorem ty_bytes154 : tbytes Tryz.prog 154 = (Option.some 24) := by kernel_rfl
@[go_sem] theorem ty_zero154 : tzero Tryz.prog 154 = (Option.some (Go.Value.slice Option.none 0 0)) := by kernel_rfl
@[go_sem] theorem ty_agg154 : tagg Tryz.prog 154 = (Option.some Bool.false) := by kernel_rfl
@[go_sem] theorem ty_und154 : Program.underlying Tryz.prog 154 = (Option.some (Go.TypeDesc.slice 3)) := by kernel_rfl
@[go_sem] theorem ty_elem154 : telem Tryz.prog 154 = (Option.some 3) := by kernel_rfl
@[go_sem] theorem ty_size156 : tsize Tryz.prog 156 = (Option.some 1) := by kernel_rfl
@[go_sem] theorem ty_bytes156 : tbytes Tryz.prog 156 = (Option.some 8) := by kernel_rfl
@[go_sem] theorem ty_zero156 : tzero Tryz.prog 156 = (Option.some (Go.Value.int Go.IntKind.u64 0)) := by kernel_rfl
@[go_sem] theorem ty_agg156 : tagg Tryz.prog 156 = (Option.some Bool.false) := by kernel_rfl
@[go_sem] theorem ty_und156 : Program.underlying Tryz.prog 156 = (Option.some (Go.TypeDesc.int Go.IntKind.u64)) := by kernel_rfl
@[go_sem] theorem ty_elem156 : telem Tryz.prog 156 = Option.none := by kernel_rfl
@[go_sem] theorem ty_size161 : tsize Tryz.prog 161 = (Option.some 1) := by kernel_rfl
@[go_sem] theorem ty_bytes161 : tbytes Tryz.prog 161 = (Option.some 8) := by kernel_rfl
@[go_sem] theorem ty_zero161 : tzero Tryz.prog 161 = (Option.some (Go.Value.int Go.IntKind.i64 0)) := by kernel_rfl
@[go_sem] theorem ty_agg161 : tagg Tryz.prog 161 = (Option.some Bool.false) := by kernel_rfl
@[go_sem] theorem ty_und161 : Program.underlying Tryz.prog 161 = (Option.some (Go.TypeDesc.int Go.IntKind.i64)) := by kernel_rfl
@[go_sem] theorem ty_elem161 : telem Tryz.prog 161 = Option.none := by kernel_rfl
@[go_sem] theorem ty_size177 : tsize Tryz.prog 177 = (Option.some 1) := by kernel_rfl
@[go_sem] theorem ty_bytes177 : tbytes Tryz.prog 177 = (Option.some 8) := by kernel_rfl
@[go_sem] theorem ty_zero177 : tzero Tryz.prog 177 = (Option.some (Go.Value.int Go.IntKind.u64 0)) := by kernel_rfl
@[go_sem] theorem ty_agg177 : tagg Tryz.prog 177 = (Option.some Bool.false) := by kernel_rfl
@[go_sem] theorem ty_und177 : Program.underlying Tryz.prog 177 = (Option.some (Go.TypeDesc.int Go.IntKind.u64)) := by kernel_rfl
@[go_sem] theorem ty_elem177 : telem Tryz.prog 177 = Option.none := by kernel_rfl
@[go_sem] theorem ty_size181 : tsize Tryz.prog 181 = (Option.some 1) := by kernel_rfl
@[go_sem] theorem ty_bytes181 : tbytes Tryz.prog 181 = (Option.some 8) := by kernel_rfl
@[go_sem] theorem ty_zero181 : tzero Tryz.prog 181 = (Option.some (Go.Value.pointer Option.none)) := by kernel_rfl
@[go_sem] theorem ty_agg181 : tagg Tryz.prog 181 = (Option.some Bool.false) := by kernel_rfl
@[go_sem] theorem ty_und181 : Program.underlying Tryz.prog 181 = (Option.some (Go.TypeDesc.pointer 3)) := by kernel_rfl
@[go_sem] theorem ty_elem181 : telem Tryz.prog 181 = Option.none := by kernel_rfl
@[go_sem] theorem ty_size205 : tsize Tryz.prog 205 = (Option.some 7) := by kernel_rfl
@[go_sem] theorem ty_bytes205 : tbytes Tryz.prog 205 = (Option.some 88) := by kernel_rfl
@[go_sem] theorem ty_zero205 : tzero Tryz.prog 205 = (Option.some (Go.Value.agg #[(Go.Value.string ⟨#[]⟩), (Go.Value.int Go.IntKind.i64 0), (Go.Value.int Go.IntKind.i64 0), (Go.Value.slice Option.none 0 0), (Go.Value.string ⟨#[]⟩), (Go.Value.int Go.IntKind.i64 0), (Go.Value.int Go.IntKind.i64 0)])) := by kernel_rfl
@[go_sem] theorem ty_agg205 : tagg Tryz.prog 205 = (Option.some Bool.true) := by kernel_rfl
@[go_sem] theorem ty_field205_0 : tfield Tryz.prog 205 0 = (Option.some ⟨"Name", 9, 0, Bool.false, "", "", 0⟩) := by kernel_rfl
@[go_sem] theorem ty_field205_1 : tfield Tryz.prog 205 1 = (Option.some ⟨"Kind", 3, 1, Bool.false, "", "", 16⟩) := by kernel_rfl
@[go_sem] theorem ty_field205_2 : tfield Tryz.prog 205 2 = (Option.some ⟨"Mode", 3, 2, Bool.false, "", "", 24⟩) := by kernel_rfl
@[go_sem] theorem ty_field205_3 : tfield Tryz.prog 205 3 = (Option.some ⟨"Params", 24, 3, Bool.false, "", "", 32⟩) := by kernel_rfl
@[go_sem] theorem ty_field205_4 : tfield Tryz.prog 205 4 = (Option.some ⟨"Body", 26, 4, Bool.false, "", "", 56⟩) := by kernel_rfl
@[go_sem] theorem ty_build205 (parts : List (Nat × AV)) : abuild Tryz.prog 205 parts = (setCells [(Go.Ab.AV.data (Go.Ab.D.str [])), (Go.Ab.AV.data (Go.Ab.D.int Go.IntKind.i64 0)), (Go.Ab.AV.data (Go.Ab.D.int Go.IntKind.i64 0)), Go.Ab.AV.nils, (Go.Ab.AV.data (Go.Ab.D.str [])), (Go.Ab.AV.data (Go.Ab.D.int Go.IntKind.i64 0)), (Go.Ab.AV.data (Go.Ab.D.int Go.IntKind.i64 0))] ([(0, 1), (1, 1), (2, 1), (3, 1), (4, 3)][·]?) parts).map mkAgg := abuild_of (z := (Go.Value.agg #[(Go.Value.string ⟨#[]⟩), (Go.Value.int Go.IntKind.i64 0), (Go.Value.int Go.IntKind.i64 0), (Go.Value.slice Option.none 0 0), (Go.Value.string ⟨#[]⟩), (Go.Value.int Go.IntKind.i64 0), (Go.Value.int Go.IntKind.i64 0)])) (by kernel_rfl) (by kernel_rfl) (by kernel_rfl)
@[go_sem] theorem ty_size206 : tsize Tryz.prog 206 = (Option.some 7) := by kernel_rfl
@[go_sem] theorem ty_bytes206 : tbytes Tryz.prog 206 = (Option.some 88) := by kernel_rfl
@[go_sem] theorem ty_zero206 : tzero Tryz.prog 206 = (Option.some (Go.Value.agg #[(Go.Value.string ⟨#[]⟩), (Go.Value.int Go.IntKind.i64 0), (Go.Value.int Go.IntKind.i64 0), (Go.Value.slice Option.none 0 0), (Go.Value.string ⟨#[]⟩), (Go.Value.int Go.IntKind.i64 0), (Go.Value.int Go.IntKind.i64 0)])) := by kernel_rfl
@[go_sem] theorem ty_agg206 : tagg Tryz.prog 206 = (Option.some Bool.true) := by kernel_rfl
@[go_sem] theorem ty_field206_0 : tfield Tryz.prog 206 0 = (Option.some ⟨"Name", 9, 0, Bool.false, "", "", 0⟩) := by kernel_rfl
@[go_sem] theorem ty_field206_1 : tfield Tryz.prog 206 1 = (Option.some ⟨"Kind", 3, 1, Bool.false, "", "", 16⟩) := by kernel_rfl
@[go_sem] theorem ty_field206_2 : tfield Tryz.prog 206 2 = (Option.some ⟨"Mode", 3, 2, Bool.false, "", "", 24⟩) := by kernel_rfl
@[go_sem] theorem ty_field206_3 : tfield Tryz.prog 206 3 = (Option.some ⟨"Params", 24, 3, Bool.false, "", "", 32⟩) := by kernel_rfl
@[go_sem] theorem ty_field206_4 : tfield Tryz.prog 206 4 = (Option.some ⟨"Body", 26, 4, Bool.false, "", "", 56⟩) := by kernel_rfl
@[go_sem] theorem ty_build206 (parts : List (Nat × AV)) : abuild Tryz.prog 206 parts = (setCells [(Go.Ab.AV.data (Go.Ab.D.str [])), (Go.Ab.AV.data (Go.Ab.D.int Go.IntKind.i64 0)), (Go.Ab.AV.data (Go.Ab.D.int Go.IntKind.i64 0)), Go.Ab.AV.nils, (Go.Ab.AV.data (Go.Ab.D.str [])), (Go.Ab.AV.data (Go.Ab.D.int Go.IntKind.i64 0)), (Go.Ab.AV.data (Go.Ab.D.int Go.IntKind.i64 0))] ([(0, 1), (1, 1), (2, 1), (3, 1), (4, 3)][·]?) parts).map mkAgg := abuild_of (z := (Go.Value.agg #[(Go.Value.string ⟨#[]⟩), (Go.Value.int Go.IntKind.i64 0), (Go.Value.int Go.IntKind.i64 0), (Go.Value.slice Option.none 0 0), (Go.Value.string ⟨#[]⟩), (Go.Value.int Go.IntKind.i64 0), (Go.Value.int Go.IntKind.i64 0)])) (by kernel_rfl) (by kernel_rfl) (by kernel_rfl)
end Go.Ab
namespace Go.Ab
open Go Go.RowKit Go.Proofs
set_option maxRecDepth 4000
set_option maxHeartbeats 1000000
theorem mixedOK : Tryz.prog.follows .mixedOrders = true := by kernel_rfl
@[go_sem] abbrev i64 (n : Int) : D := .int .i64 n
@[go_sem] abbrev u8 (n : Int) : D := .int .u8 n
abbrev ints (l : List Int) : D := .list (l.map i64)
def Γ0 : FuncId → Option CSpec := fun _ => none
theorem Γ0_ok : ∀ f s, Γ0 f = some s → SpecOK Tryz.prog f s := fun _ _ h => by cases h
def Γl : List (FuncId × CSpec) → FuncId → Option CSpec
  | [], _ => none
  | (k, s) :: r, f => if f = k then some s else Γl r f
attribute [go_sem] Γl
theorem Γn : ∀ f s, Γl [] f = some s → SpecOK Tryz.prog f s := fun _ _ h => by cases h
theorem Γcons {k : FuncId} {s : CSpec} {r : List (FuncId × CSpec)} (h : SpecOK Tryz.prog k s) (hr : ∀ f s, Γl r f = some s → SpecOK Tryz.prog f s) : ∀ f s', Γl ((k, s) :: r) f = some s' → SpecOK Tryz.prog f s' := fun f s' hf => by
  simp only [Γl] at hf
  split at hf
  · rename_i hk; subst hk; cases hf; exact h
  · exact hr f s' hf
theorem Γp {k : FuncId} {fl : Bool} {g : List D → Option D} {r : List (FuncId × CSpec)} (h : PureOK Tryz.prog k fl g) (hr : ∀ f s, Γl r f = some s → SpecOK Tryz.prog f s) : ∀ f s', Γl ((k, .pure fl g) :: r) f = some s' → SpecOK Tryz.prog f s' := Γcons h hr
theorem Γo {k : FuncId} {g : List D → Option (TypeId × Nat × List D)} {r : List (FuncId × CSpec)} (h : OwnOK Tryz.prog k g) (hr : ∀ f s, Γl r f = some s → SpecOK Tryz.prog f s) : ∀ f s', Γl ((k, .own g) :: r) f = some s' → SpecOK Tryz.prog f s' := Γcons h hr
theorem Γq {k : FuncId} {g : List AV → List Obj → Option (AV × List Obj)} {r : List (FuncId × CSpec)} (h : LocOK Tryz.prog k g) (hr : ∀ f s, Γl r f = some s → SpecOK Tryz.prog f s) : ∀ f s', Γl ((k, .loc g) :: r) f = some s' → SpecOK Tryz.prog f s' := Γcons h hr
@[go_sem] theorem dec_true {h : Decidable True} : @decide True h = true := by simp
theorem map_ie {α : Type} {e : α → D} (he : ∀ a b, e a = e b → a = b) (l m : List α) : (l.map e = m.map e) = (l = m) := propext ⟨fun h => List.map_inj_right he |>.1 h, fun h => by rw [h]⟩
theorem strs_ie (a b : List (List UInt8)) : (a.map D.str = b.map D.str) = (a = b) := map_ie (fun x y h => by simpa using h) a b
theorem inj_ie (a b : List (List UInt8)) : (a.map D.str = b.map D.str) = (a = b) := strs_ie a b
abbrev Bs := List UInt8
theorem all_next {α : Type} {p : α → Bool} {l : List α} {i : Nat} (hi : i < l.length) (hb : (l.take i).all p = true) (hp : p l[i] = true) : (l.take (i + 1)).all p = true := by
  rw [List.take_add_one, List.all_append, hb, List.getElem?_eq_getElem hi]
  simp [hp]
theorem all_no {α : Type} {p : α → Bool} {l : List α} {i : Nat} (hi : i < l.length) (hp : p l[i] = false) : l.all p = false := by
  rw [List.all_eq_false]
  exact ⟨_, List.getElem_mem hi, by simp [hp]⟩
@[go_sem] theorem elemsOK_str (l : List (List UInt8)) : elemsOK 1 (l.map D.str) = true := elemsOK_map (f := D.str) (fun _ => ⟨by rfl, by rfl⟩) l
end Go.Ab
namespace Go.Ab
open Go Go.RowKit Go.Proofs
set_option maxRecDepth 10000
set_option maxHeartbeats 8000000
def idx {α : Type} (p : α → Bool) (l : List α) : Int := match l.findIdx? p with
  | some i => i
  | none => -1
theorem idx_at {α : Type} {p : α → Bool} {l : List α} {i : Nat} (hi : i < l.length) (hp : p l[i] = true) (hb : (l.take i).any p = false) : idx p l = i := by
  have h : l.findIdx? p = some i := by
    rw [List.findIdx?_eq_some_iff_getElem]
    refine ⟨hi, hp, fun j hj => ?_⟩
    have hm : l[j] ∈ l.take i := List.mem_take_iff_getElem.2 ⟨j, by omega, rfl⟩
    simpa using List.any_eq_false.1 hb _ hm
  simp only [idx, h]
theorem idx_none {α : Type} {p : α → Bool} {l : List α} (hb : l.any p = false) : idx p l = -1 := by
  have h : l.findIdx? p = none := by
    rw [List.findIdx?_eq_none_iff]
    intro x hx
    simpa using List.any_eq_false.1 hb x hx
  simp only [idx, h]
theorem idx_nonneg {α : Type} (p : α → Bool) (l : List α) : decide (idx p l ≥ 0) = l.any p := by
  unfold idx
  cases h : l.findIdx? p with
  | none =>
    rw [List.findIdx?_eq_none_iff] at h
    have h2 : l.any p = false := List.any_eq_false.2 fun x hx => by simp [h x hx]
    rw [h2]; rfl
  | some i =>
    obtain ⟨h1, h2, _⟩ := List.findIdx?_eq_some_iff_getElem.1 h
    have h3 : l.any p = true := List.any_eq_true.2 ⟨_, List.getElem_mem h1, h2⟩
    rw [h3]
    simp
noncomputable def Γc (b : Bool) (f : FuncId) (g : List D → Option D) : FuncId → Option CSpec := fun f' => if f' = f then some (.pure b g) else none
theorem Γc_ok {b : Bool} {f : FuncId} {g : List D → Option D} (h : PureOK Tryz.prog f b g) : ∀ f' s, Γc b f g f' = some s → SpecOK Tryz.prog f' s := by
  intro f' s hs
  unfold Γc at hs
  split at hs
  · rename_i e; subst e; cases hs; exact h
  · cases hs
noncomputable def gIdxD {α : Type} (e : α → D) (dm : α → Prop) (f : FuncId) (caps : List D) (p : α → Bool) : List D → Option D := encSpec (fun l : List α => [.list (l.map e), .clo f caps]) (fun l => l.length ≤ 1099511627776 ∧ ∀ x ∈ l, dm x) (fun l => i64 (idx p l))
theorem gIdxD_eq {α : Type} {e : α → D} {dm : α → Prop} (he : ∀ a b, e a = e b → a = b) {f : FuncId} {caps : List D} {p : α → Bool} {l : List α} (h : l.length ≤ 1099511627776) (hd : ∀ x ∈ l, dm x) : gIdxD e dm f caps p [.list (l.map e), .clo f caps] = some (.int .i64 (idx p l)) :=
  encSpec_eq (x := l) ⟨h, hd⟩ fun y hy => by
    simp only [List.cons.injEq, D.list.injEq, and_true] at hy
    rw [List.map_inj_right he |>.1 hy]
noncomputable def gAnyD {α : Type} (e : α → D) (dm : α → Prop) (f : FuncId) (caps : List D) (p : α → Bool) : List D → Option D := encSpec (fun l : List α => [.list (l.map e), .clo f caps]) (fun l => l.length ≤ 1099511627776 ∧ ∀ x ∈ l, dm x) (fun l => .bool (l.any p))
theorem gAnyD_eq {α : Type} {e : α → D} {dm : α → Prop} (he : ∀ a b, e a = e b → a = b) {f : FuncId} {caps : List D} {p : α → Bool} {l : List α} (h : l.length ≤ 1099511627776) (hd : ∀ x ∈ l, dm x) : gAnyD e dm f caps p [.list (l.map e), .clo f caps] = some (.bool (l.any p)) :=
  encSpec_eq (x := l) ⟨h, hd⟩ fun y hy => by
    simp only [List.cons.injEq, D.list.injEq, and_true] at hy
    rw [List.map_inj_right he |>.1 hy]
theorem freeze_data (H : Heap) : ∀ l : List D, freeze H (l.map AV.data) = some H
  | [] => rfl
  | d :: l => by
    have ih := freeze_data H l
    rw [List.map_cons]
    cases d <;> first | exact ih | (unfold freeze; exact ih) | (simp [freeze, AV.closed, ih])
theorem str_inj' (a b : Bs) (h : D.str a = D.str b) : a = b := by cases h; rfl
end Go.Ab
