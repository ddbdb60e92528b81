/-
  One text of the proof (own work): contracts of functions of the program, by the abstract machine.
-/
import Derived.Test.YtapnigckcnknoaaDoorChecked
import Derived.Test.YtapnigckcnknoaaDoorX12
import Derived.Test.YtapnigckcnknoaaDoorX13
set_option linter.unusedVariables false
set_option linter.unusedSimpArgs false
namespace Go.Ab
open Go Go.RowKit Go.Proofs
@[go_sem] theorem ty_size3 : tsize Tryd.prog 3 = (Option.some 1) := by kernel_rfl
@[go_sem] theorem ty_bytes3 : tbytes Tryd.prog 3 = (Option.some 8) := by kernel_rfl
@[go_sem] theorem ty_zero3 : tzero Tryd.prog 3 = (Option.some (Go.Value.int Go.IntKind.i64 0)) := by kernel_rfl
@[go_sem] theorem ty_agg3 : tagg Tryd.prog 3 = (Option.some Bool.false) := by kernel_rfl
@[go_sem] theorem ty_und3 : Program.underlying Tryd.prog 3 = (Option.some (Go.TypeDesc.int Go.IntKind.i64)) := by kernel_rfl
@[go_sem] theorem ty_elem3 : telem Tryd.prog 3 = Option.none := by kernel_rfl
@[go_sem] theorem ty_size4 : tsize Tryd.prog 4 = (Option.some 1) := by kernel_rfl
@[go_sem] theorem ty_bytes4 : tbytes Tryd.prog 4 = (Option.some 1) := by kernel_rfl
@[go_sem] theorem ty_zero4 : tzero Tryd.prog 4 = (Option.some (Go.Value.bool Bool.false)) := by kernel_rfl
@[go_sem] theorem ty_agg4 : tagg Tryd.prog 4 = (Option.some Bool.false) := by kernel_rfl
@[go_sem] theorem ty_und4 : Program.underlying Tryd.prog 4 = (Option.some Go.TypeDesc.bool) := by kernel_rfl
@[go_sem] theorem ty_elem4 : telem Tryd.prog 4 = Option.none := by kernel_rfl
@[go_sem] theorem ty_size5 : tsize Tryd.prog 5 = (Option.some 1) := by kernel_rfl
@[go_sem] theorem ty_bytes5 : tbytes Tryd.prog 5 = (Option.some 1) := by kernel_rfl
@[go_sem] theorem ty_zero5 : tzero Tryd.prog 5 = (Option.some (Go.Value.int Go.IntKind.u8 0)) := by kernel_rfl
@[go_sem] theorem ty_agg5 : tagg Tryd.prog 5 = (Option.some Bool.false) := by kernel_rfl
@[go_sem] theorem ty_und5 : Program.underlying Tryd.prog 5 = (Option.some (Go.TypeDesc.int Go.IntKind.u8)) := by kernel_rfl
@[go_sem] theorem ty_elem5 : telem Tryd.prog 5 = Option.none := by kernel_rfl
@[go_sem] theorem ty_size9 : tsize Tryd.prog 9 = (Option.some 1) := by kernel_rfl
@[go_sem] theorem ty_bytes9 : tbytes Tryd.prog 9 = (Option.some 16) := by kernel_rfl
@[go_sem] theorem ty_zero9 : tzero Tryd.prog 9 = (Option.some (Go.Value.string ⟨#[]⟩)) := by kernel_rfl
@[go_sem] theorem ty_agg9 : tagg Tryd.prog 9 = (Option.some Bool.false) := by kernel_rfl
@[go_sem] theorem ty_und9 : Program.underlying Tryd.prog 9 = (Option.some Go.TypeDesc.string) := by kernel_rfl
@[go_sem] theorem ty_elem9 : telem Tryd.prog 9 = Option.none := by kernel_rfl
@[go_sem] theorem ty_size21 : tsize Tryd.prog 21 = (Option.some 1) := by kernel_rfl
@[go_sem] theorem ty_bytes21 : tbytes Tryd.prog 21 = (Option.some 4) := by kernel_rfl
@[go_sem] theorem ty_zero21 : tzero Tryd.prog 21 = (Option.some (Go.Value.int Go.IntKind.i32 0)) := by kernel_rfl
@[go_sem] theorem ty_agg21 : tagg Tryd.prog 21 = (Option.some Bool.false) := by kernel_rfl
@[go_sem] theorem ty_und21 : Program.underlying Tryd.prog 21 = (Option.some (Go.TypeDesc.int Go.IntKind.i32)) := by kernel_rfl
@[go_sem] theorem ty_elem21 : telem Tryd.prog 21 = Option.none := by kernel_rfl
@[go_sem] theorem ty_size22 : tsize Tryd.prog 22 = (Option.some 1) := by kernel_rfl
@[go_sem] theorem ty_bytes22 : tbytes Tryd.prog 22 = (Option.some 24) := by kernel_rfl
@[go_sem] theorem ty_zero22 : tzero Tryd.prog 22 = (Option.some (Go.Value.slice Option.none 0 0)) := by kernel_rfl
@[go_sem] theorem ty_agg22 : tagg Tryd.prog 22 = (Option.some Bool.false) := by kernel_rfl
@[go_sem] theorem ty_und22 : Program.underlying Tryd.prog 22 = (Option.some (Go.TypeDesc.slice 5)) := by kernel_rfl
@[go_sem] theorem ty_elem22 : telem Tryd.prog 22 = (Option.some 5) := by kernel_rfl
@[go_sem] theorem ty_size24 : tsize Tryd.prog 24 = (Option.some 1) := by kernel_rfl
@[go_sem] theorem ty_bytes24 : tbytes Tryd.prog 24 = (Option.some 24) := by kernel_rfl
@[go_sem] theorem ty_zero24 : tzero Tryd.prog 24 = (Option.some (Go.Value.slice Option.none 0 0)) := by kernel_rfl
@[go_sem] theorem ty_agg24 : tagg Tryd.prog 24 = (Option.some Bool.false) := by kernel_rfl
@[go_sem] theorem ty_und24 : Program.underlying Tryd.prog 24 = (Option.some (Go.TypeDesc.slice 9)) := by kernel_rfl
@[go_sem] theorem ty_elem24 : telem Tryd.prog 24 = (Option.some 9) := by kernel_rfl
@[go_sem] theorem ty_size25 : tsize Tryd.prog 25 = (Option.some 1) := by kernel_rfl
@[go_sem] theorem ty_bytes25 : tbytes Tryd.prog 25 = (Option.some 24) := by kernel_rfl
@[go_sem] theorem ty_zero25 : tzero Tryd.prog 25 = (Option.some (Go.Value.slice Option.none 0 0)) := by kernel_rfl
@[go_sem] theorem ty_agg25 : tagg Tryd.prog 25 = (Option.some Bool.false) := by kernel_rfl
@[go_sem] theorem ty_und25 : Program.underlying Tryd.prog 25 = (Option.some (Go.TypeDesc.slice 35)) := by kernel_rfl
@[go_sem] theorem ty_elem25 : telem Tryd.prog 25 = (Option.some 35) := by kernel_rfl
@[go_sem] theorem ty_size26 : tsize Tryd.prog 26 = (Option.some 1) := by kernel_rfl
@[go_sem] theorem ty_bytes26 : tbytes Tryd.prog 26 = (Option.some 24) := by kernel_rfl
@[go_sem] theorem ty_zero26 : tzero Tryd.prog 26 = (Option.some (Go.Value.slice Option.none 0 0)) := by kernel_rfl
@[go_sem] theorem ty_agg26 : tagg Tryd.prog 26 = (Option.some Bool.false) := by kernel_rfl
@[go_sem] theorem ty_und26 : Program.underlying Tryd.prog 26 = (Option.some (Go.TypeDesc.slice 172)) := by kernel_rfl
@[go_sem] theorem ty_elem26 : telem Tryd.prog 26 = (Option.some 172) := by kernel_rfl
@[go_sem] theorem ty_size27 : tsize Tryd.prog 27 = (Option.some 1) := by kernel_rfl
@[go_sem] theorem ty_bytes27 : tbytes Tryd.prog 27 = (Option.some 24) := by kernel_rfl
@[go_sem] theorem ty_zero27 : tzero Tryd.prog 27 = (Option.some (Go.Value.slice Option.none 0 0)) := by kernel_rfl
@[go_sem] theorem ty_agg27 : tagg Tryd.prog 27 = (Option.some Bool.false) := by kernel_rfl
@[go_sem] theorem ty_und27 : Program.underlying Tryd.prog 27 = (Option.some (Go.TypeDesc.slice 33)) := by kernel_rfl
@[go_sem] theorem ty_elem27 : telem Tryd.prog 27 = (Option.some 33) := by kernel_rfl
@[go_sem] theorem ty_size28 : tsize Tryd.prog 28 = (Option.some 1) := by kernel_rfl
@[go_sem] theorem ty_bytes28 : tbytes Tryd.prog 28 = (Option.some 24) := by kernel_rfl
@[go_sem] theorem ty_zero28 : tzero Tryd.prog 28 = (Option.some (Go.Value.slice Option.none 0 0)) := by kernel_rfl
@[go_sem] theorem ty_agg28 : tagg Tryd.prog 28 = (Option.some Bool.false) := by kernel_rfl
@[go_sem] theorem ty_und28 : Program.underlying Tryd.prog 28 = (Option.some (Go.TypeDesc.slice 33)) := by kernel_rfl
@[go_sem] theorem ty_elem28 : telem Tryd.prog 28 = (Option.some 33) := by kernel_rfl
@[go_sem] theorem ty_size29 : tsize Tryd.prog 29 = (Option.some 6) := by kernel_rfl
@[go_sem] theorem ty_bytes29 : tbytes Tryd.prog 29 = (Option.some 136) := by kernel_rfl
@[go_sem] theorem ty_zero29 : tzero Tryd.prog 29 = (Option.some (Go.Value.agg #[(Go.Value.string ⟨#[]⟩), (Go.Value.slice Option.none 0 0), (Go.Value.slice Option.none 0 0), (Go.Value.slice Option.none 0 0), (Go.Value.slice Option.none 0 0), (Go.Value.slice Option.none 0 0)])) := by kernel_rfl
@[go_sem] theorem ty_agg29 : tagg Tryd.prog 29 = (Option.some Bool.true) := by kernel_rfl
@[go_sem] theorem ty_field29_0 : tfield Tryd.prog 29 0 = (Option.some ⟨"Path", 9, 0, Bool.false, "", "", 0⟩) := by kernel_rfl
@[go_sem] theorem ty_field29_1 : tfield Tryd.prog 29 1 = (Option.some ⟨"Flags", 24, 1, Bool.false, "", "", 16⟩) := by kernel_rfl
@[go_sem] theorem ty_field29_2 : tfield Tryd.prog 29 2 = (Option.some ⟨"Macros", 25, 2, Bool.false, "", "", 40⟩) := by kernel_rfl
@[go_sem] theorem ty_field29_3 : tfield Tryd.prog 29 3 = (Option.some ⟨"Items", 26, 3, Bool.false, "", "", 64⟩) := by kernel_rfl
@[go_sem] theorem ty_field29_4 : tfield Tryd.prog 29 4 = (Option.some ⟨"Heads", 28, 4, Bool.false, "", "", 88⟩) := by kernel_rfl
@[go_sem] theorem ty_field29_5 : tfield Tryd.prog 29 5 = (Option.some ⟨"Files", 24, 5, Bool.false, "", "", 112⟩) := by kernel_rfl
@[go_sem] theorem ty_build29 (parts : List (Nat × AV)) : abuild Tryd.prog 29 parts = (setCells [(Go.Ab.AV.data (Go.Ab.D.str [])), Go.Ab.AV.nils, Go.Ab.AV.nils, Go.Ab.AV.nils, Go.Ab.AV.nils, Go.Ab.AV.nils] ([(0, 1), (1, 1), (2, 1), (3, 1), (4, 1), (5, 1)][·]?) parts).map mkAgg := abuild_of (z := (Go.Value.agg #[(Go.Value.string ⟨#[]⟩), (Go.Value.slice Option.none 0 0), (Go.Value.slice Option.none 0 0), (Go.Value.slice Option.none 0 0), (Go.Value.slice Option.none 0 0), (Go.Value.slice Option.none 0 0)])) (by kernel_rfl) (by kernel_rfl) (by kernel_rfl)
@[go_sem] theorem ty_size30 : tsize Tryd.prog 30 = (Option.some 6) := by kernel_rfl
@[go_sem] theorem ty_bytes30 : tbytes Tryd.prog 30 = (Option.some 136) := by kernel_rfl
@[go_sem] theorem ty_zero30 : tzero Tryd.prog 30 = (Option.some (Go.Value.agg #[(Go.Value.string ⟨#[]⟩), (Go.Value.slice Option.none 0 0), (Go.Value.slice Option.none 0 0), (Go.Value.slice Option.none 0 0), (Go.Value.slice Option.none 0 0), (Go.Value.slice Option.none 0 0)])) := by kernel_rfl
@[go_sem] theorem ty_agg30 : tagg Tryd.prog 30 = (Option.some Bool.true) := by kernel_rfl
@[go_sem] theorem ty_field30_0 : tfield Tryd.prog 30 0 = (Option.some ⟨"Path", 9, 0, Bool.false, "", "", 0⟩) := by kernel_rfl
@[go_sem] theorem ty_field30_1 : tfield Tryd.prog 30 1 = (Option.some ⟨"Flags", 24, 1, Bool.false, "", "", 16⟩) := by kernel_rfl
@[go_sem] theorem ty_field30_2 : tfield Tryd.prog 30 2 = (Option.some ⟨"Macros", 25, 2, Bool.false, "", "", 40⟩) := by kernel_rfl
@[go_sem] theorem ty_field30_3 : tfield Tryd.prog 30 3 = (Option.some ⟨"Items", 26, 3, Bool.false, "", "", 64⟩) := by kernel_rfl
@[go_sem] theorem ty_field30_4 : tfield Tryd.prog 30 4 = (Option.some ⟨"Heads", 28, 4, Bool.false, "", "", 88⟩) := by kernel_rfl
@[go_sem] theorem ty_field30_5 : tfield Tryd.prog 30 5 = (Option.some ⟨"Files", 24, 5, Bool.false, "", "", 112⟩) := by kernel_rfl
@[go_sem] theorem ty_build30 (parts : List (Nat × AV)) : abuild Tryd.prog 30 parts = (setCells [(Go.Ab.AV.data (Go.Ab.D.str [])), Go.Ab.AV.nils, Go.Ab.AV.nils, Go.Ab.AV.nils, Go.Ab.AV.nils, Go.Ab.AV.nils] ([(0, 1), (1, 1), (2, 1), (3, 1), (4, 1), (5, 1)][·]?) parts).map mkAgg := abuild_of (z := (Go.Value.agg #[(Go.Value.string ⟨#[]⟩), (Go.Value.slice Option.none 0 0), (Go.Value.slice Option.none 0 0), (Go.Value.slice Option.none 0 0), (Go.Value.slice Option.none 0 0), (Go.Value.slice Option.none 0 0)])) (by kernel_rfl) (by kernel_rfl) (by kernel_rfl)
@[go_sem] theorem ty_size32 : tsize Tryd.prog 32 = (Option.some 3) := by kernel_rfl
@[go_sem] theorem ty_bytes32 : tbytes Tryd.prog 32 = (Option.some 32) := by kernel_rfl
@[go_sem] theorem ty_zero32 : tzero Tryd.prog 32 = (Option.some (Go.Value.agg #[(Go.Value.string ⟨#[]⟩), (Go.Value.int Go.IntKind.i64 0), (Go.Value.int Go.IntKind.i64 0)])) := by kernel_rfl
@[go_sem] theorem ty_agg32 : tagg Tryd.prog 32 = (Option.some Bool.true) := by kernel_rfl
@[go_sem] theorem ty_field32_0 : tfield Tryd.prog 32 0 = (Option.some ⟨"Path", 9, 0, Bool.false, "", "", 0⟩) := by kernel_rfl
@[go_sem] theorem ty_field32_1 : tfield Tryd.prog 32 1 = (Option.some ⟨"From", 3, 1, Bool.false, "", "", 16⟩) := by kernel_rfl
@[go_sem] theorem ty_field32_2 : tfield Tryd.prog 32 2 = (Option.some ⟨"To", 3, 2, Bool.false, "", "", 24⟩) := by kernel_rfl
@[go_sem] theorem ty_build32 (parts : List (Nat × AV)) : abuild Tryd.prog 32 parts = (setCells [(Go.Ab.AV.data (Go.Ab.D.str [])), (Go.Ab.AV.data (Go.Ab.D.int Go.IntKind.i64 0)), (Go.Ab.AV.data (Go.Ab.D.int Go.IntKind.i64 0))] ([(0, 1), (1, 1), (2, 1)][·]?) parts).map mkAgg := abuild_of (z := (Go.Value.agg #[(Go.Value.string ⟨#[]⟩), (Go.Value.int Go.IntKind.i64 0), (Go.Value.int Go.IntKind.i64 0)])) (by kernel_rfl) (by kernel_rfl) (by kernel_rfl)
@[go_sem] theorem ty_size33 : tsize Tryd.prog 33 = (Option.some 3) := by kernel_rfl
@[go_sem] theorem ty_bytes33 : tbytes Tryd.prog 33 = (Option.some 32) := by kernel_rfl
@[go_sem] theorem ty_zero33 : tzero Tryd.prog 33 = (Option.some (Go.Value.agg #[(Go.Value.string ⟨#[]⟩), (Go.Value.int Go.IntKind.i64 0), (Go.Value.int Go.IntKind.i64 0)])) := by kernel_rfl
@[go_sem] theorem ty_agg33 : tagg Tryd.prog 33 = (Option.some Bool.true) := by kernel_rfl
@[go_sem] theorem ty_field33_0 : tfield Tryd.prog 33 0 = (Option.some ⟨"Path", 9, 0, Bool.false, "", "", 0⟩) := by kernel_rfl
@[go_sem] theorem ty_field33_1 : tfield Tryd.prog 33 1 = (Option.some ⟨"From", 3, 1, Bool.false, "", "", 16⟩) := by kernel_rfl
@[go_sem] theorem ty_field33_2 : tfield Tryd.prog 33 2 = (Option.some ⟨"To", 3, 2, Bool.false, "", "", 24⟩) := by kernel_rfl
@[go_sem] theorem ty_build33 (parts : List (Nat × AV)) : abuild Tryd.prog 33 parts = (setCells [(Go.Ab.AV.data (Go.Ab.D.str [])), (Go.Ab.AV.data (Go.Ab.D.int Go.IntKind.i64 0)), (Go.Ab.AV.data (Go.Ab.D.int Go.IntKind.i64 0))] ([(0, 1), (1, 1), (2, 1)][·]?) parts).map mkAgg := abuild_of (z := (Go.Value.agg #[(Go.Value.string ⟨#[]⟩), (Go.Value.int Go.IntKind.i64 0), (Go.Value.int Go.IntKind.i64 0)])) (by kernel_rfl) (by kernel_rfl) (by kernel_rfl)
@[go_sem] theorem ty_size34 : tsize Tryd.prog 34 = (Option.some 5) := by kernel_rfl
@[go_sem] theorem ty_bytes34 : tbytes Tryd.prog 34 = (Option.some 72) := by kernel_rfl
@[go_sem] theorem ty_zero34 : tzero Tryd.prog 34 = (Option.some (Go.Value.agg #[(Go.Value.string ⟨#[]⟩), (Go.Value.slice Option.none 0 0), (Go.Value.string ⟨#[]⟩), (Go.Value.int Go.IntKind.i64 0), (Go.Value.int Go.IntKind.i64 0)])) := by kernel_rfl
@[go_sem] theorem ty_agg34 : tagg Tryd.prog 34 = (Option.some Bool.true) := by kernel_rfl
@[go_sem] theorem ty_field34_0 : tfield Tryd.prog 34 0 = (Option.some ⟨"Name", 9, 0, Bool.false, "", "", 0⟩) := by kernel_rfl
@[go_sem] theorem ty_field34_1 : tfield Tryd.prog 34 1 = (Option.some ⟨"Params", 24, 1, Bool.false, "", "", 16⟩) := by kernel_rfl
@[go_sem] theorem ty_field34_2 : tfield Tryd.prog 34 2 = (Option.some ⟨"Body", 33, 2, Bool.false, "", "", 40⟩) := by kernel_rfl
@[go_sem] theorem ty_build34 (parts : List (Nat × AV)) : abuild Tryd.prog 34 parts = (setCells [(Go.Ab.AV.data (Go.Ab.D.str [])), Go.Ab.AV.nils, (Go.Ab.AV.data (Go.Ab.D.str [])), (Go.Ab.AV.data (Go.Ab.D.int Go.IntKind.i64 0)), (Go.Ab.AV.data (Go.Ab.D.int Go.IntKind.i64 0))] ([(0, 1), (1, 1), (2, 3)][·]?) parts).map mkAgg := abuild_of (z := (Go.Value.agg #[(Go.Value.string ⟨#[]⟩), (Go.Value.slice Option.none 0 0), (Go.Value.string ⟨#[]⟩), (Go.Value.int Go.IntKind.i64 0), (Go.Value.int Go.IntKind.i64 0)])) (by kernel_rfl) (by kernel_rfl) (by kernel_rfl)
@[go_sem] theorem ty_size35 : tsize Tryd.prog 35 = (Option.some 5) := by kernel_rfl
@[go_sem] theorem ty_bytes35 : tbytes Tryd.prog 35 = (Option.some 72) := by kernel_rfl
@[go_sem] theorem ty_zero35 : tzero Tryd.prog 35 = (Option.some (Go.Value.agg #[(Go.Value.string ⟨#[]⟩), (Go.Value.slice Option.none 0 0), (Go.Value.string ⟨#[]⟩), (Go.Value.int Go.IntKind.i64 0), (Go.Value.int Go.IntKind.i64 0)])) := by kernel_rfl
@[go_sem] theorem ty_agg35 : tagg Tryd.prog 35 = (Option.some Bool.true) := by kernel_rfl
@[go_sem] theorem ty_field35_0 : tfield Tryd.prog 35 0 = (Option.some ⟨"Name", 9, 0, Bool.false, "", "", 0⟩) := by kernel_rfl
@[go_sem] theorem ty_field35_1 : tfield Tryd.prog 35 1 = (Option.some ⟨"Params", 24, 1, Bool.false, "", "", 16⟩) := by kernel_rfl
@[go_sem] theorem ty_field35_2 : tfield Tryd.prog 35 2 = (Option.some ⟨"Body", 33, 2, Bool.false, "", "", 40⟩) := by kernel_rfl
@[go_sem] theorem ty_build35 (parts : List (Nat × AV)) : abuild Tryd.prog 35 parts = (setCells [(Go.Ab.AV.data (Go.Ab.D.str [])), Go.Ab.AV.nils, (Go.Ab.AV.data (Go.Ab.D.str [])), (Go.Ab.AV.data (Go.Ab.D.int Go.IntKind.i64 0)), (Go.Ab.AV.data (Go.Ab.D.int Go.IntKind.i64 0))] ([(0, 1), (1, 1), (2, 3)][·]?) parts).map mkAgg := abuild_of (z := (Go.Value.agg #[(Go.Value.string ⟨#[]⟩), (Go.Value.slice Option.none 0 0), (Go.Value.string ⟨#[]⟩), (Go.Value.int Go.IntKind.i64 0), (Go.Value.int Go.IntKind.i64 0)])) (by kernel_rfl) (by kernel_rfl) (by kernel_rfl)
@[go_sem] theorem ty_size36 : tsize Tryd.prog 36 = (Option.some 1) := by kernel_rfl
@[go_sem] theorem ty_bytes36 : tbytes Tryd.prog 36 = (Option.some 8) := by kernel_rfl
@[go_sem] theorem ty_zero36 : tzero Tryd.prog 36 = (Option.some (Go.Value.map Option.none)) := by kernel_rfl
@[go_sem] theorem ty_agg36 : tagg Tryd.prog 36 = (Option.some Bool.false) := by kernel_rfl
@[go_sem] theorem ty_und36 : Program.underlying Tryd.prog 36 = (Option.some (Go.TypeDesc.map 3 4)) := by kernel_rfl
@[go_sem] theorem ty_elem36 : telem Tryd.prog 36 = Option.none := by kernel_rfl
@[go_sem] theorem ty_size37 : tsize Tryd.prog 37 = (Option.some 1) := by kernel_rfl
@[go_sem] theorem ty_bytes37 : tbytes Tryd.prog 37 = (Option.some 24) := by kernel_rfl
@[go_sem] theorem ty_zero37 : tzero Tryd.prog 37 = (Option.some (Go.Value.slice Option.none 0 0)) := by kernel_rfl
@[go_sem] theorem ty_agg37 : tagg Tryd.prog 37 = (Option.some Bool.false) := by kernel_rfl
@[go_sem] theorem ty_und37 : Program.underlying Tryd.prog 37 = (Option.some (Go.TypeDesc.slice 46)) := by kernel_rfl
@[go_sem] theorem ty_elem37 : telem Tryd.prog 37 = (Option.some 46) := by kernel_rfl
@[go_sem] theorem ty_size38 : tsize Tryd.prog 38 = (Option.some 1) := by kernel_rfl
@[go_sem] theorem ty_bytes38 : tbytes Tryd.prog 38 = (Option.some 8) := by kernel_rfl
@[go_sem] theorem ty_zero38 : tzero Tryd.prog 38 = (Option.some (Go.Value.int Go.IntKind.i64 0)) := by kernel_rfl
@[go_sem] theorem ty_agg38 : tagg Tryd.prog 38 = (Option.some Bool.false) := by kernel_rfl
@[go_sem] theorem ty_und38 : Program.underlying Tryd.prog 38 = (Option.some (Go.TypeDesc.int Go.IntKind.i64)) := by kernel_rfl
@[go_sem] theorem ty_elem38 : telem Tryd.prog 38 = Option.none := by kernel_rfl
@[go_sem] theorem ty_size41 : tsize Tryd.prog 41 = (Option.some 2) := by kernel_rfl
@[go_sem] theorem ty_bytes41 : tbytes Tryd.prog 41 = (Option.some 32) := by kernel_rfl
@[go_sem] theorem ty_zero41 : tzero Tryd.prog 41 = (Option.some (Go.Value.agg #[(Go.Value.string ⟨#[]⟩), (Go.Value.string ⟨#[]⟩)])) := by kernel_rfl
@[go_sem] theorem ty_agg41 : tagg Tryd.prog 41 = (Option.some Bool.true) := by kernel_rfl
@[go_sem] theorem ty_field41_0 : tfield Tryd.prog 41 0 = (Option.some ⟨"Path", 9, 0, Bool.false, "", "", 0⟩) := by kernel_rfl
@[go_sem] theorem ty_field41_1 : tfield Tryd.prog 41 1 = (Option.some ⟨"Data", 9, 1, Bool.false, "", "", 16⟩) := by kernel_rfl
@[go_sem] theorem ty_build41 (parts : List (Nat × AV)) : abuild Tryd.prog 41 parts = (setCells [(Go.Ab.AV.data (Go.Ab.D.str [])), (Go.Ab.AV.data (Go.Ab.D.str []))] ([(0, 1), (1, 1)][·]?) parts).map mkAgg := abuild_of (z := (Go.Value.agg #[(Go.Value.string ⟨#[]⟩), (Go.Value.string ⟨#[]⟩)])) (by kernel_rfl) (by kernel_rfl) (by kernel_rfl)
@[go_sem] theorem ty_size42 : tsize Tryd.prog 42 = (Option.some 2) := by kernel_rfl
@[go_sem] theorem ty_bytes42 : tbytes Tryd.prog 42 = (Option.some 32) := by kernel_rfl
@[go_sem] theorem ty_zero42 : tzero Tryd.prog 42 = (Option.some (Go.Value.agg #[(Go.Value.string ⟨#[]⟩), (Go.Value.string ⟨#[]⟩)])) := by kernel_rfl
@[go_sem] theorem ty_agg42 : tagg Tryd.prog 42 = (Option.some Bool.true) := by kernel_rfl
@[go_sem] theorem ty_field42_0 : tfield Tryd.prog 42 0 = (Option.some ⟨"Path", 9, 0, Bool.false, "", "", 0⟩) := by kernel_rfl
@[go_sem] theorem ty_field42_1 : tfield Tryd.prog 42 1 = (Option.some ⟨"Data", 9, 1, Bool.false, "", "", 16⟩) := by kernel_rfl
@[go_sem] theorem ty_build42 (parts : List (Nat × AV)) : abuild Tryd.prog 42 parts = (setCells [(Go.Ab.AV.data (Go.Ab.D.str [])), (Go.Ab.AV.data (Go.Ab.D.str []))] ([(0, 1), (1, 1)][·]?) parts).map mkAgg := abuild_of (z := (Go.Value.agg #[(Go.Value.string ⟨#[]⟩), (Go.Value.string ⟨#[]⟩)])) (by kernel_rfl) (by kernel_rfl) (by kernel_rfl)
@[go_sem] theorem ty_size43 : tsize Tryd.prog 43 = (Option.some 1) := by kernel_rfl
@[go_sem] theorem ty_bytes43 : tbytes Tryd.prog 43 = (Option.some 24) := by kernel_rfl
@[go_sem] theorem ty_zero43 : tzero Tryd.prog 43 = (Option.some (Go.Value.slice Option.none 0 0)) := by kernel_rfl
@[go_sem] theorem ty_agg43 : tagg Tryd.prog 43 = (Option.some Bool.false) := by kernel_rfl
@[go_sem] theorem ty_und43 : Program.underlying Tryd.prog 43 = (Option.some (Go.TypeDesc.slice 42)) := by kernel_rfl
@[go_sem] theorem ty_elem43 : telem Tryd.prog 43 = (Option.some 42) := by kernel_rfl
@[go_sem] theorem ty_size44 : tsize Tryd.prog 44 = (Option.some 1) := by kernel_rfl
@[go_sem] theorem ty_bytes44 : tbytes Tryd.prog 44 = (Option.some 24) := by kernel_rfl
@[go_sem] theorem ty_zero44 : tzero Tryd.prog 44 = (Option.some (Go.Value.slice Option.none 0 0)) := by kernel_rfl
@[go_sem] theorem ty_agg44 : tagg Tryd.prog 44 = (Option.some Bool.false) := by kernel_rfl
@[go_sem] theorem ty_und44 : Program.underlying Tryd.prog 44 = (Option.some (Go.TypeDesc.slice 42)) := by kernel_rfl
@[go_sem] theorem ty_elem44 : telem Tryd.prog 44 = (Option.some 42) := by kernel_rfl
@[go_sem] theorem ty_size45 : tsize Tryd.prog 45 = (Option.some 2) := by kernel_rfl
@[go_sem] theorem ty_bytes45 : tbytes Tryd.prog 45 = (Option.some 24) := by kernel_rfl
@[go_sem] theorem ty_zero45 : tzero Tryd.prog 45 = (Option.some (Go.Value.agg #[(Go.Value.int Go.IntKind.i64 0), (Go.Value.string ⟨#[]⟩)])) := by kernel_rfl
@[go_sem] theorem ty_agg45 : tagg Tryd.prog 45 = (Option.some Bool.true) := by kernel_rfl
@[go_sem] theorem ty_field45_0 : tfield Tryd.prog 45 0 = (Option.some ⟨"Kind", 3, 0, Bool.false, "", "", 0⟩) := by kernel_rfl
@[go_sem] theorem ty_field45_1 : tfield Tryd.prog 45 1 = (Option.some ⟨"Text", 9, 1, Bool.false, "", "", 8⟩) := by kernel_rfl
@[go_sem] theorem ty_build45 (parts : List (Nat × AV)) : abuild Tryd.prog 45 parts = (setCells [(Go.Ab.AV.data (Go.Ab.D.int Go.IntKind.i64 0)), (Go.Ab.AV.data (Go.Ab.D.str []))] ([(0, 1), (1, 1)][·]?) parts).map mkAgg := abuild_of (z := (Go.Value.agg #[(Go.Value.int Go.IntKind.i64 0), (Go.Value.string ⟨#[]⟩)])) (by kernel_rfl) (by kernel_rfl) (by kernel_rfl)
@[go_sem] theorem ty_size46 : tsize Tryd.prog 46 = (Option.some 2) := by kernel_rfl
@[go_sem] theorem ty_bytes46 : tbytes Tryd.prog 46 = (Option.some 24) := by kernel_rfl
@[go_sem] theorem ty_zero46 : tzero Tryd.prog 46 = (Option.some (Go.Value.agg #[(Go.Value.int Go.IntKind.i64 0), (Go.Value.string ⟨#[]⟩)])) := by kernel_rfl
@[go_sem] theorem ty_agg46 : tagg Tryd.prog 46 = (Option.some Bool.true) := by kernel_rfl
@[go_sem] theorem ty_field46_0 : tfield Tryd.prog 46 0 = (Option.some ⟨"Kind", 3, 0, Bool.false, "", "", 0⟩) := by kernel_rfl
@[go_sem] theorem ty_field46_1 : tfield Tryd.prog 46 1 = (Option.some ⟨"Text", 9, 1, Bool.false, "", "", 8⟩) := by kernel_rfl
@[go_sem] theorem ty_build46 (parts : List (Nat × AV)) : abuild Tryd.prog 46 parts = (setCells [(Go.Ab.AV.data (Go.Ab.D.int Go.IntKind.i64 0)), (Go.Ab.AV.data (Go.Ab.D.str []))] ([(0, 1), (1, 1)][·]?) parts).map mkAgg := abuild_of (z := (Go.Value.agg #[(Go.Value.int Go.IntKind.i64 0), (Go.Value.string ⟨#[]⟩)])) (by kernel_rfl) (by kernel_rfl) (by kernel_rfl)
@[go_sem] theorem ty_size53 : tsize Tryd.prog 53 = (Option.some 1) := by kernel_rfl
@[go_sem] theorem ty_bytes53 : tbytes Tryd.prog 53 = (Option.some 24) := by kernel_rfl
@[go_sem] theorem ty_zero53 : tzero Tryd.prog 53 = (Option.some (Go.Value.slice Option.none 0 0)) := by kernel_rfl
@[go_sem] theorem ty_agg53 : tagg Tryd.prog 53 = (Option.some Bool.false) := by kernel_rfl
@[go_sem] theorem ty_und53 : Program.underlying Tryd.prog 53 = (Option.some (Go.TypeDesc.slice 56)) := by kernel_rfl
@[go_sem] theorem ty_elem53 : telem Tryd.prog 53 = (Option.some 56) := by kernel_rfl
@[go_sem] theorem ty_size54 : tsize Tryd.prog 54 = (Option.some 1) := by kernel_rfl
@[go_sem] theorem ty_bytes54 : tbytes Tryd.prog 54 = (Option.some 8) := by kernel_rfl
@[go_sem] theorem ty_zero54 : tzero Tryd.prog 54 = (Option.some (Go.Value.map Option.none)) := by kernel_rfl
@[go_sem] theorem ty_agg54 : tagg Tryd.prog 54 = (Option.some Bool.false) := by kernel_rfl
@[go_sem] theorem ty_und54 : Program.underlying Tryd.prog 54 = (Option.some (Go.TypeDesc.map 9 4)) := by kernel_rfl
@[go_sem] theorem ty_elem54 : telem Tryd.prog 54 = Option.none := by kernel_rfl
@[go_sem] theorem ty_size55 : tsize Tryd.prog 55 = (Option.some 3) := by kernel_rfl
@[go_sem] theorem ty_bytes55 : tbytes Tryd.prog 55 = (Option.some 32) := by kernel_rfl
@[go_sem] theorem ty_zero55 : tzero Tryd.prog 55 = (Option.some (Go.Value.agg #[(Go.Value.int Go.IntKind.i64 0), (Go.Value.string ⟨#[]⟩), (Go.Value.map Option.none)])) := by kernel_rfl
@[go_sem] theorem ty_agg55 : tagg Tryd.prog 55 = (Option.some Bool.true) := by kernel_rfl
@[go_sem] theorem ty_field55_0 : tfield Tryd.prog 55 0 = (Option.some ⟨"Token", 46, 0, Bool.true, "", "", 0⟩) := by kernel_rfl
@[go_sem] theorem ty_field55_1 : tfield Tryd.prog 55 1 = (Option.some ⟨"hidden", 54, 2, Bool.false, "", "licit/expand", 24⟩) := by kernel_rfl
@[go_sem] theorem ty_build55 (parts : List (Nat × AV)) : abuild Tryd.prog 55 parts = (setCells [(Go.Ab.AV.data (Go.Ab.D.int Go.IntKind.i64 0)), (Go.Ab.AV.data (Go.Ab.D.str [])), (Go.Ab.AV.data (Go.Ab.D.map [] []))] ([(0, 2), (2, 1)][·]?) parts).map mkAgg := abuild_of (z := (Go.Value.agg #[(Go.Value.int Go.IntKind.i64 0), (Go.Value.string ⟨#[]⟩), (Go.Value.map Option.none)])) (by kernel_rfl) (by kernel_rfl) (by kernel_rfl)
@[go_sem] theorem ty_size56 : tsize Tryd.prog 56 = (Option.some 3) := by kernel_rfl
@[go_sem] theorem ty_bytes56 : tbytes Tryd.prog 56 = (Option.some 32) := by kernel_rfl
@[go_sem] theorem ty_zero56 : tzero Tryd.prog 56 = (Option.some (Go.Value.agg #[(Go.Value.int Go.IntKind.i64 0), (Go.Value.string ⟨#[]⟩), (Go.Value.map Option.none)])) := by kernel_rfl
@[go_sem] theorem ty_agg56 : tagg Tryd.prog 56 = (Option.some Bool.true) := by kernel_rfl
@[go_sem] theorem ty_field56_0 : tfield Tryd.prog 56 0 = (Option.some ⟨"Token", 46, 0, Bool.true, "", "", 0⟩) := by kernel_rfl
@[go_sem] theorem ty_field56_1 : tfield Tryd.prog 56 1 = (Option.some ⟨"hidden", 54, 2, Bool.false, "", "licit/expand", 24⟩) := by kernel_rfl
@[go_sem] theorem ty_build56 (parts : List (Nat × AV)) : abuild Tryd.prog 56 parts = (setCells [(Go.Ab.AV.data (Go.Ab.D.int Go.IntKind.i64 0)), (Go.Ab.AV.data (Go.Ab.D.str [])), (Go.Ab.AV.data (Go.Ab.D.map [] []))] ([(0, 2), (2, 1)][·]?) parts).map mkAgg := abuild_of (z := (Go.Value.agg #[(Go.Value.int Go.IntKind.i64 0), (Go.Value.string ⟨#[]⟩), (Go.Value.map Option.none)])) (by kernel_rfl) (by kernel_rfl) (by kernel_rfl)
@[go_sem] theorem ty_size67 : tsize Tryd.prog 67 = (Option.some 1) := by kernel_rfl
@[go_sem] theorem ty_bytes67 : tbytes Tryd.prog 67 = (Option.some 8) := by kernel_rfl
@[go_sem] theorem ty_zero67 : tzero Tryd.prog 67 = (Option.some Go.Value.nilFunc) := by kernel_rfl
@[go_sem] theorem ty_agg67 : tagg Tryd.prog 67 = (Option.some Bool.false) := by kernel_rfl
@[go_sem] theorem ty_und67 : Program.underlying Tryd.prog 67 = (Option.some (Go.TypeDesc.func #[35] #[4] Bool.false)) := by kernel_rfl
@[go_sem] theorem ty_elem67 : telem Tryd.prog 67 = Option.none := by kernel_rfl
@[go_sem] theorem ty_size68 : tsize Tryd.prog 68 = (Option.some 1) := by kernel_rfl
@[go_sem] theorem ty_bytes68 : tbytes Tryd.prog 68 = (Option.some 24) := by kernel_rfl
@[go_sem] theorem ty_zero68 : tzero Tryd.prog 68 = (Option.some (Go.Value.slice Option.none 0 0)) := by kernel_rfl
@[go_sem] theorem ty_agg68 : tagg Tryd.prog 68 = (Option.some Bool.false) := by kernel_rfl
@[go_sem] theorem ty_und68 : Program.underlying Tryd.prog 68 = (Option.some (Go.TypeDesc.slice 53)) := by kernel_rfl
@[go_sem] theorem ty_elem68 : telem Tryd.prog 68 = (Option.some 53) := by kernel_rfl
@[go_sem] theorem ty_size77 : tsize Tryd.prog 77 = (Option.some 1) := by kernel_rfl
@[go_sem] theorem ty_bytes77 : tbytes Tryd.prog 77 = (Option.some 8) := by kernel_rfl
@[go_sem] theorem ty_zero77 : tzero Tryd.prog 77 = (Option.some Go.Value.nilFunc) := by kernel_rfl
@[go_sem] theorem ty_agg77 : tagg Tryd.prog 77 = (Option.some Bool.false) := by kernel_rfl
@[go_sem] theorem ty_und77 : Program.underlying Tryd.prog 77 = (Option.some (Go.TypeDesc.func #[33] #[4] Bool.false)) := by kernel_rfl
@[go_sem] theorem ty_elem77 : telem Tryd.prog 77 = Option.none := by kernel_rfl
@[go_sem] theorem ty_size82 : tsize Tryd.prog 82 = (Option.some 1) := by kernel_rfl
@[go_sem] theorem ty_bytes82 : tbytes Tryd.prog 82 = (Option.some 8) := by kernel_rfl
@[go_sem] theorem ty_zero82 : tzero Tryd.prog 82 = (Option.some Go.Value.nilFunc) := by kernel_rfl
@[go_sem] theorem ty_agg82 : tagg Tryd.prog 82 = (Option.some Bool.false) := by kernel_rfl
@[go_sem] theorem ty_und82 : Program.underlying Tryd.prog 82 = (Option.some (Go.TypeDesc.func #[33, 33] #[3] Bool.false)) := by kernel_rfl
@[go_sem] theorem ty_elem82 : telem Tryd.prog 82 = Option.none := by kernel_rfl
@[go_sem] theorem ty_size85 : tsize Tryd.prog 85 = (Option.some 1) := by kernel_rfl
@[go_sem] theorem ty_bytes85 : tbytes Tryd.prog 85 = (Option.some 8) := by kernel_rfl
@[go_sem] theorem ty_zero85 : tzero Tryd.prog 85 = (Option.some (Go.Value.pointer Option.none)) := by kernel_rfl
@[go_sem] theorem ty_agg85 : tagg Tryd.prog 85 = (Option.some Bool.false) := by kernel_rfl
@[go_sem] theorem ty_und85 : Program.underlying Tryd.prog 85 = (Option.some (Go.TypeDesc.pointer 87)) := by kernel_rfl
@[go_sem] theorem ty_elem85 : telem Tryd.prog 85 = Option.none := by kernel_rfl
@[go_sem] theorem ty_size86 : tsize Tryd.prog 86 = (Option.some 2) := by kernel_rfl
@[go_sem] theorem ty_bytes86 : tbytes Tryd.prog 86 = (Option.some 32) := by kernel_rfl
@[go_sem] theorem ty_zero86 : tzero Tryd.prog 86 = (Option.some (Go.Value.agg #[(Go.Value.pointer Option.none), (Go.Value.slice Option.none 0 0)])) := by kernel_rfl
@[go_sem] theorem ty_agg86 : tagg Tryd.prog 86 = (Option.some Bool.true) := by kernel_rfl
@[go_sem] theorem ty_field86_0 : tfield Tryd.prog 86 0 = (Option.some ⟨"addr", 85, 0, Bool.false, "", "strings", 0⟩) := by kernel_rfl
@[go_sem] theorem ty_field86_1 : tfield Tryd.prog 86 1 = (Option.some ⟨"buf", 22, 1, Bool.false, "", "strings", 8⟩) := by kernel_rfl
@[go_sem] theorem ty_build86 (parts : List (Nat × AV)) : abuild Tryd.prog 86 parts = (setCells [(Go.Ab.AV.data Go.Ab.D.nilp), Go.Ab.AV.nils] ([(0, 1), (1, 1)][·]?) parts).map mkAgg := abuild_of (z := (Go.Value.agg #[(Go.Value.pointer Option.none), (Go.Value.slice Option.none 0 0)])) (by kernel_rfl) (by kernel_rfl) (by kernel_rfl)
@[go_sem] theorem ty_size87 : tsize Tryd.prog 87 = (Option.some 2) := by kernel_rfl
@[go_sem] theorem ty_bytes87 : tbytes Tryd.prog 87 = (Option.some 32) := by kernel_rfl
@[go_sem] theorem ty_zero87 : tzero Tryd.prog 87 = (Option.some (Go.Value.agg #[(Go.Value.pointer Option.none), (Go.Value.slice Option.none 0 0)])) := by kernel_rfl
@[go_sem] theorem ty_agg87 : tagg Tryd.prog 87 = (Option.some Bool.true) := by kernel_rfl
@[go_sem] theorem ty_field87_0 : tfield Tryd.prog 87 0 = (Option.some ⟨"addr", 85, 0, Bool.false, "", "strings", 0⟩) := by kernel_rfl
@[go_sem] theorem ty_field87_1 : tfield Tryd.prog 87 1 = (Option.some ⟨"buf", 22, 1, Bool.false, "", "strings", 8⟩) := by kernel_rfl
@[go_sem] theorem ty_build87 (parts : List (Nat × AV)) : abuild Tryd.prog 87 parts = (setCells [(Go.Ab.AV.data Go.Ab.D.nilp), Go.Ab.AV.nils] ([(0, 1), (1, 1)][·]?) parts).map mkAgg := abuild_of (z := (Go.Value.agg #[(Go.Value.pointer Option.none), (Go.Value.slice Option.none 0 0)])) (by kernel_rfl) (by kernel_rfl) (by kernel_rfl)
@[go_sem] theorem ty_size99 : tsize Tryd.prog 99 = (Option.some 1) := by kernel_rfl
@[go_sem] theorem ty_bytes99 : tbytes Tryd.prog 99 = (Option.some 24) := by kernel_rfl
@[go_sem] theorem ty_zero99 : tzero Tryd.prog 99 = (Option.some (Go.Value.slice Option.none 0 0)) := by kernel_rfl
@[go_sem] theorem ty_agg99 : tagg Tryd.prog 99 = (Option.some Bool.false) := by kernel_rfl
@[go_sem] theorem ty_und99 : Program.underlying Tryd.prog 99 = (Option.some (Go.TypeDesc.slice 54)) := by kernel_rfl
@[go_sem] theorem ty_elem99 : telem Tryd.prog 99 = (Option.some 54) := by kernel_rfl
@[go_sem] theorem ty_size104 : tsize Tryd.prog 104 = (Option.some 1) := by kernel_rfl
@[go_sem] theorem ty_bytes104 : tbytes Tryd.prog 104 = (Option.some 8) := by kernel_rfl
@[go_sem] theorem ty_zero104 : tzero Tryd.prog 104 = (Option.some (Go.Value.int Go.IntKind.u64 0)) := by kernel_rfl
@[go_sem] theorem ty_agg104 : tagg Tryd.prog 104 = (Option.some Bool.false) := by kernel_rfl
@[go_sem] theorem ty_und104 : Program.underlying Tryd.prog 104 = (Option.some (Go.TypeDesc.int Go.IntKind.u64)) := by kernel_rfl
@[go_sem] theorem ty_elem104 : telem Tryd.prog 104 = Option.none := by kernel_rfl
@[go_sem] theorem ty_size105 : tsize Tryd.prog 105 = (Option.some 1) := by kernel_rfl
@[go_sem] theorem ty_bytes105 : tbytes Tryd.prog 105 = (Option.some 24) := by kernel_rfl
@[go_sem] theorem ty_zero105 : tzero Tryd.prog 105 = (Option.some (Go.Value.slice Option.none 0 0)) := by kernel_rfl
@[go_sem] theorem ty_agg105 : tagg Tryd.prog 105 = (Option.some Bool.false) := by kernel_rfl
@[go_sem] theorem ty_und105 : Program.underlying Tryd.prog 105 = (Option.some (Go.TypeDesc.slice 3)) := by kernel_rfl
@[go_sem] theorem ty_elem105 : telem Tryd.prog 105 = (Option.some 3) := by kernel_rfl
@[go_sem] theorem ty_size108 : tsize Tryd.prog 108 = (Option.some 1) := by kernel_rfl
@[go_sem] theorem ty_bytes108 : tbytes Tryd.prog 108 = (Option.some 4) := by kernel_rfl
@[go_sem] theorem ty_zero108 : tzero Tryd.prog 108 = (Option.some (Go.Value.int Go.IntKind.u32 0)) := by kernel_rfl
@[go_sem] theorem ty_agg108 : tagg Tryd.prog 108 = (Option.some Bool.false) := by kernel_rfl
@[go_sem] theorem ty_und108 : Program.underlying Tryd.prog 108 = (Option.some (Go.TypeDesc.int Go.IntKind.u32)) := by kernel_rfl
@[go_sem] theorem ty_elem108 : telem Tryd.prog 108 = Option.none := by kernel_rfl
@[go_sem] theorem ty_size112 : tsize Tryd.prog 112 = (Option.some 1) := by kernel_rfl
@[go_sem] theorem ty_bytes112 : tbytes Tryd.prog 112 = (Option.some 8) := by kernel_rfl
@[go_sem] theorem ty_zero112 : tzero Tryd.prog 112 = (Option.some Go.Value.nilFunc) := by kernel_rfl
@[go_sem] theorem ty_agg112 : tagg Tryd.prog 112 = (Option.some Bool.false) := by kernel_rfl
@[go_sem] theorem ty_und112 : Program.underlying Tryd.prog 112 = (Option.some (Go.TypeDesc.func #[21] #[4] Bool.false)) := by kernel_rfl
@[go_sem] theorem ty_elem112 : telem Tryd.prog 112 = Option.none := by kernel_rfl
@[go_sem] theorem ty_size119 : tsize Tryd.prog 119 = (Option.some 1) := by kernel_rfl
@[go_sem] theorem ty_bytes119 : tbytes Tryd.prog 119 = (Option.some 8) := by kernel_rfl
@[go_sem] theorem ty_zero119 : tzero Tryd.prog 119 = (Option.some (Go.Value.int Go.IntKind.i64 0)) := by kernel_rfl
@[go_sem] theorem ty_agg119 : tagg Tryd.prog 119 = (Option.some Bool.false) := by kernel_rfl
@[go_sem] theorem ty_und119 : Program.underlying Tryd.prog 119 = (Option.some (Go.TypeDesc.int Go.IntKind.i64)) := by kernel_rfl
@[go_sem] theorem ty_elem119 : telem Tryd.prog 119 = Option.none := by kernel_rfl
@[go_sem] theorem ty_size128 : tsize Tryd.prog 128 = (Option.some 1) := by kernel_rfl
@[go_sem] theorem ty_bytes128 : tbytes Tryd.prog 128 = (Option.some 8) := by kernel_rfl
@[go_sem] theorem ty_zero128 : tzero Tryd.prog 128 = (Option.some (Go.Value.int Go.IntKind.u64 0)) := by kernel_rfl
@[go_sem] theorem ty_agg128 : tagg Tryd.prog 128 = (Option.some Bool.false) := by kernel_rfl
@[go_sem] theorem ty_und128 : Program.underlying Tryd.prog 128 = (Option.some (Go.TypeDesc.int Go.IntKind.u64)) := by kernel_rfl
@[go_sem] theorem ty_elem128 : telem Tryd.prog 128 = Option.none := by kernel_rfl
@[go_sem] theorem ty_size135 : tsize Tryd.prog 135 = (Option.some 1) := by kernel_rfl
@[go_sem] theorem ty_bytes135 : tbytes Tryd.prog 135 = (Option.some 8) := by kernel_rfl
@[go_sem] theorem ty_zero135 : tzero Tryd.prog 135 = (Option.some Go.Value.nilFunc) := by kernel_rfl
@[go_sem] theorem ty_agg135 : tagg Tryd.prog 135 = (Option.some Bool.false) := by kernel_rfl
@[go_sem] theorem ty_und135 : Program.underlying Tryd.prog 135 = (Option.some (Go.TypeDesc.func #[42] #[4] Bool.false)) := by kernel_rfl
@[go_sem] theorem ty_elem135 : telem Tryd.prog 135 = Option.none := by kernel_rfl
@[go_sem] theorem ty_size138 : tsize Tryd.prog 138 = (Option.some 1) := by kernel_rfl
@[go_sem] theorem ty_bytes138 : tbytes Tryd.prog 138 = (Option.some 8) := by kernel_rfl
@[go_sem] theorem ty_zero138 : tzero Tryd.prog 138 = (Option.some (Go.Value.int Go.IntKind.u64 0)) := by kernel_rfl
@[go_sem] theorem ty_agg138 : tagg Tryd.prog 138 = (Option.some Bool.false) := by kernel_rfl
@[go_sem] theorem ty_und138 : Program.underlying Tryd.prog 138 = (Option.some (Go.TypeDesc.int Go.IntKind.u64)) := by kernel_rfl
@[go_sem] theorem ty_elem138 : telem Tryd.prog 138 = Option.none := by kernel_rfl
@[go_sem] theorem ty_size142 : tsize Tryd.prog 142 = (Option.some 1) := by kernel_rfl
@[go_sem] theorem ty_bytes142 : tbytes Tryd.prog 142 = (Option.some 8) := by kernel_rfl
@[go_sem] theorem ty_zero142 : tzero Tryd.prog 142 = (Option.some (Go.Value.pointer Option.none)) := by kernel_rfl
@[go_sem] theorem ty_agg142 : tagg Tryd.prog 142 = (Option.some Bool.false) := by kernel_rfl
@[go_sem] theorem ty_und142 : Program.underlying Tryd.prog 142 = (Option.some (Go.TypeDesc.pointer 3)) := by kernel_rfl
@[go_sem] theorem ty_elem142 : telem Tryd.prog 142 = Option.none := by kernel_rfl
@[go_sem] theorem ty_size171 : tsize Tryd.prog 171 = (Option.some 7) := by kernel_rfl
@[go_sem] theorem ty_bytes171 : tbytes Tryd.prog 171 = (Option.some 88) := by kernel_rfl
@[go_sem] theorem ty_zero171 : tzero Tryd.prog 171 = (Option.some (Go.Value.agg #[(Go.Value.string ⟨#[]⟩), (Go.Value.int Go.IntKind.i64 0), (Go.Value.int Go.IntKind.i64 0), (Go.Value.slice Option.none 0 0), (Go.Value.string ⟨#[]⟩), (Go.Value.int Go.IntKind.i64 0), (Go.Value.int Go.IntKind.i64 0)])) := by kernel_rfl
@[go_sem] theorem ty_agg171 : tagg Tryd.prog 171 = (Option.some Bool.true) := by kernel_rfl
@[go_sem] theorem ty_field171_0 : tfield Tryd.prog 171 0 = (Option.some ⟨"Name", 9, 0, Bool.false, "", "", 0⟩) := by kernel_rfl
@[go_sem] theorem ty_field171_1 : tfield Tryd.prog 171 1 = (Option.some ⟨"Kind", 3, 1, Bool.false, "", "", 16⟩) := by kernel_rfl
@[go_sem] theorem ty_field171_2 : tfield Tryd.prog 171 2 = (Option.some ⟨"Mode", 3, 2, Bool.false, "", "", 24⟩) := by kernel_rfl
@[go_sem] theorem ty_field171_3 : tfield Tryd.prog 171 3 = (Option.some ⟨"Params", 24, 3, Bool.false, "", "", 32⟩) := by kernel_rfl
@[go_sem] theorem ty_field171_4 : tfield Tryd.prog 171 4 = (Option.some ⟨"Body", 33, 4, Bool.false, "", "", 56⟩) := by kernel_rfl
@[go_sem] theorem ty_build171 (parts : List (Nat × AV)) : abuild Tryd.prog 171 parts = (setCells [(Go.Ab.AV.data (Go.Ab.D.str [])), (Go.Ab.AV.data (Go.Ab.D.int Go.IntKind.i64 0)), (Go.Ab.AV.data (Go.Ab.D.int Go.IntKind.i64 0)), Go.Ab.AV.nils, (Go.Ab.AV.data (Go.Ab.D.str [])), (Go.Ab.AV.data (Go.Ab.D.int Go.IntKind.i64 0)), (Go.Ab.AV.data (Go.Ab.D.int Go.IntKind.i64 0))] ([(0, 1), (1, 1), (2, 1), (3, 1), (4, 3)][·]?) parts).map mkAgg := abuild_of (z := (Go.Value.agg #[(Go.Value.string ⟨#[]⟩), (Go.Value.int Go.IntKind.i64 0), (Go.Value.int Go.IntKind.i64 0), (Go.Value.slice Option.none 0 0), (Go.Value.string ⟨#[]⟩), (Go.Value.int Go.IntKind.i64 0), (Go.Value.int Go.IntKind.i64 0)])) (by kernel_rfl) (by kernel_rfl) (by kernel_rfl)
@[go_sem] theorem ty_size172 : tsize Tryd.prog 172 = (Option.some 7) := by kernel_rfl
@[go_sem] theorem ty_bytes172 : tbytes Tryd.prog 172 = (Option.some 88) := by kernel_rfl
@[go_sem] theorem ty_zero172 : tzero Tryd.prog 172 = (Option.some (Go.Value.agg #[(Go.Value.string ⟨#[]⟩), (Go.Value.int Go.IntKind.i64 0), (Go.Value.int Go.IntKind.i64 0), (Go.Value.slice Option.none 0 0), (Go.Value.string ⟨#[]⟩), (Go.Value.int Go.IntKind.i64 0), (Go.Value.int Go.IntKind.i64 0)])) := by kernel_rfl
@[go_sem] theorem ty_agg172 : tagg Tryd.prog 172 = (Option.some Bool.true) := by kernel_rfl
@[go_sem] theorem ty_field172_0 : tfield Tryd.prog 172 0 = (Option.some ⟨"Name", 9, 0, Bool.false, "", "", 0⟩) := by kernel_rfl
@[go_sem] theorem ty_field172_1 : tfield Tryd.prog 172 1 = (Option.some ⟨"Kind", 3, 1, Bool.false, "", "", 16⟩) := by kernel_rfl
@[go_sem] theorem ty_field172_2 : tfield Tryd.prog 172 2 = (Option.some ⟨"Mode", 3, 2, Bool.false, "", "", 24⟩) := by kernel_rfl
@[go_sem] theorem ty_field172_3 : tfield Tryd.prog 172 3 = (Option.some ⟨"Params", 24, 3, Bool.false, "", "", 32⟩) := by kernel_rfl
@[go_sem] theorem ty_field172_4 : tfield Tryd.prog 172 4 = (Option.some ⟨"Body", 33, 4, Bool.false, "", "", 56⟩) := by kernel_rfl
@[go_sem] theorem ty_build172 (parts : List (Nat × AV)) : abuild Tryd.prog 172 parts = (setCells [(Go.Ab.AV.data (Go.Ab.D.str [])), (Go.Ab.AV.data (Go.Ab.D.int Go.IntKind.i64 0)), (Go.Ab.AV.data (Go.Ab.D.int Go.IntKind.i64 0)), Go.Ab.AV.nils, (Go.Ab.AV.data (Go.Ab.D.str [])), (Go.Ab.AV.data (Go.Ab.D.int Go.IntKind.i64 0)), (Go.Ab.AV.data (Go.Ab.D.int Go.IntKind.i64 0))] ([(0, 1), (1, 1), (2, 1), (3, 1), (4, 3)][·]?) parts).map mkAgg := abuild_of (z := (Go.Value.agg #[(Go.Value.string ⟨#[]⟩), (Go.Value.int Go.IntKind.i64 0), (Go.Value.int Go.IntKind.i64 0), (Go.Value.slice Option.none 0 0), (Go.Value.string ⟨#[]⟩), (Go.Value.int Go.IntKind.i64 0), (Go.Value.int Go.IntKind.i64 0)])) (by kernel_rfl) (by kernel_rfl) (by kernel_rfl)
end Go.Ab
namespace Go.Ab
open Go Go.RowKit Go.Proofs
set_option maxRecDepth 4000
set_option maxHeartbeats 1000000
theorem mixedOK : Tryd.prog.follows .mixedOrders = true := by kernel_rfl
@[go_sem] abbrev i64 (n : Int) : D := .int .i64 n
@[go_sem] abbrev u8 (n : Int) : D := .int .u8 n
abbrev ints (l : List Int) : D := .list (l.map i64)
def Γ0 : FuncId → Option CSpec := fun _ => none
theorem Γ0_ok : ∀ f s, Γ0 f = some s → SpecOK Tryd.prog f s := fun _ _ h => by cases h
def Γl : List (FuncId × CSpec) → FuncId → Option CSpec
  | [], _ => none
  | (k, s) :: r, f => if f = k then some s else Γl r f
attribute [go_sem] Γl
theorem Γn : ∀ f s, Γl [] f = some s → SpecOK Tryd.prog f s := fun _ _ h => by cases h
theorem Γcons {k : FuncId} {s : CSpec} {r : List (FuncId × CSpec)} (h : SpecOK Tryd.prog k s) (hr : ∀ f s, Γl r f = some s → SpecOK Tryd.prog f s) : ∀ f s', Γl ((k, s) :: r) f = some s' → SpecOK Tryd.prog f s' := fun f s' hf => by
  simp only [Γl] at hf
  split at hf
  · rename_i hk; subst hk; cases hf; exact h
  · exact hr f s' hf
theorem Γp {k : FuncId} {fl : Bool} {g : List D → Option D} {r : List (FuncId × CSpec)} (h : PureOK Tryd.prog k fl g) (hr : ∀ f s, Γl r f = some s → SpecOK Tryd.prog f s) : ∀ f s', Γl ((k, .pure fl g) :: r) f = some s' → SpecOK Tryd.prog f s' := Γcons h hr
theorem Γo {k : FuncId} {g : List D → Option (TypeId × Nat × List D)} {r : List (FuncId × CSpec)} (h : OwnOK Tryd.prog k g) (hr : ∀ f s, Γl r f = some s → SpecOK Tryd.prog f s) : ∀ f s', Γl ((k, .own g) :: r) f = some s' → SpecOK Tryd.prog f s' := Γcons h hr
theorem Γq {k : FuncId} {g : List AV → List Obj → Option (AV × List Obj)} {r : List (FuncId × CSpec)} (h : LocOK Tryd.prog k g) (hr : ∀ f s, Γl r f = some s → SpecOK Tryd.prog f s) : ∀ f s', Γl ((k, .loc g) :: r) f = some s' → SpecOK Tryd.prog f s' := Γcons h hr
@[go_sem] theorem dec_true {h : Decidable True} : @decide True h = true := by simp
theorem map_ie {α : Type} {e : α → D} (he : ∀ a b, e a = e b → a = b) (l m : List α) : (l.map e = m.map e) = (l = m) := propext ⟨fun h => List.map_inj_right he |>.1 h, fun h => by rw [h]⟩
theorem strs_ie (a b : List (List UInt8)) : (a.map D.str = b.map D.str) = (a = b) := map_ie (fun x y h => by simpa using h) a b
theorem inj_ie (a b : List (List UInt8)) : (a.map D.str = b.map D.str) = (a = b) := strs_ie a b
abbrev Bs := List UInt8
@[go_sem] theorem elemsOK_str (l : List (List UInt8)) : elemsOK 1 (l.map D.str) = true := elemsOK_map (f := D.str) (fun _ => ⟨by rfl, by rfl⟩) l
end Go.Ab
namespace Go.Ab
open Go Go.RowKit Go.Proofs
set_option maxRecDepth 10000
set_option maxHeartbeats 8000000
def idx {α : Type} (p : α → Bool) (l : List α) : Int := match l.findIdx? p with
  | some i => i
  | none => -1
theorem idx_at {α : Type} {p : α → Bool} {l : List α} {i : Nat} (hi : i < l.length) (hp : p l[i] = true) (hb : (l.take i).any p = false) : idx p l = i := by
  have h : l.findIdx? p = some i := by
    rw [List.findIdx?_eq_some_iff_getElem]
    refine ⟨hi, hp, fun j hj => ?_⟩
    have hm : l[j] ∈ l.take i := List.mem_take_iff_getElem.2 ⟨j, by omega, rfl⟩
    simpa using List.any_eq_false.1 hb _ hm
  simp only [idx, h]
theorem idx_none {α : Type} {p : α → Bool} {l : List α} (hb : l.any p = false) : idx p l = -1 := by
  have h : l.findIdx? p = none := by
    rw [List.findIdx?_eq_none_iff]
    intro x hx
    simpa using List.any_eq_false.1 hb x hx
  simp only [idx, h]
noncomputable def Γc (b : Bool) (f : FuncId) (g : List D → Option D) : FuncId → Option CSpec := fun f' => if f' = f then some (.pure b g) else none
theorem Γc_ok {b : Bool} {f : FuncId} {g : List D → Option D} (h : PureOK Tryd.prog f b g) : ∀ f' s, Γc b f g f' = some s → SpecOK Tryd.prog f' s := by
  intro f' s hs
  unfold Γc at hs
  split at hs
  · rename_i e; subst e; cases hs; exact h
  · cases hs
noncomputable def gIdxD {α : Type} (e : α → D) (dm : α → Prop) (f : FuncId) (caps : List D) (p : α → Bool) : List D → Option D := encSpec (fun l : List α => [.list (l.map e), .clo f caps]) (fun l => l.length ≤ 1099511627776 ∧ ∀ x ∈ l, dm x) (fun l => i64 (idx p l))
theorem gIdxD_eq {α : Type} {e : α → D} {dm : α → Prop} (he : ∀ a b, e a = e b → a = b) {f : FuncId} {caps : List D} {p : α → Bool} {l : List α} (h : l.length ≤ 1099511627776) (hd : ∀ x ∈ l, dm x) : gIdxD e dm f caps p [.list (l.map e), .clo f caps] = some (.int .i64 (idx p l)) :=
  encSpec_eq (x := l) ⟨h, hd⟩ fun y hy => by
    simp only [List.cons.injEq, D.list.injEq, and_true] at hy
    rw [List.map_inj_right he |>.1 hy]
theorem freeze_data (H : Heap) : ∀ l : List D, freeze H (l.map AV.data) = some H
  | [] => rfl
  | d :: l => by
    have ih := freeze_data H l
    rw [List.map_cons]
    cases d <;> first | exact ih | (unfold freeze; exact ih) | (simp [freeze, AV.closed, ih])
theorem str_inj' (a b : Bs) (h : D.str a = D.str b) : a = b := by cases h; rfl
end Go.Ab
namespace Go.Ab
open Go Go.RowKit Go.Proofs
set_option maxRecDepth 10000
set_option maxHeartbeats 4000000
def cons1 (p : Bs) : List Bs → List Bs
  | [] => [p]
  | w :: r => (p ++ w) :: r
def splitB (c : UInt8) : Bs → List Bs
  | [] => [[]]
  | x :: r => if x == c then [] :: splitB c r else cons1 [x] (splitB c r)
theorem cons1_ne (p : Bs) (l : List Bs) : cons1 p l ≠ [] := by cases l <;> simp [cons1]
theorem splitB_ne (c : UInt8) (s : Bs) : splitB c s ≠ [] := by
  cases s with
  | nil => simp [splitB]
  | cons x r => rw [splitB]; split <;> simp [cons1_ne]
theorem cons1_len {p : Bs} {l : List Bs} (h : l ≠ []) : (cons1 p l).length = l.length := by cases l with
  | nil => exact absurd rfl h
  | cons x r => rfl
theorem splitB_mem_len (c : UInt8) (s : Bs) : ∀ w ∈ splitB c s, w.length ≤ s.length := by
  induction s with
  | nil => intro w hw; simp [splitB] at hw; simp [hw]
  | cons x r ih =>
    intro w hw
    rw [splitB] at hw
    split at hw
    · rcases List.mem_cons.1 hw with rfl | hw
      · simp
      · have := ih w hw; simp only [List.length_cons]; omega
    · cases hs : splitB c r with
      | nil => exact absurd hs (splitB_ne c r)
      | cons y l =>
        rw [hs] at hw ih
        rcases List.mem_cons.1 hw with rfl | hw
        · have := ih y (by simp); simp only [List.length_append, List.length_cons, List.length_nil]; omega
        · have := ih w (by simp [hw]); simp only [List.length_cons]; omega
theorem byteEq (a b : UInt8) : (((a.toNat : Nat) : Int) == ((b.toNat : Nat) : Int)) = (a == b) := by
  rw [Bool.eq_iff_iff]
  simp only [beq_iff_eq]
  exact ⟨fun h => UInt8.toNat_inj.1 (by omega), fun h => by rw [h]⟩
end Go.Ab
namespace Go.Ab
open Go Go.RowKit Go.Proofs
set_option maxRecDepth 10000
set_option maxHeartbeats 4000000
theorem any_next {α : Type} {p : α → Bool} {l : List α} {i : Nat} (hi : i < l.length) (hb : (l.take i).any p = false) (hp : p l[i] = false) : (l.take (i + 1)).any p = false := by
  rw [List.take_add_one, List.any_append, hb, List.getElem?_eq_getElem hi]
  simp [hp]
def linesE (s : Bs) : List Bs × Int := if decide ((s.length : Int) > 65536) then ([], 10) else if decide (((splitB 10 s).length : Int) > 1024) then ([], 10) else (splitB 10 s, 0)
def eLs (p : List Bs × Int) : D := .tup [.list (p.1.map .str), i64 p.2]
end Go.Ab
namespace Go.Ab
open Go Go.RowKit Go.Proofs
set_option maxRecDepth 10000
set_option maxHeartbeats 4000000
def lettI (c : Int) : Bool := (decide (c ≥ 97) && decide (c ≤ 122)) || c == 95
def digI (c : Int) : Bool := decide (c ≥ 48) && decide (c ≤ 57)
noncomputable def g_letR : List D → Option D := encSpec (fun x : Int => [u8 x]) (fun x : Int => True) (fun x : Int => .bool (lettI x))
theorem g_letR_eq {c : Int} (hd : True) : g_letR [.int .u8 c] = some (.bool (lettI c)) := encSpec_eq (x := c) hd fun y hy => by
    simp only [List.cons.injEq, and_true, true_and, D.str.injEq, D.int.injEq, D.list.injEq, D.bool.injEq, D.agg.injEq, D.clo.injEq, Int.natCast_inj, inj_ie, UInt8.toNat_inj] at hy
    rw [hy]
theorem f_letR_ok : PureOK Tryd.prog 47 true g_letR := by
  have hΓ := Γ0_ok
  refine pure_enc (n := 13) (rs := [.tmp 2]) Tryd.func47 (by kernel_rfl) rfl (by kernel_rfl) (by kernel_rfl) ?_
  rintro c hd
  (try dsimp only at hd ⊢)
  refine ⟨fun _ => by (repeat (first | exact .int _ _ | exact .bool _ | exact .str _ | (refine .tup _ (fun d hd => ?_); simp only [List.mem_cons, List.not_mem_nil, or_false] at hd; rcases hd with rfl | hd))), fun k hz0 => ?_⟩
  unfold lettI
  generalize hc1 : decide (c ≥ 97) = c1
  generalize hc2 : decide (c ≤ 122) = c2
  generalize hc3 : (c == 95) = c3
  rw [start_frame (by simp)]; simp only [enumV, go_sem, emptyH]
  (first | (((repeat (first | (apply axJ; (focus ((with_reducible constructor) <;> rfl))) | (apply awT mixedOK hΓ (by kernel_rfl); (simp (disch := omega) only [go_sem, ↓reduceIte, dk, ↓lk, hc1, hc2, hc3] <;> with_reducible rfl)) | ((first | apply awR hΓ | apply awG | apply awH mixedOK hΓ rfl (by kernel_rfl) | apply ovE rfl); (simp (disch := omega) only [go_sem, ↓reduceIte, dk, ↓lk, hc1, hc2, hc3] <;> with_reducible rfl); exact trivial) | rfl)); (first | done | rfl)); done) | (cases c1 <;> (first | (((repeat (first | (apply axJ; (focus ((with_reducible constructor) <;> rfl))) | (apply awT mixedOK hΓ (by kernel_rfl); (simp (disch := omega) only [go_sem, ↓reduceIte, dk, ↓lk, hc1, hc2, hc3] <;> with_reducible rfl)) | ((first | apply awR hΓ | apply awG | apply awH mixedOK hΓ rfl (by kernel_rfl) | apply ovE rfl); (simp (disch := omega) only [go_sem, ↓reduceIte, dk, ↓lk, hc1, hc2, hc3] <;> with_reducible rfl); exact trivial) | rfl)); (first | done | rfl)); done) | (cases c2 <;> (first | (((repeat (first | (apply axJ; (focus ((with_reducible constructor) <;> rfl))) | (apply awT mixedOK hΓ (by kernel_rfl); (simp (disch := omega) only [go_sem, ↓reduceIte, dk, ↓lk, hc1, hc2, hc3] <;> with_reducible rfl)) | ((first | apply awR hΓ | apply awG | apply awH mixedOK hΓ rfl (by kernel_rfl) | apply ovE rfl); (simp (disch := omega) only [go_sem, ↓reduceIte, dk, ↓lk, hc1, hc2, hc3] <;> with_reducible rfl); exact trivial) | rfl)); (first | done | rfl)); done) | (cases c3 <;> (first | (((repeat (first | (apply axJ; (focus ((with_reducible constructor) <;> rfl))) | (apply awT mixedOK hΓ (by kernel_rfl); (simp (disch := omega) only [go_sem, ↓reduceIte, dk, ↓lk, hc1, hc2, hc3] <;> with_reducible rfl)) | ((first | apply awR hΓ | apply awG | apply awH mixedOK hΓ rfl (by kernel_rfl) | apply ovE rfl); (simp (disch := omega) only [go_sem, ↓reduceIte, dk, ↓lk, hc1, hc2, hc3] <;> with_reducible rfl); exact trivial) | rfl)); (first | done | rfl)); done))))))))
noncomputable def g_digR : List D → Option D := encSpec (fun x : Int => [u8 x]) (fun x : Int => True) (fun x : Int => .bool (digI x))
theorem g_digR_eq {c : Int} (hd : True) : g_digR [.int .u8 c] = some (.bool (digI c)) := encSpec_eq (x := c) hd fun y hy => by
    simp only [List.cons.injEq, and_true, true_and, D.str.injEq, D.int.injEq, D.list.injEq, D.bool.injEq, D.agg.injEq, D.clo.injEq, Int.natCast_inj, inj_ie, UInt8.toNat_inj] at hy
    rw [hy]
theorem f_digR_ok : PureOK Tryd.prog 48 true g_digR := by
  have hΓ := Γ0_ok
  refine pure_enc (n := 9) (rs := [.tmp 2]) Tryd.func48 (by kernel_rfl) rfl (by kernel_rfl) (by kernel_rfl) ?_
  rintro c hd
  (try dsimp only at hd ⊢)
  refine ⟨fun _ => by (repeat (first | exact .int _ _ | exact .bool _ | exact .str _ | (refine .tup _ (fun d hd => ?_); simp only [List.mem_cons, List.not_mem_nil, or_false] at hd; rcases hd with rfl | hd))), fun k hz0 => ?_⟩
  unfold digI
  generalize hc1 : decide (c ≥ 48) = c1
  generalize hc2 : decide (c ≤ 57) = c2
  rw [start_frame (by simp)]; simp only [enumV, go_sem, emptyH]
  (first | (((repeat (first | (apply axJ; (focus ((with_reducible constructor) <;> rfl))) | (apply awT mixedOK hΓ (by kernel_rfl); (simp (disch := omega) only [go_sem, ↓reduceIte, dk, ↓lk, hc1, hc2] <;> with_reducible rfl)) | ((first | apply awR hΓ | apply awG | apply awH mixedOK hΓ rfl (by kernel_rfl) | apply ovE rfl); (simp (disch := omega) only [go_sem, ↓reduceIte, dk, ↓lk, hc1, hc2] <;> with_reducible rfl); exact trivial) | rfl)); (first | done | rfl)); done) | (cases c1 <;> (first | (((repeat (first | (apply axJ; (focus ((with_reducible constructor) <;> rfl))) | (apply awT mixedOK hΓ (by kernel_rfl); (simp (disch := omega) only [go_sem, ↓reduceIte, dk, ↓lk, hc1, hc2] <;> with_reducible rfl)) | ((first | apply awR hΓ | apply awG | apply awH mixedOK hΓ rfl (by kernel_rfl) | apply ovE rfl); (simp (disch := omega) only [go_sem, ↓reduceIte, dk, ↓lk, hc1, hc2] <;> with_reducible rfl); exact trivial) | rfl)); (first | done | rfl)); done) | (cases c2 <;> (first | (((repeat (first | (apply axJ; (focus ((with_reducible constructor) <;> rfl))) | (apply awT mixedOK hΓ (by kernel_rfl); (simp (disch := omega) only [go_sem, ↓reduceIte, dk, ↓lk, hc1, hc2] <;> with_reducible rfl)) | ((first | apply awR hΓ | apply awG | apply awH mixedOK hΓ rfl (by kernel_rfl) | apply ovE rfl); (simp (disch := omega) only [go_sem, ↓reduceIte, dk, ↓lk, hc1, hc2] <;> with_reducible rfl); exact trivial) | rfl)); (first | done | rfl)); done))))))
end Go.Ab
namespace Go.Ab
open Go Go.RowKit
theorem Weak.packd {b : Nat} {sl sl' : List AV} {H : Heap} {fp : List Nat} {objs os : List Obj} (hobj : getAll H fp = some objs) (hnd : nodupB fp = true) (hfst : ∀ i, i < b → fp[i]? = some i) (h1 : rens H (idxOf fp) sl = sl') (h2 : objs.map (renO H (idxOf fp)) = os) : Weak b sl H sl' ⟨enumO 0 os, os.length⟩ := by
  subst h1 h2
  rw [List.length_map]
  exact Weak.pack hobj hnd hfst
end Go.Ab
namespace Go.Ab
open Go Go.RowKit Go.Proofs
set_option maxRecDepth 10000
set_option maxHeartbeats 8000000
structure Gp where
  name : Bs
  words : List Bs
def eGp (g : Gp) : D := .agg [.str g.name, .list (g.words.map .str)]
end Go.Ab
namespace Go.Ab
open Go Go.RowKit Go.Proofs
set_option maxRecDepth 10000
set_option maxHeartbeats 8000000
@[go_sem] theorem elemsOK_gp (l : List Gp) : elemsOK 2 (l.map eGp) = true := elemsOK_map (f := eGp) (fun _ => ⟨by rfl, by rfl⟩) l
@[go_sem] theorem eGp_eq (g : Gp) : eGp g = .agg [.str g.name, .list (g.words.map .str)] := rfl
end Go.Ab
namespace Go.Ab
open Go Go.RowKit Go.Proofs
set_option maxRecDepth 10000
set_option maxHeartbeats 8000000
structure Stp where
  line : Int
  kind : Int
  inn : List Bs
  usg : List Bs
  wds : List Bs
  out : Bs
def eSt (x : Stp) : D := .agg [i64 x.line, i64 x.kind, .list (x.inn.map .str), .list (x.usg.map .str), .list (x.wds.map .str), .str x.out]
@[go_sem] theorem eSt_eq (x : Stp) : eSt x = .agg [.int .i64 x.line, .int .i64 x.kind, .list (x.inn.map .str), .list (x.usg.map .str), .list (x.wds.map .str), .str x.out] := rfl
@[go_sem] theorem elemsOK_st (l : List Stp) : elemsOK 6 (l.map eSt) = true := elemsOK_map (f := eSt) (fun _ => ⟨by rfl, by rfl⟩) l
structure StOK (x : Stp) : Prop where
  i : x.inn.length ≤ 1099511627776 ∧ ∀ w ∈ x.inn, w.length ≤ 1099511627776
  u : x.usg.length ≤ 1099511627776 ∧ ∀ w ∈ x.usg, w.length ≤ 1099511627776
  w : x.wds.length ≤ 1099511627776 ∧ ∀ w ∈ x.wds, w.length ≤ 1099511627776
  o : x.out.length ≤ 1099511627776
end Go.Ab
namespace Go.Ab
open Go Go.RowKit Go.Proofs
set_option maxRecDepth 10000
set_option maxHeartbeats 16000000
end Go.Ab
namespace Go.Ab
open Go Go.RowKit Go.Proofs
set_option maxRecDepth 10000
set_option maxHeartbeats 16000000
end Go.Ab
namespace Go.Ab
open Go Go.RowKit Go.Proofs
set_option maxRecDepth 10000
set_option maxHeartbeats 8000000
def WL (l : List Bs) : Prop := l.length ≤ 1099511627776 ∧ ∀ w ∈ l, w.length ≤ 1099511627776
end Go.Ab
namespace Go.Ab
open Go Go.RowKit Go.Proofs
set_option maxRecDepth 10000
set_option maxHeartbeats 8000000
theorem lines_bd (s : Bs) : (linesE s).1.length ≤ 1024 ∧ ∀ w ∈ (linesE s).1, w.length ≤ s.length := by
  unfold linesE
  split
  · exact ⟨by simp, fun w hw => by simp at hw⟩
  · split
    · exact ⟨by simp, fun w hw => by simp at hw⟩
    · rename_i h
      exact ⟨by show (splitB 10 s).length ≤ 1024; simp only [decide_eq_true_eq] at h; omega, splitB_mem_len 10 s⟩
end Go.Ab
namespace Go.Ab
open Go Go.RowKit Go.Proofs
set_option maxRecDepth 10000
set_option maxHeartbeats 16000000
def listS : List Bs → Bs
  | [] => []
  | w :: r => [32] ++ w ++ listS r
theorem listS_len : ∀ l : List Bs, l.length ≤ (listS l).length
  | [] => Nat.le_refl _
  | w :: r => by
    have := listS_len r
    rw [listS]
    simp only [List.length_append, List.length_cons, List.length_nil]
    omega
structure TX (x : Stp) : Prop where
  i : (listS x.inn).length ≤ 1000000000
  u : (listS x.usg).length ≤ 1000000000
  w : (listS x.wds).length ≤ 1000000000
  o : x.out.length ≤ 1000000000
end Go.Ab
namespace Go.Ab
open Go Go.RowKit Go.Proofs
set_option maxRecDepth 10000
set_option maxHeartbeats 8000000
end Go.Ab
namespace Go.Ab
open Go Go.RowKit Go.Proofs
set_option maxRecDepth 10000
set_option maxHeartbeats 8000000
structure PX (x : Stp) : Prop where
  i : (listS x.inn).length ≤ 100000
  u : (listS x.usg).length ≤ 100000
  w : (listS x.wds).length ≤ 100000
  o : x.out.length ≤ 100000
theorem listS_mem : ∀ {l : List Bs} {w : Bs}, w ∈ l → w.length ≤ (listS l).length
  | v :: r, w, h => by
    rw [listS]
    simp only [List.length_append]
    rcases List.mem_cons.1 h with rfl | h
    · omega
    · have := listS_mem h; omega
theorem wl_of {l : List Bs} {n : Nat} (h : (listS l).length ≤ n) (hn : n ≤ 1099511627776) : WL l := ⟨Nat.le_trans (Nat.le_trans (listS_len l) h) hn, fun w hw => Nat.le_trans (Nat.le_trans (listS_mem hw) h) hn⟩
theorem PX.ok {x : Stp} (h : PX x) : StOK x := ⟨wl_of h.i (by decide), wl_of h.u (by decide), wl_of h.w (by decide), Nat.le_trans h.o (by decide)⟩
end Go.Ab
namespace Go.Ab
open Go Go.RowKit Go.Proofs
set_option maxRecDepth 10000
set_option maxHeartbeats 8000000
def joinT : List Bs → Bs
  | [] => []
  | w :: r => [10] ++ w ++ joinT r
theorem joinT_append (a b : List Bs) : joinT (a ++ b) = joinT a ++ joinT b := by
  induction a with
  | nil => rfl
  | cons g a ih => rw [List.cons_append, joinT, ih, joinT]; simp
theorem joinT_step {l : List Bs} {i : Nat} (hi : i < l.length) : joinT (l.take (i + 1)) = joinT (l.take i) ++ [10] ++ l[i] := by
  rw [List.take_add_one, List.getElem?_eq_getElem hi, joinT_append]
  simp [joinT]
end Go.Ab
