/- Facts of the types (own work, printed by a program). -/
import Derived.Test.YtpecnbkfahekdaaAbEval
import Derived.Test.YtpecnbkfahekdaaChecked
set_option linter.unusedVariables false
set_option linter.unusedSimpArgs false
namespace Go.Ab
open Go Go.RowKit Go.Proofs
@[go_sem] theorem ty_size0 : tsize Try.prog 0 = (some 1) := by kernel_rfl
@[go_sem] theorem ty_bytes0 : tbytes Try.prog 0 = (some 0) := by kernel_rfl
@[go_sem] theorem ty_zero0 : tzero Try.prog 0 = (some (Value.tuple #[])) := by kernel_rfl
@[go_sem] theorem ty_agg0 : tagg Try.prog 0 = (some false) := by kernel_rfl
@[go_sem] theorem ty_und0 : Program.underlying Try.prog 0 = (some (TypeDesc.tuple #[])) := by kernel_rfl
@[go_sem] theorem ty_elem0 : telem Try.prog 0 = none := by kernel_rfl
@[go_sem] theorem ty_size1 : tsize Try.prog 1 = (some 1) := by kernel_rfl
@[go_sem] theorem ty_bytes1 : tbytes Try.prog 1 = (some 8) := by kernel_rfl
@[go_sem] theorem ty_zero1 : tzero Try.prog 1 = (some Value.nilFunc) := by kernel_rfl
@[go_sem] theorem ty_agg1 : tagg Try.prog 1 = (some false) := by kernel_rfl
@[go_sem] theorem ty_und1 : Program.underlying Try.prog 1 = (some (TypeDesc.func #[] #[] false)) := by kernel_rfl
@[go_sem] theorem ty_elem1 : telem Try.prog 1 = none := by kernel_rfl
@[go_sem] theorem ty_size2 : tsize Try.prog 2 = (some 1) := by kernel_rfl
@[go_sem] theorem ty_bytes2 : tbytes Try.prog 2 = (some 8) := by kernel_rfl
@[go_sem] theorem ty_zero2 : tzero Try.prog 2 = (some (Value.int IntKind.i64 0)) := by kernel_rfl
@[go_sem] theorem ty_agg2 : tagg Try.prog 2 = (some false) := by kernel_rfl
@[go_sem] theorem ty_und2 : Program.underlying Try.prog 2 = (some (TypeDesc.int IntKind.i64)) := by kernel_rfl
@[go_sem] theorem ty_elem2 : telem Try.prog 2 = none := by kernel_rfl
@[go_sem] theorem ty_size3 : tsize Try.prog 3 = (some 1) := by kernel_rfl
@[go_sem] theorem ty_bytes3 : tbytes Try.prog 3 = (some 8) := by kernel_rfl
@[go_sem] theorem ty_zero3 : tzero Try.prog 3 = (some (Value.int IntKind.i64 0)) := by kernel_rfl
@[go_sem] theorem ty_agg3 : tagg Try.prog 3 = (some false) := by kernel_rfl
@[go_sem] theorem ty_und3 : Program.underlying Try.prog 3 = (some (TypeDesc.int IntKind.i64)) := by kernel_rfl
@[go_sem] theorem ty_elem3 : telem Try.prog 3 = none := by kernel_rfl
@[go_sem] theorem ty_size4 : tsize Try.prog 4 = (some 1) := by kernel_rfl
@[go_sem] theorem ty_bytes4 : tbytes Try.prog 4 = (some 1) := by kernel_rfl
@[go_sem] theorem ty_zero4 : tzero Try.prog 4 = (some (Value.bool false)) := by kernel_rfl
@[go_sem] theorem ty_agg4 : tagg Try.prog 4 = (some false) := by kernel_rfl
@[go_sem] theorem ty_und4 : Program.underlying Try.prog 4 = (some TypeDesc.bool) := by kernel_rfl
@[go_sem] theorem ty_elem4 : telem Try.prog 4 = none := by kernel_rfl
@[go_sem] theorem ty_size5 : tsize Try.prog 5 = (some 1) := by kernel_rfl
@[go_sem] theorem ty_bytes5 : tbytes Try.prog 5 = (some 1) := by kernel_rfl
@[go_sem] theorem ty_zero5 : tzero Try.prog 5 = (some (Value.int IntKind.u8 0)) := by kernel_rfl
@[go_sem] theorem ty_agg5 : tagg Try.prog 5 = (some false) := by kernel_rfl
@[go_sem] theorem ty_und5 : Program.underlying Try.prog 5 = (some (TypeDesc.int IntKind.u8)) := by kernel_rfl
@[go_sem] theorem ty_elem5 : telem Try.prog 5 = none := by kernel_rfl
@[go_sem] theorem ty_size6 : tsize Try.prog 6 = (some 1) := by kernel_rfl
@[go_sem] theorem ty_bytes6 : tbytes Try.prog 6 = (some 1) := by kernel_rfl
@[go_sem] theorem ty_zero6 : tzero Try.prog 6 = (some (Value.int IntKind.u8 0)) := by kernel_rfl
@[go_sem] theorem ty_agg6 : tagg Try.prog 6 = (some false) := by kernel_rfl
@[go_sem] theorem ty_und6 : Program.underlying Try.prog 6 = (some (TypeDesc.int IntKind.u8)) := by kernel_rfl
@[go_sem] theorem ty_elem6 : telem Try.prog 6 = none := by kernel_rfl
@[go_sem] theorem ty_size7 : tsize Try.prog 7 = (some 4) := by kernel_rfl
@[go_sem] theorem ty_bytes7 : tbytes Try.prog 7 = (some 24) := by kernel_rfl
@[go_sem] theorem ty_zero7 : tzero Try.prog 7 = (some (Value.agg #[(Value.int IntKind.i64 0), (Value.int IntKind.i64 0), (Value.bool false), (Value.int IntKind.u8 0)])) := by kernel_rfl
@[go_sem] theorem ty_agg7 : tagg Try.prog 7 = (some true) := by kernel_rfl
@[go_sem] theorem ty_field7_0 : tfield Try.prog 7 0 = (some ⟨"x", 2, 0, false, "", "runtime", 0⟩) := by kernel_rfl
@[go_sem] theorem ty_field7_1 : tfield Try.prog 7 1 = (some ⟨"y", 3, 1, false, "", "runtime", 8⟩) := by kernel_rfl
@[go_sem] theorem ty_field7_2 : tfield Try.prog 7 2 = (some ⟨"signed", 4, 2, false, "", "runtime", 16⟩) := by kernel_rfl
@[go_sem] theorem ty_field7_3 : tfield Try.prog 7 3 = (some ⟨"code", 6, 3, false, "", "runtime", 17⟩) := by kernel_rfl
@[go_sem] theorem ty_build7 (parts : List (Nat × AV)) : abuild Try.prog 7 parts = (setCells [(AV.data (D.int IntKind.i64 0)), (AV.data (D.int IntKind.i64 0)), (AV.data (D.bool false)), (AV.data (D.int IntKind.u8 0))] ([(0, 1), (1, 1), (2, 1), (3, 1)][·]?) parts).map mkAgg := abuild_of (z := (Value.agg #[(Value.int IntKind.i64 0), (Value.int IntKind.i64 0), (Value.bool false), (Value.int IntKind.u8 0)])) (by kernel_rfl) (by kernel_rfl) (by kernel_rfl)
@[go_sem] theorem ty_size8 : tsize Try.prog 8 = (some 4) := by kernel_rfl
@[go_sem] theorem ty_bytes8 : tbytes Try.prog 8 = (some 24) := by kernel_rfl
@[go_sem] theorem ty_zero8 : tzero Try.prog 8 = (some (Value.agg #[(Value.int IntKind.i64 0), (Value.int IntKind.i64 0), (Value.bool false), (Value.int IntKind.u8 0)])) := by kernel_rfl
@[go_sem] theorem ty_agg8 : tagg Try.prog 8 = (some true) := by kernel_rfl
@[go_sem] theorem ty_field8_0 : tfield Try.prog 8 0 = (some ⟨"x", 2, 0, false, "", "runtime", 0⟩) := by kernel_rfl
@[go_sem] theorem ty_field8_1 : tfield Try.prog 8 1 = (some ⟨"y", 3, 1, false, "", "runtime", 8⟩) := by kernel_rfl
@[go_sem] theorem ty_field8_2 : tfield Try.prog 8 2 = (some ⟨"signed", 4, 2, false, "", "runtime", 16⟩) := by kernel_rfl
@[go_sem] theorem ty_field8_3 : tfield Try.prog 8 3 = (some ⟨"code", 6, 3, false, "", "runtime", 17⟩) := by kernel_rfl
@[go_sem] theorem ty_build8 (parts : List (Nat × AV)) : abuild Try.prog 8 parts = (setCells [(AV.data (D.int IntKind.i64 0)), (AV.data (D.int IntKind.i64 0)), (AV.data (D.bool false)), (AV.data (D.int IntKind.u8 0))] ([(0, 1), (1, 1), (2, 1), (3, 1)][·]?) parts).map mkAgg := abuild_of (z := (Value.agg #[(Value.int IntKind.i64 0), (Value.int IntKind.i64 0), (Value.bool false), (Value.int IntKind.u8 0)])) (by kernel_rfl) (by kernel_rfl) (by kernel_rfl)
@[go_sem] theorem ty_size9 : tsize Try.prog 9 = (some 1) := by kernel_rfl
@[go_sem] theorem ty_bytes9 : tbytes Try.prog 9 = (some 16) := by kernel_rfl
@[go_sem] theorem ty_zero9 : tzero Try.prog 9 = (some (Value.string ⟨#[]⟩)) := by kernel_rfl
@[go_sem] theorem ty_agg9 : tagg Try.prog 9 = (some false) := by kernel_rfl
@[go_sem] theorem ty_und9 : Program.underlying Try.prog 9 = (some TypeDesc.string) := by kernel_rfl
@[go_sem] theorem ty_elem9 : telem Try.prog 9 = none := by kernel_rfl
@[go_sem] theorem ty_size10 : tsize Try.prog 10 = (some 1) := by kernel_rfl
@[go_sem] theorem ty_bytes10 : tbytes Try.prog 10 = (some 16) := by kernel_rfl
@[go_sem] theorem ty_zero10 : tzero Try.prog 10 = (some (Value.string ⟨#[]⟩)) := by kernel_rfl
@[go_sem] theorem ty_agg10 : tagg Try.prog 10 = (some false) := by kernel_rfl
@[go_sem] theorem ty_und10 : Program.underlying Try.prog 10 = (some TypeDesc.string) := by kernel_rfl
@[go_sem] theorem ty_elem10 : telem Try.prog 10 = none := by kernel_rfl
@[go_sem] theorem ty_size11 : tsize Try.prog 11 = (some 1) := by kernel_rfl
@[go_sem] theorem ty_bytes11 : tbytes Try.prog 11 = (some 16) := by kernel_rfl
@[go_sem] theorem ty_zero11 : tzero Try.prog 11 = (some (Value.string ⟨#[]⟩)) := by kernel_rfl
@[go_sem] theorem ty_agg11 : tagg Try.prog 11 = (some false) := by kernel_rfl
@[go_sem] theorem ty_und11 : Program.underlying Try.prog 11 = (some TypeDesc.string) := by kernel_rfl
@[go_sem] theorem ty_elem11 : telem Try.prog 11 = none := by kernel_rfl
@[go_sem] theorem ty_size12 : tsize Try.prog 12 = (some 1) := by kernel_rfl
@[go_sem] theorem ty_bytes12 : tbytes Try.prog 12 = (some 8) := by kernel_rfl
@[go_sem] theorem ty_zero12 : tzero Try.prog 12 = (some (Value.int IntKind.u64 0)) := by kernel_rfl
@[go_sem] theorem ty_agg12 : tagg Try.prog 12 = (some false) := by kernel_rfl
@[go_sem] theorem ty_und12 : Program.underlying Try.prog 12 = (some (TypeDesc.int IntKind.u64)) := by kernel_rfl
@[go_sem] theorem ty_elem12 : telem Try.prog 12 = none := by kernel_rfl
@[go_sem] theorem ty_size13 : tsize Try.prog 13 = (some 2) := by kernel_rfl
@[go_sem] theorem ty_bytes13 : tbytes Try.prog 13 = (some 24) := by kernel_rfl
@[go_sem] theorem ty_zero13 : tzero Try.prog 13 = (some (Value.agg #[(Value.string ⟨#[]⟩), (Value.int IntKind.u64 0)])) := by kernel_rfl
@[go_sem] theorem ty_agg13 : tagg Try.prog 13 = (some true) := by kernel_rfl
@[go_sem] theorem ty_field13_0 : tfield Try.prog 13 0 = (some ⟨"msg", 9, 0, false, "", "runtime", 0⟩) := by kernel_rfl
@[go_sem] theorem ty_field13_1 : tfield Try.prog 13 1 = (some ⟨"addr", 12, 1, false, "", "runtime", 16⟩) := by kernel_rfl
@[go_sem] theorem ty_build13 (parts : List (Nat × AV)) : abuild Try.prog 13 parts = (setCells [(AV.data (D.str [])), (AV.data (D.int IntKind.u64 0))] ([(0, 1), (1, 1)][·]?) parts).map mkAgg := abuild_of (z := (Value.agg #[(Value.string ⟨#[]⟩), (Value.int IntKind.u64 0)])) (by kernel_rfl) (by kernel_rfl) (by kernel_rfl)
@[go_sem] theorem ty_size14 : tsize Try.prog 14 = (some 2) := by kernel_rfl
@[go_sem] theorem ty_bytes14 : tbytes Try.prog 14 = (some 24) := by kernel_rfl
@[go_sem] theorem ty_zero14 : tzero Try.prog 14 = (some (Value.agg #[(Value.string ⟨#[]⟩), (Value.int IntKind.u64 0)])) := by kernel_rfl
@[go_sem] theorem ty_agg14 : tagg Try.prog 14 = (some true) := by kernel_rfl
@[go_sem] theorem ty_field14_0 : tfield Try.prog 14 0 = (some ⟨"msg", 9, 0, false, "", "runtime", 0⟩) := by kernel_rfl
@[go_sem] theorem ty_field14_1 : tfield Try.prog 14 1 = (some ⟨"addr", 12, 1, false, "", "runtime", 16⟩) := by kernel_rfl
@[go_sem] theorem ty_build14 (parts : List (Nat × AV)) : abuild Try.prog 14 parts = (setCells [(AV.data (D.str [])), (AV.data (D.int IntKind.u64 0))] ([(0, 1), (1, 1)][·]?) parts).map mkAgg := abuild_of (z := (Value.agg #[(Value.string ⟨#[]⟩), (Value.int IntKind.u64 0)])) (by kernel_rfl) (by kernel_rfl) (by kernel_rfl)
@[go_sem] theorem ty_size15 : tsize Try.prog 15 = (some 1) := by kernel_rfl
@[go_sem] theorem ty_bytes15 : tbytes Try.prog 15 = (some 8) := by kernel_rfl
@[go_sem] theorem ty_zero15 : tzero Try.prog 15 = (some (Value.pointer none)) := by kernel_rfl
@[go_sem] theorem ty_agg15 : tagg Try.prog 15 = (some false) := by kernel_rfl
@[go_sem] theorem ty_und15 : Program.underlying Try.prog 15 = (some (TypeDesc.pointer 73)) := by kernel_rfl
@[go_sem] theorem ty_elem15 : telem Try.prog 15 = none := by kernel_rfl
@[go_sem] theorem ty_size16 : tsize Try.prog 16 = (some 1) := by kernel_rfl
@[go_sem] theorem ty_bytes16 : tbytes Try.prog 16 = (some 8) := by kernel_rfl
@[go_sem] theorem ty_zero16 : tzero Try.prog 16 = (some (Value.pointer none)) := by kernel_rfl
@[go_sem] theorem ty_agg16 : tagg Try.prog 16 = (some false) := by kernel_rfl
@[go_sem] theorem ty_und16 : Program.underlying Try.prog 16 = (some (TypeDesc.pointer 76)) := by kernel_rfl
@[go_sem] theorem ty_elem16 : telem Try.prog 16 = none := by kernel_rfl
@[go_sem] theorem ty_size17 : tsize Try.prog 17 = (some 1) := by kernel_rfl
@[go_sem] theorem ty_bytes17 : tbytes Try.prog 17 = (some 8) := by kernel_rfl
@[go_sem] theorem ty_zero17 : tzero Try.prog 17 = (some (Value.pointer none)) := by kernel_rfl
@[go_sem] theorem ty_agg17 : tagg Try.prog 17 = (some false) := by kernel_rfl
@[go_sem] theorem ty_und17 : Program.underlying Try.prog 17 = (some (TypeDesc.pointer 86)) := by kernel_rfl
@[go_sem] theorem ty_elem17 : telem Try.prog 17 = none := by kernel_rfl
@[go_sem] theorem ty_size18 : tsize Try.prog 18 = (some 1) := by kernel_rfl
@[go_sem] theorem ty_bytes18 : tbytes Try.prog 18 = (some 8) := by kernel_rfl
@[go_sem] theorem ty_zero18 : tzero Try.prog 18 = (some (Value.agg #[(Value.pointer none)])) := by kernel_rfl
@[go_sem] theorem ty_agg18 : tagg Try.prog 18 = (some true) := by kernel_rfl
@[go_sem] theorem ty_field18_0 : tfield Try.prog 18 0 = (some ⟨"typ", 17, 0, false, "", "internal/runtime/maps", 0⟩) := by kernel_rfl
@[go_sem] theorem ty_build18 (parts : List (Nat × AV)) : abuild Try.prog 18 parts = (setCells [(AV.data D.nilp)] ([(0, 1)][·]?) parts).map mkAgg := abuild_of (z := (Value.agg #[(Value.pointer none)])) (by kernel_rfl) (by kernel_rfl) (by kernel_rfl)
@[go_sem] theorem ty_size19 : tsize Try.prog 19 = (some 1) := by kernel_rfl
@[go_sem] theorem ty_bytes19 : tbytes Try.prog 19 = (some 8) := by kernel_rfl
@[go_sem] theorem ty_zero19 : tzero Try.prog 19 = (some (Value.agg #[(Value.pointer none)])) := by kernel_rfl
@[go_sem] theorem ty_agg19 : tagg Try.prog 19 = (some true) := by kernel_rfl
@[go_sem] theorem ty_field19_0 : tfield Try.prog 19 0 = (some ⟨"typ", 17, 0, false, "", "internal/runtime/maps", 0⟩) := by kernel_rfl
@[go_sem] theorem ty_build19 (parts : List (Nat × AV)) : abuild Try.prog 19 parts = (setCells [(AV.data D.nilp)] ([(0, 1)][·]?) parts).map mkAgg := abuild_of (z := (Value.agg #[(Value.pointer none)])) (by kernel_rfl) (by kernel_rfl) (by kernel_rfl)
@[go_sem] theorem ty_size20 : tsize Try.prog 20 = (some 1) := by kernel_rfl
@[go_sem] theorem ty_bytes20 : tbytes Try.prog 20 = (some 16) := by kernel_rfl
@[go_sem] theorem ty_zero20 : tzero Try.prog 20 = (some Value.nilIface) := by kernel_rfl
@[go_sem] theorem ty_agg20 : tagg Try.prog 20 = (some false) := by kernel_rfl
@[go_sem] theorem ty_und20 : Program.underlying Try.prog 20 = (some (TypeDesc.interface #[])) := by kernel_rfl
@[go_sem] theorem ty_elem20 : telem Try.prog 20 = none := by kernel_rfl
@[go_sem] theorem ty_size21 : tsize Try.prog 21 = (some 1) := by kernel_rfl
@[go_sem] theorem ty_bytes21 : tbytes Try.prog 21 = (some 4) := by kernel_rfl
@[go_sem] theorem ty_zero21 : tzero Try.prog 21 = (some (Value.int IntKind.i32 0)) := by kernel_rfl
@[go_sem] theorem ty_agg21 : tagg Try.prog 21 = (some false) := by kernel_rfl
@[go_sem] theorem ty_und21 : Program.underlying Try.prog 21 = (some (TypeDesc.int IntKind.i32)) := by kernel_rfl
@[go_sem] theorem ty_elem21 : telem Try.prog 21 = none := by kernel_rfl
@[go_sem] theorem ty_size22 : tsize Try.prog 22 = (some 1) := by kernel_rfl
@[go_sem] theorem ty_bytes22 : tbytes Try.prog 22 = (some 24) := by kernel_rfl
@[go_sem] theorem ty_zero22 : tzero Try.prog 22 = (some (Value.slice none 0 0)) := by kernel_rfl
@[go_sem] theorem ty_agg22 : tagg Try.prog 22 = (some false) := by kernel_rfl
@[go_sem] theorem ty_und22 : Program.underlying Try.prog 22 = (some (TypeDesc.slice 9)) := by kernel_rfl
@[go_sem] theorem ty_elem22 : telem Try.prog 22 = (some 9) := by kernel_rfl
@[go_sem] theorem ty_size23 : tsize Try.prog 23 = (some 1) := by kernel_rfl
@[go_sem] theorem ty_bytes23 : tbytes Try.prog 23 = (some 24) := by kernel_rfl
@[go_sem] theorem ty_zero23 : tzero Try.prog 23 = (some (Value.slice none 0 0)) := by kernel_rfl
@[go_sem] theorem ty_agg23 : tagg Try.prog 23 = (some false) := by kernel_rfl
@[go_sem] theorem ty_und23 : Program.underlying Try.prog 23 = (some (TypeDesc.slice 41)) := by kernel_rfl
@[go_sem] theorem ty_elem23 : telem Try.prog 23 = (some 41) := by kernel_rfl
@[go_sem] theorem ty_size24 : tsize Try.prog 24 = (some 2) := by kernel_rfl
@[go_sem] theorem ty_bytes24 : tbytes Try.prog 24 = (some 48) := by kernel_rfl
@[go_sem] theorem ty_zero24 : tzero Try.prog 24 = (some (Value.agg #[(Value.slice none 0 0), (Value.slice none 0 0)])) := by kernel_rfl
@[go_sem] theorem ty_agg24 : tagg Try.prog 24 = (some true) := by kernel_rfl
@[go_sem] theorem ty_field24_0 : tfield Try.prog 24 0 = (some ⟨"Nodes", 22, 0, false, "", "", 0⟩) := by kernel_rfl
@[go_sem] theorem ty_field24_1 : tfield Try.prog 24 1 = (some ⟨"Edges", 23, 1, false, "", "", 24⟩) := by kernel_rfl
@[go_sem] theorem ty_build24 (parts : List (Nat × AV)) : abuild Try.prog 24 parts = (setCells [AV.nils, AV.nils] ([(0, 1), (1, 1)][·]?) parts).map mkAgg := abuild_of (z := (Value.agg #[(Value.slice none 0 0), (Value.slice none 0 0)])) (by kernel_rfl) (by kernel_rfl) (by kernel_rfl)
@[go_sem] theorem ty_size25 : tsize Try.prog 25 = (some 2) := by kernel_rfl
@[go_sem] theorem ty_bytes25 : tbytes Try.prog 25 = (some 48) := by kernel_rfl
@[go_sem] theorem ty_zero25 : tzero Try.prog 25 = (some (Value.agg #[(Value.slice none 0 0), (Value.slice none 0 0)])) := by kernel_rfl
@[go_sem] theorem ty_agg25 : tagg Try.prog 25 = (some true) := by kernel_rfl
@[go_sem] theorem ty_field25_0 : tfield Try.prog 25 0 = (some ⟨"Nodes", 22, 0, false, "", "", 0⟩) := by kernel_rfl
@[go_sem] theorem ty_field25_1 : tfield Try.prog 25 1 = (some ⟨"Edges", 23, 1, false, "", "", 24⟩) := by kernel_rfl
@[go_sem] theorem ty_build25 (parts : List (Nat × AV)) : abuild Try.prog 25 parts = (setCells [AV.nils, AV.nils] ([(0, 1), (1, 1)][·]?) parts).map mkAgg := abuild_of (z := (Value.agg #[(Value.slice none 0 0), (Value.slice none 0 0)])) (by kernel_rfl) (by kernel_rfl) (by kernel_rfl)
@[go_sem] theorem ty_size26 : tsize Try.prog 26 = (some 1) := by kernel_rfl
@[go_sem] theorem ty_bytes26 : tbytes Try.prog 26 = (some 8) := by kernel_rfl
@[go_sem] theorem ty_zero26 : tzero Try.prog 26 = (some Value.nilFunc) := by kernel_rfl
@[go_sem] theorem ty_agg26 : tagg Try.prog 26 = (some false) := by kernel_rfl
@[go_sem] theorem ty_und26 : Program.underlying Try.prog 26 = (some (TypeDesc.func #[] #[4] false)) := by kernel_rfl
@[go_sem] theorem ty_elem26 : telem Try.prog 26 = none := by kernel_rfl
@[go_sem] theorem ty_size27 : tsize Try.prog 27 = (some 1) := by kernel_rfl
@[go_sem] theorem ty_bytes27 : tbytes Try.prog 27 = (some 8) := by kernel_rfl
@[go_sem] theorem ty_zero27 : tzero Try.prog 27 = (some Value.nilFunc) := by kernel_rfl
@[go_sem] theorem ty_agg27 : tagg Try.prog 27 = (some false) := by kernel_rfl
@[go_sem] theorem ty_und27 : Program.underlying Try.prog 27 = (some (TypeDesc.func #[25] #[4] false)) := by kernel_rfl
@[go_sem] theorem ty_elem27 : telem Try.prog 27 = none := by kernel_rfl
@[go_sem] theorem ty_size28 : tsize Try.prog 28 = (some 1) := by kernel_rfl
@[go_sem] theorem ty_bytes28 : tbytes Try.prog 28 = (some 24) := by kernel_rfl
@[go_sem] theorem ty_zero28 : tzero Try.prog 28 = (some (Value.slice none 0 0)) := by kernel_rfl
@[go_sem] theorem ty_agg28 : tagg Try.prog 28 = (some false) := by kernel_rfl
@[go_sem] theorem ty_und28 : Program.underlying Try.prog 28 = (some (TypeDesc.slice 3)) := by kernel_rfl
@[go_sem] theorem ty_elem28 : telem Try.prog 28 = (some 3) := by kernel_rfl
@[go_sem] theorem ty_size29 : tsize Try.prog 29 = (some 1) := by kernel_rfl
@[go_sem] theorem ty_bytes29 : tbytes Try.prog 29 = (some 8) := by kernel_rfl
@[go_sem] theorem ty_zero29 : tzero Try.prog 29 = (some (Value.int IntKind.i64 0)) := by kernel_rfl
@[go_sem] theorem ty_agg29 : tagg Try.prog 29 = (some false) := by kernel_rfl
@[go_sem] theorem ty_und29 : Program.underlying Try.prog 29 = (some (TypeDesc.int IntKind.i64)) := by kernel_rfl
@[go_sem] theorem ty_elem29 : telem Try.prog 29 = none := by kernel_rfl
@[go_sem] theorem ty_size30 : tsize Try.prog 30 = (some 1) := by kernel_rfl
@[go_sem] theorem ty_bytes30 : tbytes Try.prog 30 = (some 0) := by kernel_rfl
@[go_sem] theorem ty_zero30 : tzero Try.prog 30 = (some (Value.tuple #[(Value.slice none 0 0), (Value.int IntKind.i64 0)])) := by kernel_rfl
@[go_sem] theorem ty_agg30 : tagg Try.prog 30 = (some false) := by kernel_rfl
@[go_sem] theorem ty_und30 : Program.underlying Try.prog 30 = (some (TypeDesc.tuple #[28, 29])) := by kernel_rfl
@[go_sem] theorem ty_elem30 : telem Try.prog 30 = none := by kernel_rfl
@[go_sem] theorem ty_size31 : tsize Try.prog 31 = (some 1) := by kernel_rfl
@[go_sem] theorem ty_bytes31 : tbytes Try.prog 31 = (some 8) := by kernel_rfl
@[go_sem] theorem ty_zero31 : tzero Try.prog 31 = (some Value.nilFunc) := by kernel_rfl
@[go_sem] theorem ty_agg31 : tagg Try.prog 31 = (some false) := by kernel_rfl
@[go_sem] theorem ty_und31 : Program.underlying Try.prog 31 = (some (TypeDesc.func #[25] #[28, 29] false)) := by kernel_rfl
@[go_sem] theorem ty_elem31 : telem Try.prog 31 = none := by kernel_rfl
@[go_sem] theorem ty_size32 : tsize Try.prog 32 = (some 1) := by kernel_rfl
@[go_sem] theorem ty_bytes32 : tbytes Try.prog 32 = (some 8) := by kernel_rfl
@[go_sem] theorem ty_zero32 : tzero Try.prog 32 = (some Value.nilFunc) := by kernel_rfl
@[go_sem] theorem ty_agg32 : tagg Try.prog 32 = (some false) := by kernel_rfl
@[go_sem] theorem ty_und32 : Program.underlying Try.prog 32 = (some (TypeDesc.func #[28, 28] #[4] false)) := by kernel_rfl
@[go_sem] theorem ty_elem32 : telem Try.prog 32 = none := by kernel_rfl
@[go_sem] theorem ty_size33 : tsize Try.prog 33 = (some 1) := by kernel_rfl
@[go_sem] theorem ty_bytes33 : tbytes Try.prog 33 = (some 0) := by kernel_rfl
@[go_sem] theorem ty_zero33 : tzero Try.prog 33 = (some (Value.tuple #[(Value.slice none 0 0), (Value.bool false)])) := by kernel_rfl
@[go_sem] theorem ty_agg33 : tagg Try.prog 33 = (some false) := by kernel_rfl
@[go_sem] theorem ty_und33 : Program.underlying Try.prog 33 = (some (TypeDesc.tuple #[28, 4])) := by kernel_rfl
@[go_sem] theorem ty_elem33 : telem Try.prog 33 = none := by kernel_rfl
@[go_sem] theorem ty_size34 : tsize Try.prog 34 = (some 1) := by kernel_rfl
@[go_sem] theorem ty_bytes34 : tbytes Try.prog 34 = (some 8) := by kernel_rfl
@[go_sem] theorem ty_zero34 : tzero Try.prog 34 = (some Value.nilFunc) := by kernel_rfl
@[go_sem] theorem ty_agg34 : tagg Try.prog 34 = (some false) := by kernel_rfl
@[go_sem] theorem ty_und34 : Program.underlying Try.prog 34 = (some (TypeDesc.func #[25, 3, 3] #[28, 4] false)) := by kernel_rfl
@[go_sem] theorem ty_elem34 : telem Try.prog 34 = none := by kernel_rfl
@[go_sem] theorem ty_size35 : tsize Try.prog 35 = (some 1) := by kernel_rfl
@[go_sem] theorem ty_bytes35 : tbytes Try.prog 35 = (some 8) := by kernel_rfl
@[go_sem] theorem ty_zero35 : tzero Try.prog 35 = (some Value.nilFunc) := by kernel_rfl
@[go_sem] theorem ty_agg35 : tagg Try.prog 35 = (some false) := by kernel_rfl
@[go_sem] theorem ty_und35 : Program.underlying Try.prog 35 = (some (TypeDesc.func #[25, 3, 3] #[28] false)) := by kernel_rfl
@[go_sem] theorem ty_elem35 : telem Try.prog 35 = none := by kernel_rfl
@[go_sem] theorem ty_size36 : tsize Try.prog 36 = (some 1) := by kernel_rfl
@[go_sem] theorem ty_bytes36 : tbytes Try.prog 36 = (some 8) := by kernel_rfl
@[go_sem] theorem ty_zero36 : tzero Try.prog 36 = (some Value.nilFunc) := by kernel_rfl
@[go_sem] theorem ty_agg36 : tagg Try.prog 36 = (some false) := by kernel_rfl
@[go_sem] theorem ty_und36 : Program.underlying Try.prog 36 = (some (TypeDesc.func #[25, 3, 3] #[4] false)) := by kernel_rfl
@[go_sem] theorem ty_elem36 : telem Try.prog 36 = none := by kernel_rfl
@[go_sem] theorem ty_size37 : tsize Try.prog 37 = (some 1) := by kernel_rfl
@[go_sem] theorem ty_bytes37 : tbytes Try.prog 37 = (some 8) := by kernel_rfl
@[go_sem] theorem ty_zero37 : tzero Try.prog 37 = (some Value.nilFunc) := by kernel_rfl
@[go_sem] theorem ty_agg37 : tagg Try.prog 37 = (some false) := by kernel_rfl
@[go_sem] theorem ty_und37 : Program.underlying Try.prog 37 = (some (TypeDesc.func #[25] #[29] false)) := by kernel_rfl
@[go_sem] theorem ty_elem37 : telem Try.prog 37 = none := by kernel_rfl
@[go_sem] theorem ty_size38 : tsize Try.prog 38 = (some 1) := by kernel_rfl
@[go_sem] theorem ty_bytes38 : tbytes Try.prog 38 = (some 8) := by kernel_rfl
@[go_sem] theorem ty_zero38 : tzero Try.prog 38 = (some Value.nilFunc) := by kernel_rfl
@[go_sem] theorem ty_agg38 : tagg Try.prog 38 = (some false) := by kernel_rfl
@[go_sem] theorem ty_und38 : Program.underlying Try.prog 38 = (some (TypeDesc.func #[28, 3] #[4] false)) := by kernel_rfl
@[go_sem] theorem ty_elem38 : telem Try.prog 38 = none := by kernel_rfl
@[go_sem] theorem ty_size39 : tsize Try.prog 39 = (some 1) := by kernel_rfl
@[go_sem] theorem ty_bytes39 : tbytes Try.prog 39 = (some 8) := by kernel_rfl
@[go_sem] theorem ty_zero39 : tzero Try.prog 39 = (some Value.nilFunc) := by kernel_rfl
@[go_sem] theorem ty_agg39 : tagg Try.prog 39 = (some false) := by kernel_rfl
@[go_sem] theorem ty_und39 : Program.underlying Try.prog 39 = (some (TypeDesc.func #[25, 3] #[28] false)) := by kernel_rfl
@[go_sem] theorem ty_elem39 : telem Try.prog 39 = none := by kernel_rfl
@[go_sem] theorem ty_size40 : tsize Try.prog 40 = (some 3) := by kernel_rfl
@[go_sem] theorem ty_bytes40 : tbytes Try.prog 40 = (some 24) := by kernel_rfl
@[go_sem] theorem ty_zero40 : tzero Try.prog 40 = (some (Value.agg #[(Value.int IntKind.i64 0), (Value.int IntKind.i64 0), (Value.int IntKind.i64 0)])) := by kernel_rfl
@[go_sem] theorem ty_agg40 : tagg Try.prog 40 = (some true) := by kernel_rfl
@[go_sem] theorem ty_field40_0 : tfield Try.prog 40 0 = (some ⟨"From", 3, 0, false, "", "", 0⟩) := by kernel_rfl
@[go_sem] theorem ty_field40_1 : tfield Try.prog 40 1 = (some ⟨"To", 3, 1, false, "", "", 8⟩) := by kernel_rfl
@[go_sem] theorem ty_field40_2 : tfield Try.prog 40 2 = (some ⟨"Step", 3, 2, false, "", "", 16⟩) := by kernel_rfl
@[go_sem] theorem ty_build40 (parts : List (Nat × AV)) : abuild Try.prog 40 parts = (setCells [(AV.data (D.int IntKind.i64 0)), (AV.data (D.int IntKind.i64 0)), (AV.data (D.int IntKind.i64 0))] ([(0, 1), (1, 1), (2, 1)][·]?) parts).map mkAgg := abuild_of (z := (Value.agg #[(Value.int IntKind.i64 0), (Value.int IntKind.i64 0), (Value.int IntKind.i64 0)])) (by kernel_rfl) (by kernel_rfl) (by kernel_rfl)
@[go_sem] theorem ty_size41 : tsize Try.prog 41 = (some 3) := by kernel_rfl
@[go_sem] theorem ty_bytes41 : tbytes Try.prog 41 = (some 24) := by kernel_rfl
@[go_sem] theorem ty_zero41 : tzero Try.prog 41 = (some (Value.agg #[(Value.int IntKind.i64 0), (Value.int IntKind.i64 0), (Value.int IntKind.i64 0)])) := by kernel_rfl
@[go_sem] theorem ty_agg41 : tagg Try.prog 41 = (some true) := by kernel_rfl
@[go_sem] theorem ty_field41_0 : tfield Try.prog 41 0 = (some ⟨"From", 3, 0, false, "", "", 0⟩) := by kernel_rfl
@[go_sem] theorem ty_field41_1 : tfield Try.prog 41 1 = (some ⟨"To", 3, 1, false, "", "", 8⟩) := by kernel_rfl
@[go_sem] theorem ty_field41_2 : tfield Try.prog 41 2 = (some ⟨"Step", 3, 2, false, "", "", 16⟩) := by kernel_rfl
@[go_sem] theorem ty_build41 (parts : List (Nat × AV)) : abuild Try.prog 41 parts = (setCells [(AV.data (D.int IntKind.i64 0)), (AV.data (D.int IntKind.i64 0)), (AV.data (D.int IntKind.i64 0))] ([(0, 1), (1, 1), (2, 1)][·]?) parts).map mkAgg := abuild_of (z := (Value.agg #[(Value.int IntKind.i64 0), (Value.int IntKind.i64 0), (Value.int IntKind.i64 0)])) (by kernel_rfl) (by kernel_rfl) (by kernel_rfl)
@[go_sem] theorem ty_size42 : tsize Try.prog 42 = (some 1) := by kernel_rfl
@[go_sem] theorem ty_bytes42 : tbytes Try.prog 42 = (some 8) := by kernel_rfl
@[go_sem] theorem ty_zero42 : tzero Try.prog 42 = (some Value.nilFunc) := by kernel_rfl
@[go_sem] theorem ty_agg42 : tagg Try.prog 42 = (some false) := by kernel_rfl
@[go_sem] theorem ty_und42 : Program.underlying Try.prog 42 = (some (TypeDesc.func #[23, 43] #[4] false)) := by kernel_rfl
@[go_sem] theorem ty_elem42 : telem Try.prog 42 = none := by kernel_rfl
@[go_sem] theorem ty_size43 : tsize Try.prog 43 = (some 1) := by kernel_rfl
@[go_sem] theorem ty_bytes43 : tbytes Try.prog 43 = (some 8) := by kernel_rfl
@[go_sem] theorem ty_zero43 : tzero Try.prog 43 = (some Value.nilFunc) := by kernel_rfl
@[go_sem] theorem ty_agg43 : tagg Try.prog 43 = (some false) := by kernel_rfl
@[go_sem] theorem ty_und43 : Program.underlying Try.prog 43 = (some (TypeDesc.func #[41] #[4] false)) := by kernel_rfl
@[go_sem] theorem ty_elem43 : telem Try.prog 43 = none := by kernel_rfl
@[go_sem] theorem ty_size44 : tsize Try.prog 44 = (some 1) := by kernel_rfl
@[go_sem] theorem ty_bytes44 : tbytes Try.prog 44 = (some 8) := by kernel_rfl
@[go_sem] theorem ty_zero44 : tzero Try.prog 44 = (some Value.nilFunc) := by kernel_rfl
@[go_sem] theorem ty_agg44 : tagg Try.prog 44 = (some false) := by kernel_rfl
@[go_sem] theorem ty_und44 : Program.underlying Try.prog 44 = (some (TypeDesc.func #[25, 3] #[4] false)) := by kernel_rfl
@[go_sem] theorem ty_elem44 : telem Try.prog 44 = none := by kernel_rfl
@[go_sem] theorem ty_size45 : tsize Try.prog 45 = (some 1) := by kernel_rfl
@[go_sem] theorem ty_bytes45 : tbytes Try.prog 45 = (some 8) := by kernel_rfl
@[go_sem] theorem ty_zero45 : tzero Try.prog 45 = (some Value.nilFunc) := by kernel_rfl
@[go_sem] theorem ty_agg45 : tagg Try.prog 45 = (some false) := by kernel_rfl
@[go_sem] theorem ty_und45 : Program.underlying Try.prog 45 = (some (TypeDesc.func #[28] #[4] false)) := by kernel_rfl
@[go_sem] theorem ty_elem45 : telem Try.prog 45 = none := by kernel_rfl
@[go_sem] theorem ty_size46 : tsize Try.prog 46 = (some 1) := by kernel_rfl
@[go_sem] theorem ty_bytes46 : tbytes Try.prog 46 = (some 24) := by kernel_rfl
@[go_sem] theorem ty_zero46 : tzero Try.prog 46 = (some (Value.slice none 0 0)) := by kernel_rfl
@[go_sem] theorem ty_agg46 : tagg Try.prog 46 = (some false) := by kernel_rfl
@[go_sem] theorem ty_und46 : Program.underlying Try.prog 46 = (some (TypeDesc.slice 28)) := by kernel_rfl
@[go_sem] theorem ty_elem46 : telem Try.prog 46 = (some 28) := by kernel_rfl
@[go_sem] theorem ty_size47 : tsize Try.prog 47 = (some 1) := by kernel_rfl
@[go_sem] theorem ty_bytes47 : tbytes Try.prog 47 = (some 8) := by kernel_rfl
@[go_sem] theorem ty_zero47 : tzero Try.prog 47 = (some Value.nilFunc) := by kernel_rfl
@[go_sem] theorem ty_agg47 : tagg Try.prog 47 = (some false) := by kernel_rfl
@[go_sem] theorem ty_und47 : Program.underlying Try.prog 47 = (some (TypeDesc.func #[25, 4] #[46] false)) := by kernel_rfl
@[go_sem] theorem ty_elem47 : telem Try.prog 47 = none := by kernel_rfl
@[go_sem] theorem ty_size48 : tsize Try.prog 48 = (some 1) := by kernel_rfl
@[go_sem] theorem ty_bytes48 : tbytes Try.prog 48 = (some 8) := by kernel_rfl
@[go_sem] theorem ty_zero48 : tzero Try.prog 48 = (some Value.nilFunc) := by kernel_rfl
@[go_sem] theorem ty_agg48 : tagg Try.prog 48 = (some false) := by kernel_rfl
@[go_sem] theorem ty_und48 : Program.underlying Try.prog 48 = (some (TypeDesc.func #[28, 3] #[3] false)) := by kernel_rfl
@[go_sem] theorem ty_elem48 : telem Try.prog 48 = none := by kernel_rfl
@[go_sem] theorem ty_size49 : tsize Try.prog 49 = (some 1) := by kernel_rfl
@[go_sem] theorem ty_bytes49 : tbytes Try.prog 49 = (some 24) := by kernel_rfl
@[go_sem] theorem ty_zero49 : tzero Try.prog 49 = (some (Value.slice none 0 0)) := by kernel_rfl
@[go_sem] theorem ty_agg49 : tagg Try.prog 49 = (some false) := by kernel_rfl
@[go_sem] theorem ty_und49 : Program.underlying Try.prog 49 = (some (TypeDesc.slice 4)) := by kernel_rfl
@[go_sem] theorem ty_elem49 : telem Try.prog 49 = (some 4) := by kernel_rfl
@[go_sem] theorem ty_size50 : tsize Try.prog 50 = (some 1) := by kernel_rfl
@[go_sem] theorem ty_bytes50 : tbytes Try.prog 50 = (some 8) := by kernel_rfl
@[go_sem] theorem ty_zero50 : tzero Try.prog 50 = (some Value.nilFunc) := by kernel_rfl
@[go_sem] theorem ty_agg50 : tagg Try.prog 50 = (some false) := by kernel_rfl
@[go_sem] theorem ty_und50 : Program.underlying Try.prog 50 = (some (TypeDesc.func #[25, 49, 3] #[4] false)) := by kernel_rfl
@[go_sem] theorem ty_elem50 : telem Try.prog 50 = none := by kernel_rfl
@[go_sem] theorem ty_size51 : tsize Try.prog 51 = (some 1) := by kernel_rfl
@[go_sem] theorem ty_bytes51 : tbytes Try.prog 51 = (some 8) := by kernel_rfl
@[go_sem] theorem ty_zero51 : tzero Try.prog 51 = (some Value.nilFunc) := by kernel_rfl
@[go_sem] theorem ty_agg51 : tagg Try.prog 51 = (some false) := by kernel_rfl
@[go_sem] theorem ty_und51 : Program.underlying Try.prog 51 = (some (TypeDesc.func #[46, 3, 3] #[28] false)) := by kernel_rfl
@[go_sem] theorem ty_elem51 : telem Try.prog 51 = none := by kernel_rfl
@[go_sem] theorem ty_size52 : tsize Try.prog 52 = (some 1) := by kernel_rfl
@[go_sem] theorem ty_bytes52 : tbytes Try.prog 52 = (some 8) := by kernel_rfl
@[go_sem] theorem ty_zero52 : tzero Try.prog 52 = (some Value.nilFunc) := by kernel_rfl
@[go_sem] theorem ty_agg52 : tagg Try.prog 52 = (some false) := by kernel_rfl
@[go_sem] theorem ty_und52 : Program.underlying Try.prog 52 = (some (TypeDesc.func #[23, 43] #[3] false)) := by kernel_rfl
@[go_sem] theorem ty_elem52 : telem Try.prog 52 = none := by kernel_rfl
@[go_sem] theorem ty_size53 : tsize Try.prog 53 = (some 1) := by kernel_rfl
@[go_sem] theorem ty_bytes53 : tbytes Try.prog 53 = (some 8) := by kernel_rfl
@[go_sem] theorem ty_zero53 : tzero Try.prog 53 = (some Value.nilFunc) := by kernel_rfl
@[go_sem] theorem ty_agg53 : tagg Try.prog 53 = (some false) := by kernel_rfl
@[go_sem] theorem ty_und53 : Program.underlying Try.prog 53 = (some (TypeDesc.func #[22, 54] #[4] false)) := by kernel_rfl
@[go_sem] theorem ty_elem53 : telem Try.prog 53 = none := by kernel_rfl
@[go_sem] theorem ty_size54 : tsize Try.prog 54 = (some 1) := by kernel_rfl
@[go_sem] theorem ty_bytes54 : tbytes Try.prog 54 = (some 8) := by kernel_rfl
@[go_sem] theorem ty_zero54 : tzero Try.prog 54 = (some Value.nilFunc) := by kernel_rfl
@[go_sem] theorem ty_agg54 : tagg Try.prog 54 = (some false) := by kernel_rfl
@[go_sem] theorem ty_und54 : Program.underlying Try.prog 54 = (some (TypeDesc.func #[9] #[4] false)) := by kernel_rfl
@[go_sem] theorem ty_elem54 : telem Try.prog 54 = none := by kernel_rfl
@[go_sem] theorem ty_size55 : tsize Try.prog 55 = (some 1) := by kernel_rfl
@[go_sem] theorem ty_bytes55 : tbytes Try.prog 55 = (some 8) := by kernel_rfl
@[go_sem] theorem ty_zero55 : tzero Try.prog 55 = (some Value.nilFunc) := by kernel_rfl
@[go_sem] theorem ty_agg55 : tagg Try.prog 55 = (some false) := by kernel_rfl
@[go_sem] theorem ty_und55 : Program.underlying Try.prog 55 = (some (TypeDesc.func #[41, 41] #[3] false)) := by kernel_rfl
@[go_sem] theorem ty_elem55 : telem Try.prog 55 = none := by kernel_rfl
@[go_sem] theorem ty_size56 : tsize Try.prog 56 = (some 1) := by kernel_rfl
@[go_sem] theorem ty_bytes56 : tbytes Try.prog 56 = (some 8) := by kernel_rfl
@[go_sem] theorem ty_zero56 : tzero Try.prog 56 = (some Value.nilFunc) := by kernel_rfl
@[go_sem] theorem ty_agg56 : tagg Try.prog 56 = (some false) := by kernel_rfl
@[go_sem] theorem ty_und56 : Program.underlying Try.prog 56 = (some (TypeDesc.func #[25, 3, 4] #[28] false)) := by kernel_rfl
@[go_sem] theorem ty_elem56 : telem Try.prog 56 = none := by kernel_rfl
@[go_sem] theorem ty_size57 : tsize Try.prog 57 = (some 1) := by kernel_rfl
@[go_sem] theorem ty_bytes57 : tbytes Try.prog 57 = (some 8) := by kernel_rfl
@[go_sem] theorem ty_zero57 : tzero Try.prog 57 = (some Value.nilFunc) := by kernel_rfl
@[go_sem] theorem ty_agg57 : tagg Try.prog 57 = (some false) := by kernel_rfl
@[go_sem] theorem ty_und57 : Program.underlying Try.prog 57 = (some (TypeDesc.func #[3, 3] #[4] false)) := by kernel_rfl
@[go_sem] theorem ty_elem57 : telem Try.prog 57 = none := by kernel_rfl
@[go_sem] theorem ty_size58 : tsize Try.prog 58 = (some 1) := by kernel_rfl
@[go_sem] theorem ty_bytes58 : tbytes Try.prog 58 = (some 8) := by kernel_rfl
@[go_sem] theorem ty_zero58 : tzero Try.prog 58 = (some Value.nilFunc) := by kernel_rfl
@[go_sem] theorem ty_agg58 : tagg Try.prog 58 = (some false) := by kernel_rfl
@[go_sem] theorem ty_und58 : Program.underlying Try.prog 58 = (some (TypeDesc.func #[41, 41] #[4] false)) := by kernel_rfl
@[go_sem] theorem ty_elem58 : telem Try.prog 58 = none := by kernel_rfl
@[go_sem] theorem ty_size59 : tsize Try.prog 59 = (some 1) := by kernel_rfl
@[go_sem] theorem ty_bytes59 : tbytes Try.prog 59 = (some 8) := by kernel_rfl
@[go_sem] theorem ty_zero59 : tzero Try.prog 59 = (some Value.nilFunc) := by kernel_rfl
@[go_sem] theorem ty_agg59 : tagg Try.prog 59 = (some false) := by kernel_rfl
@[go_sem] theorem ty_und59 : Program.underlying Try.prog 59 = (some (TypeDesc.func #[22, 54] #[3] false)) := by kernel_rfl
@[go_sem] theorem ty_elem59 : telem Try.prog 59 = none := by kernel_rfl
@[go_sem] theorem ty_size60 : tsize Try.prog 60 = (some 1) := by kernel_rfl
@[go_sem] theorem ty_bytes60 : tbytes Try.prog 60 = (some 8) := by kernel_rfl
@[go_sem] theorem ty_zero60 : tzero Try.prog 60 = (some Value.nilFunc) := by kernel_rfl
@[go_sem] theorem ty_agg60 : tagg Try.prog 60 = (some false) := by kernel_rfl
@[go_sem] theorem ty_und60 : Program.underlying Try.prog 60 = (some (TypeDesc.func #[28] #[3] true)) := by kernel_rfl
@[go_sem] theorem ty_elem60 : telem Try.prog 60 = none := by kernel_rfl
@[go_sem] theorem ty_size61 : tsize Try.prog 61 = (some 1) := by kernel_rfl
@[go_sem] theorem ty_bytes61 : tbytes Try.prog 61 = (some 8) := by kernel_rfl
@[go_sem] theorem ty_zero61 : tzero Try.prog 61 = (some Value.nilFunc) := by kernel_rfl
@[go_sem] theorem ty_agg61 : tagg Try.prog 61 = (some false) := by kernel_rfl
@[go_sem] theorem ty_und61 : Program.underlying Try.prog 61 = (some (TypeDesc.func #[3, 3] #[3] false)) := by kernel_rfl
@[go_sem] theorem ty_elem61 : telem Try.prog 61 = none := by kernel_rfl
@[go_sem] theorem ty_size62 : tsize Try.prog 62 = (some 1) := by kernel_rfl
@[go_sem] theorem ty_bytes62 : tbytes Try.prog 62 = (some 8) := by kernel_rfl
@[go_sem] theorem ty_zero62 : tzero Try.prog 62 = (some Value.nilFunc) := by kernel_rfl
@[go_sem] theorem ty_agg62 : tagg Try.prog 62 = (some false) := by kernel_rfl
@[go_sem] theorem ty_und62 : Program.underlying Try.prog 62 = (some (TypeDesc.func #[3] #[4] false)) := by kernel_rfl
@[go_sem] theorem ty_elem62 : telem Try.prog 62 = none := by kernel_rfl
@[go_sem] theorem ty_size63 : tsize Try.prog 63 = (some 1) := by kernel_rfl
@[go_sem] theorem ty_bytes63 : tbytes Try.prog 63 = (some 8) := by kernel_rfl
@[go_sem] theorem ty_zero63 : tzero Try.prog 63 = (some Value.nilFunc) := by kernel_rfl
@[go_sem] theorem ty_agg63 : tagg Try.prog 63 = (some false) := by kernel_rfl
@[go_sem] theorem ty_und63 : Program.underlying Try.prog 63 = (some (TypeDesc.func #[28, 62] #[4] false)) := by kernel_rfl
@[go_sem] theorem ty_elem63 : telem Try.prog 63 = none := by kernel_rfl
@[go_sem] theorem ty_size64 : tsize Try.prog 64 = (some 1) := by kernel_rfl
@[go_sem] theorem ty_bytes64 : tbytes Try.prog 64 = (some 0) := by kernel_rfl
@[go_sem] theorem ty_zero64 : tzero Try.prog 64 = (some (Value.tuple #[(Value.int IntKind.i64 0), (Value.bool false)])) := by kernel_rfl
@[go_sem] theorem ty_agg64 : tagg Try.prog 64 = (some false) := by kernel_rfl
@[go_sem] theorem ty_und64 : Program.underlying Try.prog 64 = (some (TypeDesc.tuple #[3, 4])) := by kernel_rfl
@[go_sem] theorem ty_elem64 : telem Try.prog 64 = none := by kernel_rfl
@[go_sem] theorem ty_size65 : tsize Try.prog 65 = (some 1) := by kernel_rfl
@[go_sem] theorem ty_bytes65 : tbytes Try.prog 65 = (some 8) := by kernel_rfl
@[go_sem] theorem ty_zero65 : tzero Try.prog 65 = (some Value.nilFunc) := by kernel_rfl
@[go_sem] theorem ty_agg65 : tagg Try.prog 65 = (some false) := by kernel_rfl
@[go_sem] theorem ty_und65 : Program.underlying Try.prog 65 = (some (TypeDesc.func #[28, 3] #[3, 4] false)) := by kernel_rfl
@[go_sem] theorem ty_elem65 : telem Try.prog 65 = none := by kernel_rfl
@[go_sem] theorem ty_size66 : tsize Try.prog 66 = (some 1) := by kernel_rfl
@[go_sem] theorem ty_bytes66 : tbytes Try.prog 66 = (some 8) := by kernel_rfl
@[go_sem] theorem ty_zero66 : tzero Try.prog 66 = (some Value.nilFunc) := by kernel_rfl
@[go_sem] theorem ty_agg66 : tagg Try.prog 66 = (some false) := by kernel_rfl
@[go_sem] theorem ty_und66 : Program.underlying Try.prog 66 = (some (TypeDesc.func #[28, 3, 28] #[28] true)) := by kernel_rfl
@[go_sem] theorem ty_elem66 : telem Try.prog 66 = none := by kernel_rfl
@[go_sem] theorem ty_size67 : tsize Try.prog 67 = (some 1) := by kernel_rfl
@[go_sem] theorem ty_bytes67 : tbytes Try.prog 67 = (some 8) := by kernel_rfl
@[go_sem] theorem ty_zero67 : tzero Try.prog 67 = (some Value.nilFunc) := by kernel_rfl
@[go_sem] theorem ty_agg67 : tagg Try.prog 67 = (some false) := by kernel_rfl
@[go_sem] theorem ty_und67 : Program.underlying Try.prog 67 = (some (TypeDesc.func #[28, 62] #[3] false)) := by kernel_rfl
@[go_sem] theorem ty_elem67 : telem Try.prog 67 = none := by kernel_rfl
@[go_sem] theorem ty_size68 : tsize Try.prog 68 = (some 1) := by kernel_rfl
@[go_sem] theorem ty_bytes68 : tbytes Try.prog 68 = (some 8) := by kernel_rfl
@[go_sem] theorem ty_zero68 : tzero Try.prog 68 = (some (Value.int IntKind.u64 0)) := by kernel_rfl
@[go_sem] theorem ty_agg68 : tagg Try.prog 68 = (some false) := by kernel_rfl
@[go_sem] theorem ty_und68 : Program.underlying Try.prog 68 = (some (TypeDesc.int IntKind.u64)) := by kernel_rfl
@[go_sem] theorem ty_elem68 : telem Try.prog 68 = none := by kernel_rfl
@[go_sem] theorem ty_size69 : tsize Try.prog 69 = (some 1) := by kernel_rfl
@[go_sem] theorem ty_bytes69 : tbytes Try.prog 69 = (some 8) := by kernel_rfl
@[go_sem] theorem ty_zero69 : tzero Try.prog 69 = (some Value.nilFunc) := by kernel_rfl
@[go_sem] theorem ty_agg69 : tagg Try.prog 69 = (some false) := by kernel_rfl
@[go_sem] theorem ty_und69 : Program.underlying Try.prog 69 = (some (TypeDesc.func #[28, 3] #[] false)) := by kernel_rfl
@[go_sem] theorem ty_elem69 : telem Try.prog 69 = none := by kernel_rfl
end Go.Ab
