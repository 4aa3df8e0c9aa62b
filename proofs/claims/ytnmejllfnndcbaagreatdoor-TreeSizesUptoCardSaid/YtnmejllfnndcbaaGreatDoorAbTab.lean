/- The tables of the program, looked up. -/
import Derived.Test.YtnmejllfnndcbaaGreatDoorAbSim
import Derived.Test.YtnmejllfnndcbaaGreatDoorProg
import Derived.KernelRfl
set_option linter.unusedSimpArgs false
set_option linter.unusedVariables false
namespace Go.Ab.Tab
set_option maxRecDepth 100000
theorem sz_0 : sizeA Go.Proofs.Tryz.prog 0 = some 1 := by kernel_rfl
theorem by_0 : bytesA Go.Proofs.Tryz.prog 0 = some 0 := by kernel_rfl
theorem ag_0 : aggA Go.Proofs.Tryz.prog 0 = some false := by kernel_rfl
theorem ze_0 : zeroA Go.Proofs.Tryz.prog 0 = some (AVal.tuple []) := by kernel_rfl
theorem sz_1 : sizeA Go.Proofs.Tryz.prog 1 = some 1 := by kernel_rfl
theorem by_1 : bytesA Go.Proofs.Tryz.prog 1 = some 8 := by kernel_rfl
theorem ag_1 : aggA Go.Proofs.Tryz.prog 1 = some false := by kernel_rfl
theorem ze_1 : zeroA Go.Proofs.Tryz.prog 1 = some AVal.nilf := by kernel_rfl
theorem un_1 : Go.Proofs.Tryz.prog.underlying 1 = some (TypeDesc.func { toList := [] } { toList := [] } false) := by kernel_rfl
theorem sz_2 : sizeA Go.Proofs.Tryz.prog 2 = some 1 := by kernel_rfl
theorem by_2 : bytesA Go.Proofs.Tryz.prog 2 = some 8 := by kernel_rfl
theorem ag_2 : aggA Go.Proofs.Tryz.prog 2 = some false := by kernel_rfl
theorem ze_2 : zeroA Go.Proofs.Tryz.prog 2 = some (AVal.int IntKind.i64 0) := by kernel_rfl
theorem un_2 : Go.Proofs.Tryz.prog.underlying 2 = some (TypeDesc.int IntKind.i64) := by kernel_rfl
theorem sz_3 : sizeA Go.Proofs.Tryz.prog 3 = some 1 := by kernel_rfl
theorem by_3 : bytesA Go.Proofs.Tryz.prog 3 = some 8 := by kernel_rfl
theorem ag_3 : aggA Go.Proofs.Tryz.prog 3 = some false := by kernel_rfl
theorem ze_3 : zeroA Go.Proofs.Tryz.prog 3 = some (AVal.int IntKind.i64 0) := by kernel_rfl
theorem un_3 : Go.Proofs.Tryz.prog.underlying 3 = some (TypeDesc.int IntKind.i64) := by kernel_rfl
theorem sz_4 : sizeA Go.Proofs.Tryz.prog 4 = some 1 := by kernel_rfl
theorem by_4 : bytesA Go.Proofs.Tryz.prog 4 = some 1 := by kernel_rfl
theorem ag_4 : aggA Go.Proofs.Tryz.prog 4 = some false := by kernel_rfl
theorem ze_4 : zeroA Go.Proofs.Tryz.prog 4 = some (AVal.bool false) := by kernel_rfl
theorem un_4 : Go.Proofs.Tryz.prog.underlying 4 = some (TypeDesc.bool) := by kernel_rfl
theorem sz_5 : sizeA Go.Proofs.Tryz.prog 5 = some 1 := by kernel_rfl
theorem by_5 : bytesA Go.Proofs.Tryz.prog 5 = some 1 := by kernel_rfl
theorem ag_5 : aggA Go.Proofs.Tryz.prog 5 = some false := by kernel_rfl
theorem ze_5 : zeroA Go.Proofs.Tryz.prog 5 = some (AVal.int IntKind.u8 0) := by kernel_rfl
theorem un_5 : Go.Proofs.Tryz.prog.underlying 5 = some (TypeDesc.int IntKind.u8) := by kernel_rfl
theorem sz_6 : sizeA Go.Proofs.Tryz.prog 6 = some 1 := by kernel_rfl
theorem by_6 : bytesA Go.Proofs.Tryz.prog 6 = some 1 := by kernel_rfl
theorem ag_6 : aggA Go.Proofs.Tryz.prog 6 = some false := by kernel_rfl
theorem ze_6 : zeroA Go.Proofs.Tryz.prog 6 = some (AVal.int IntKind.u8 0) := by kernel_rfl
theorem un_6 : Go.Proofs.Tryz.prog.underlying 6 = some (TypeDesc.int IntKind.u8) := by kernel_rfl
theorem sz_7 : sizeA Go.Proofs.Tryz.prog 7 = some 4 := by kernel_rfl
theorem by_7 : bytesA Go.Proofs.Tryz.prog 7 = some 24 := by kernel_rfl
theorem ag_7 : aggA Go.Proofs.Tryz.prog 7 = some true := by kernel_rfl
theorem ze_7 : zeroA Go.Proofs.Tryz.prog 7 = some (AVal.agg [AVal.int IntKind.i64 0, AVal.int IntKind.i64 0, AVal.bool false, AVal.int IntKind.u8 0]) := by kernel_rfl
theorem bo_7 : bok Go.Proofs.Tryz.prog 7 = true := by kernel_rfl
theorem fp_7_0 : fieldPlaceA Go.Proofs.Tryz.prog 7 0 = some (0, 2) := by kernel_rfl
theorem bp_7_0 : bplace Go.Proofs.Tryz.prog 7 0 = some (0, 1) := by kernel_rfl
theorem fp_7_1 : fieldPlaceA Go.Proofs.Tryz.prog 7 1 = some (1, 3) := by kernel_rfl
theorem bp_7_1 : bplace Go.Proofs.Tryz.prog 7 1 = some (1, 1) := by kernel_rfl
theorem fp_7_2 : fieldPlaceA Go.Proofs.Tryz.prog 7 2 = some (2, 4) := by kernel_rfl
theorem bp_7_2 : bplace Go.Proofs.Tryz.prog 7 2 = some (2, 1) := by kernel_rfl
theorem fp_7_3 : fieldPlaceA Go.Proofs.Tryz.prog 7 3 = some (3, 6) := by kernel_rfl
theorem bp_7_3 : bplace Go.Proofs.Tryz.prog 7 3 = some (3, 1) := by kernel_rfl
theorem sz_8 : sizeA Go.Proofs.Tryz.prog 8 = some 4 := by kernel_rfl
theorem by_8 : bytesA Go.Proofs.Tryz.prog 8 = some 24 := by kernel_rfl
theorem ag_8 : aggA Go.Proofs.Tryz.prog 8 = some true := by kernel_rfl
theorem ze_8 : zeroA Go.Proofs.Tryz.prog 8 = some (AVal.agg [AVal.int IntKind.i64 0, AVal.int IntKind.i64 0, AVal.bool false, AVal.int IntKind.u8 0]) := by kernel_rfl
theorem bo_8 : bok Go.Proofs.Tryz.prog 8 = true := by kernel_rfl
theorem fp_8_0 : fieldPlaceA Go.Proofs.Tryz.prog 8 0 = some (0, 2) := by kernel_rfl
theorem bp_8_0 : bplace Go.Proofs.Tryz.prog 8 0 = some (0, 1) := by kernel_rfl
theorem fp_8_1 : fieldPlaceA Go.Proofs.Tryz.prog 8 1 = some (1, 3) := by kernel_rfl
theorem bp_8_1 : bplace Go.Proofs.Tryz.prog 8 1 = some (1, 1) := by kernel_rfl
theorem fp_8_2 : fieldPlaceA Go.Proofs.Tryz.prog 8 2 = some (2, 4) := by kernel_rfl
theorem bp_8_2 : bplace Go.Proofs.Tryz.prog 8 2 = some (2, 1) := by kernel_rfl
theorem fp_8_3 : fieldPlaceA Go.Proofs.Tryz.prog 8 3 = some (3, 6) := by kernel_rfl
theorem bp_8_3 : bplace Go.Proofs.Tryz.prog 8 3 = some (3, 1) := by kernel_rfl
theorem sz_9 : sizeA Go.Proofs.Tryz.prog 9 = some 1 := by kernel_rfl
theorem by_9 : bytesA Go.Proofs.Tryz.prog 9 = some 16 := by kernel_rfl
theorem ag_9 : aggA Go.Proofs.Tryz.prog 9 = some false := by kernel_rfl
theorem ze_9 : zeroA Go.Proofs.Tryz.prog 9 = some (AVal.str []) := by kernel_rfl
theorem un_9 : Go.Proofs.Tryz.prog.underlying 9 = some (TypeDesc.string) := by kernel_rfl
theorem sz_10 : sizeA Go.Proofs.Tryz.prog 10 = some 1 := by kernel_rfl
theorem by_10 : bytesA Go.Proofs.Tryz.prog 10 = some 16 := by kernel_rfl
theorem ag_10 : aggA Go.Proofs.Tryz.prog 10 = some false := by kernel_rfl
theorem ze_10 : zeroA Go.Proofs.Tryz.prog 10 = some (AVal.str []) := by kernel_rfl
theorem un_10 : Go.Proofs.Tryz.prog.underlying 10 = some (TypeDesc.string) := by kernel_rfl
theorem sz_11 : sizeA Go.Proofs.Tryz.prog 11 = some 1 := by kernel_rfl
theorem by_11 : bytesA Go.Proofs.Tryz.prog 11 = some 16 := by kernel_rfl
theorem ag_11 : aggA Go.Proofs.Tryz.prog 11 = some false := by kernel_rfl
theorem ze_11 : zeroA Go.Proofs.Tryz.prog 11 = some (AVal.str []) := by kernel_rfl
theorem un_11 : Go.Proofs.Tryz.prog.underlying 11 = some (TypeDesc.string) := by kernel_rfl
theorem sz_12 : sizeA Go.Proofs.Tryz.prog 12 = some 1 := by kernel_rfl
theorem by_12 : bytesA Go.Proofs.Tryz.prog 12 = some 8 := by kernel_rfl
theorem ag_12 : aggA Go.Proofs.Tryz.prog 12 = some false := by kernel_rfl
theorem ze_12 : zeroA Go.Proofs.Tryz.prog 12 = some (AVal.int IntKind.u64 0) := by kernel_rfl
theorem un_12 : Go.Proofs.Tryz.prog.underlying 12 = some (TypeDesc.int IntKind.u64) := by kernel_rfl
theorem sz_13 : sizeA Go.Proofs.Tryz.prog 13 = some 2 := by kernel_rfl
theorem by_13 : bytesA Go.Proofs.Tryz.prog 13 = some 24 := by kernel_rfl
theorem ag_13 : aggA Go.Proofs.Tryz.prog 13 = some true := by kernel_rfl
theorem ze_13 : zeroA Go.Proofs.Tryz.prog 13 = some (AVal.agg [AVal.str [], AVal.int IntKind.u64 0]) := by kernel_rfl
theorem bo_13 : bok Go.Proofs.Tryz.prog 13 = true := by kernel_rfl
theorem fp_13_0 : fieldPlaceA Go.Proofs.Tryz.prog 13 0 = some (0, 9) := by kernel_rfl
theorem bp_13_0 : bplace Go.Proofs.Tryz.prog 13 0 = some (0, 1) := by kernel_rfl
theorem fp_13_1 : fieldPlaceA Go.Proofs.Tryz.prog 13 1 = some (1, 12) := by kernel_rfl
theorem bp_13_1 : bplace Go.Proofs.Tryz.prog 13 1 = some (1, 1) := by kernel_rfl
theorem sz_14 : sizeA Go.Proofs.Tryz.prog 14 = some 2 := by kernel_rfl
theorem by_14 : bytesA Go.Proofs.Tryz.prog 14 = some 24 := by kernel_rfl
theorem ag_14 : aggA Go.Proofs.Tryz.prog 14 = some true := by kernel_rfl
theorem ze_14 : zeroA Go.Proofs.Tryz.prog 14 = some (AVal.agg [AVal.str [], AVal.int IntKind.u64 0]) := by kernel_rfl
theorem bo_14 : bok Go.Proofs.Tryz.prog 14 = true := by kernel_rfl
theorem fp_14_0 : fieldPlaceA Go.Proofs.Tryz.prog 14 0 = some (0, 9) := by kernel_rfl
theorem bp_14_0 : bplace Go.Proofs.Tryz.prog 14 0 = some (0, 1) := by kernel_rfl
theorem fp_14_1 : fieldPlaceA Go.Proofs.Tryz.prog 14 1 = some (1, 12) := by kernel_rfl
theorem bp_14_1 : bplace Go.Proofs.Tryz.prog 14 1 = some (1, 1) := by kernel_rfl
theorem sz_15 : sizeA Go.Proofs.Tryz.prog 15 = some 1 := by kernel_rfl
theorem by_15 : bytesA Go.Proofs.Tryz.prog 15 = some 8 := by kernel_rfl
theorem ag_15 : aggA Go.Proofs.Tryz.prog 15 = some false := by kernel_rfl
theorem ze_15 : zeroA Go.Proofs.Tryz.prog 15 = some AVal.nilp := by kernel_rfl
theorem un_15 : Go.Proofs.Tryz.prog.underlying 15 = some (TypeDesc.pointer 202) := by kernel_rfl
theorem sz_16 : sizeA Go.Proofs.Tryz.prog 16 = some 1 := by kernel_rfl
theorem by_16 : bytesA Go.Proofs.Tryz.prog 16 = some 8 := by kernel_rfl
theorem ag_16 : aggA Go.Proofs.Tryz.prog 16 = some false := by kernel_rfl
theorem ze_16 : zeroA Go.Proofs.Tryz.prog 16 = some AVal.nilp := by kernel_rfl
theorem un_16 : Go.Proofs.Tryz.prog.underlying 16 = some (TypeDesc.pointer 205) := by kernel_rfl
theorem sz_17 : sizeA Go.Proofs.Tryz.prog 17 = some 1 := by kernel_rfl
theorem by_17 : bytesA Go.Proofs.Tryz.prog 17 = some 8 := by kernel_rfl
theorem ag_17 : aggA Go.Proofs.Tryz.prog 17 = some false := by kernel_rfl
theorem ze_17 : zeroA Go.Proofs.Tryz.prog 17 = some AVal.nilp := by kernel_rfl
theorem un_17 : Go.Proofs.Tryz.prog.underlying 17 = some (TypeDesc.pointer 213) := by kernel_rfl
theorem sz_18 : sizeA Go.Proofs.Tryz.prog 18 = some 1 := by kernel_rfl
theorem by_18 : bytesA Go.Proofs.Tryz.prog 18 = some 8 := by kernel_rfl
theorem ag_18 : aggA Go.Proofs.Tryz.prog 18 = some true := by kernel_rfl
theorem ze_18 : zeroA Go.Proofs.Tryz.prog 18 = some (AVal.agg [AVal.nilp]) := by kernel_rfl
theorem bo_18 : bok Go.Proofs.Tryz.prog 18 = true := by kernel_rfl
theorem fp_18_0 : fieldPlaceA Go.Proofs.Tryz.prog 18 0 = some (0, 17) := by kernel_rfl
theorem bp_18_0 : bplace Go.Proofs.Tryz.prog 18 0 = some (0, 1) := by kernel_rfl
theorem sz_19 : sizeA Go.Proofs.Tryz.prog 19 = some 1 := by kernel_rfl
theorem by_19 : bytesA Go.Proofs.Tryz.prog 19 = some 8 := by kernel_rfl
theorem ag_19 : aggA Go.Proofs.Tryz.prog 19 = some true := by kernel_rfl
theorem ze_19 : zeroA Go.Proofs.Tryz.prog 19 = some (AVal.agg [AVal.nilp]) := by kernel_rfl
theorem bo_19 : bok Go.Proofs.Tryz.prog 19 = true := by kernel_rfl
theorem fp_19_0 : fieldPlaceA Go.Proofs.Tryz.prog 19 0 = some (0, 17) := by kernel_rfl
theorem bp_19_0 : bplace Go.Proofs.Tryz.prog 19 0 = some (0, 1) := by kernel_rfl
theorem sz_20 : sizeA Go.Proofs.Tryz.prog 20 = some 1 := by kernel_rfl
theorem by_20 : bytesA Go.Proofs.Tryz.prog 20 = some 16 := by kernel_rfl
theorem ag_20 : aggA Go.Proofs.Tryz.prog 20 = some false := by kernel_rfl
theorem ze_20 : zeroA Go.Proofs.Tryz.prog 20 = some AVal.nili := by kernel_rfl
theorem un_20 : Go.Proofs.Tryz.prog.underlying 20 = some (TypeDesc.interface { toList := [] }) := by kernel_rfl
theorem sz_21 : sizeA Go.Proofs.Tryz.prog 21 = some 1 := by kernel_rfl
theorem by_21 : bytesA Go.Proofs.Tryz.prog 21 = some 4 := by kernel_rfl
theorem ag_21 : aggA Go.Proofs.Tryz.prog 21 = some false := by kernel_rfl
theorem ze_21 : zeroA Go.Proofs.Tryz.prog 21 = some (AVal.int IntKind.i32 0) := by kernel_rfl
theorem un_21 : Go.Proofs.Tryz.prog.underlying 21 = some (TypeDesc.int IntKind.i32) := by kernel_rfl
theorem sz_22 : sizeA Go.Proofs.Tryz.prog 22 = some 1 := by kernel_rfl
theorem by_22 : bytesA Go.Proofs.Tryz.prog 22 = some 24 := by kernel_rfl
theorem ag_22 : aggA Go.Proofs.Tryz.prog 22 = some false := by kernel_rfl
theorem ze_22 : zeroA Go.Proofs.Tryz.prog 22 = some (AVal.slice [] Go.Ab.Tk.full) := by kernel_rfl
theorem un_22 : Go.Proofs.Tryz.prog.underlying 22 = some (TypeDesc.slice 66) := by kernel_rfl
theorem el_22 : elemA Go.Proofs.Tryz.prog 22 = some 66 := by kernel_rfl
theorem sz_23 : sizeA Go.Proofs.Tryz.prog 23 = some 1 := by kernel_rfl
theorem by_23 : bytesA Go.Proofs.Tryz.prog 23 = some 24 := by kernel_rfl
theorem ag_23 : aggA Go.Proofs.Tryz.prog 23 = some false := by kernel_rfl
theorem ze_23 : zeroA Go.Proofs.Tryz.prog 23 = some (AVal.slice [] Go.Ab.Tk.full) := by kernel_rfl
theorem un_23 : Go.Proofs.Tryz.prog.underlying 23 = some (TypeDesc.slice 55) := by kernel_rfl
theorem el_23 : elemA Go.Proofs.Tryz.prog 23 = some 55 := by kernel_rfl
theorem sz_24 : sizeA Go.Proofs.Tryz.prog 24 = some 2 := by kernel_rfl
theorem by_24 : bytesA Go.Proofs.Tryz.prog 24 = some 48 := by kernel_rfl
theorem ag_24 : aggA Go.Proofs.Tryz.prog 24 = some true := by kernel_rfl
theorem ze_24 : zeroA Go.Proofs.Tryz.prog 24 = some (AVal.agg [AVal.slice [] Go.Ab.Tk.full, AVal.slice [] Go.Ab.Tk.full]) := by kernel_rfl
theorem bo_24 : bok Go.Proofs.Tryz.prog 24 = true := by kernel_rfl
theorem fp_24_0 : fieldPlaceA Go.Proofs.Tryz.prog 24 0 = some (0, 22) := by kernel_rfl
theorem bp_24_0 : bplace Go.Proofs.Tryz.prog 24 0 = some (0, 1) := by kernel_rfl
theorem fp_24_1 : fieldPlaceA Go.Proofs.Tryz.prog 24 1 = some (1, 23) := by kernel_rfl
theorem bp_24_1 : bplace Go.Proofs.Tryz.prog 24 1 = some (1, 1) := by kernel_rfl
theorem sz_25 : sizeA Go.Proofs.Tryz.prog 25 = some 2 := by kernel_rfl
theorem by_25 : bytesA Go.Proofs.Tryz.prog 25 = some 48 := by kernel_rfl
theorem ag_25 : aggA Go.Proofs.Tryz.prog 25 = some true := by kernel_rfl
theorem ze_25 : zeroA Go.Proofs.Tryz.prog 25 = some (AVal.agg [AVal.slice [] Go.Ab.Tk.full, AVal.slice [] Go.Ab.Tk.full]) := by kernel_rfl
theorem bo_25 : bok Go.Proofs.Tryz.prog 25 = true := by kernel_rfl
theorem fp_25_0 : fieldPlaceA Go.Proofs.Tryz.prog 25 0 = some (0, 22) := by kernel_rfl
theorem bp_25_0 : bplace Go.Proofs.Tryz.prog 25 0 = some (0, 1) := by kernel_rfl
theorem fp_25_1 : fieldPlaceA Go.Proofs.Tryz.prog 25 1 = some (1, 23) := by kernel_rfl
theorem bp_25_1 : bplace Go.Proofs.Tryz.prog 25 1 = some (1, 1) := by kernel_rfl
theorem sz_26 : sizeA Go.Proofs.Tryz.prog 26 = some 1 := by kernel_rfl
theorem by_26 : bytesA Go.Proofs.Tryz.prog 26 = some 8 := by kernel_rfl
theorem ag_26 : aggA Go.Proofs.Tryz.prog 26 = some false := by kernel_rfl
theorem ze_26 : zeroA Go.Proofs.Tryz.prog 26 = some AVal.nilf := by kernel_rfl
theorem un_26 : Go.Proofs.Tryz.prog.underlying 26 = some (TypeDesc.func { toList := [] } { toList := [4] } false) := by kernel_rfl
theorem sz_27 : sizeA Go.Proofs.Tryz.prog 27 = some 1 := by kernel_rfl
theorem by_27 : bytesA Go.Proofs.Tryz.prog 27 = some 8 := by kernel_rfl
theorem ag_27 : aggA Go.Proofs.Tryz.prog 27 = some false := by kernel_rfl
theorem ze_27 : zeroA Go.Proofs.Tryz.prog 27 = some (AVal.int IntKind.i64 0) := by kernel_rfl
theorem un_27 : Go.Proofs.Tryz.prog.underlying 27 = some (TypeDesc.int IntKind.i64) := by kernel_rfl
theorem sz_28 : sizeA Go.Proofs.Tryz.prog 28 = some 1 := by kernel_rfl
theorem by_28 : bytesA Go.Proofs.Tryz.prog 28 = some 8 := by kernel_rfl
theorem ag_28 : aggA Go.Proofs.Tryz.prog 28 = some false := by kernel_rfl
theorem ze_28 : zeroA Go.Proofs.Tryz.prog 28 = some AVal.nilf := by kernel_rfl
theorem un_28 : Go.Proofs.Tryz.prog.underlying 28 = some (TypeDesc.func { toList := [25, 4] } { toList := [27] } false) := by kernel_rfl
theorem sz_29 : sizeA Go.Proofs.Tryz.prog 29 = some 1 := by kernel_rfl
theorem by_29 : bytesA Go.Proofs.Tryz.prog 29 = some 8 := by kernel_rfl
theorem ag_29 : aggA Go.Proofs.Tryz.prog 29 = some false := by kernel_rfl
theorem ze_29 : zeroA Go.Proofs.Tryz.prog 29 = some AVal.nilf := by kernel_rfl
theorem un_29 : Go.Proofs.Tryz.prog.underlying 29 = some (TypeDesc.func { toList := [25] } { toList := [4] } false) := by kernel_rfl
theorem sz_30 : sizeA Go.Proofs.Tryz.prog 30 = some 1 := by kernel_rfl
theorem by_30 : bytesA Go.Proofs.Tryz.prog 30 = some 0 := by kernel_rfl
theorem ag_30 : aggA Go.Proofs.Tryz.prog 30 = some false := by kernel_rfl
theorem ze_30 : zeroA Go.Proofs.Tryz.prog 30 = some (AVal.tuple [AVal.str [], AVal.int IntKind.i64 0]) := by kernel_rfl
theorem sz_31 : sizeA Go.Proofs.Tryz.prog 31 = some 1 := by kernel_rfl
theorem by_31 : bytesA Go.Proofs.Tryz.prog 31 = some 8 := by kernel_rfl
theorem ag_31 : aggA Go.Proofs.Tryz.prog 31 = some false := by kernel_rfl
theorem ze_31 : zeroA Go.Proofs.Tryz.prog 31 = some AVal.nilf := by kernel_rfl
theorem un_31 : Go.Proofs.Tryz.prog.underlying 31 = some (TypeDesc.func { toList := [25] } { toList := [9, 27] } false) := by kernel_rfl
theorem sz_32 : sizeA Go.Proofs.Tryz.prog 32 = some 1 := by kernel_rfl
theorem by_32 : bytesA Go.Proofs.Tryz.prog 32 = some 8 := by kernel_rfl
theorem ag_32 : aggA Go.Proofs.Tryz.prog 32 = some false := by kernel_rfl
theorem ze_32 : zeroA Go.Proofs.Tryz.prog 32 = some AVal.nilf := by kernel_rfl
theorem un_32 : Go.Proofs.Tryz.prog.underlying 32 = some (TypeDesc.func { toList := [25, 25] } { toList := [4] } false) := by kernel_rfl
theorem sz_33 : sizeA Go.Proofs.Tryz.prog 33 = some 1 := by kernel_rfl
theorem by_33 : bytesA Go.Proofs.Tryz.prog 33 = some 24 := by kernel_rfl
theorem ag_33 : aggA Go.Proofs.Tryz.prog 33 = some false := by kernel_rfl
theorem ze_33 : zeroA Go.Proofs.Tryz.prog 33 = some (AVal.slice [] Go.Ab.Tk.full) := by kernel_rfl
theorem un_33 : Go.Proofs.Tryz.prog.underlying 33 = some (TypeDesc.slice 9) := by kernel_rfl
theorem el_33 : elemA Go.Proofs.Tryz.prog 33 = some 9 := by kernel_rfl
theorem sz_34 : sizeA Go.Proofs.Tryz.prog 34 = some 1 := by kernel_rfl
theorem by_34 : bytesA Go.Proofs.Tryz.prog 34 = some 24 := by kernel_rfl
theorem ag_34 : aggA Go.Proofs.Tryz.prog 34 = some false := by kernel_rfl
theorem ze_34 : zeroA Go.Proofs.Tryz.prog 34 = some (AVal.slice [] Go.Ab.Tk.full) := by kernel_rfl
theorem un_34 : Go.Proofs.Tryz.prog.underlying 34 = some (TypeDesc.slice 36) := by kernel_rfl
theorem el_34 : elemA Go.Proofs.Tryz.prog 34 = some 36 := by kernel_rfl
theorem sz_35 : sizeA Go.Proofs.Tryz.prog 35 = some 5 := by kernel_rfl
theorem by_35 : bytesA Go.Proofs.Tryz.prog 35 = some 80 := by kernel_rfl
theorem ag_35 : aggA Go.Proofs.Tryz.prog 35 = some true := by kernel_rfl
theorem ze_35 : zeroA Go.Proofs.Tryz.prog 35 = some (AVal.agg [AVal.int IntKind.i64 0, AVal.str [], AVal.int IntKind.i64 0, AVal.slice [] Go.Ab.Tk.full, AVal.slice [] Go.Ab.Tk.full]) := by kernel_rfl
theorem bo_35 : bok Go.Proofs.Tryz.prog 35 = true := by kernel_rfl
theorem fp_35_0 : fieldPlaceA Go.Proofs.Tryz.prog 35 0 = some (0, 3) := by kernel_rfl
theorem bp_35_0 : bplace Go.Proofs.Tryz.prog 35 0 = some (0, 1) := by kernel_rfl
theorem fp_35_1 : fieldPlaceA Go.Proofs.Tryz.prog 35 1 = some (1, 9) := by kernel_rfl
theorem bp_35_1 : bplace Go.Proofs.Tryz.prog 35 1 = some (1, 1) := by kernel_rfl
theorem fp_35_2 : fieldPlaceA Go.Proofs.Tryz.prog 35 2 = some (2, 2) := by kernel_rfl
theorem bp_35_2 : bplace Go.Proofs.Tryz.prog 35 2 = some (2, 1) := by kernel_rfl
theorem fp_35_3 : fieldPlaceA Go.Proofs.Tryz.prog 35 3 = some (3, 33) := by kernel_rfl
theorem bp_35_3 : bplace Go.Proofs.Tryz.prog 35 3 = some (3, 1) := by kernel_rfl
theorem fp_35_4 : fieldPlaceA Go.Proofs.Tryz.prog 35 4 = some (4, 34) := by kernel_rfl
theorem bp_35_4 : bplace Go.Proofs.Tryz.prog 35 4 = some (4, 1) := by kernel_rfl
theorem sz_36 : sizeA Go.Proofs.Tryz.prog 36 = some 5 := by kernel_rfl
theorem by_36 : bytesA Go.Proofs.Tryz.prog 36 = some 80 := by kernel_rfl
theorem ag_36 : aggA Go.Proofs.Tryz.prog 36 = some true := by kernel_rfl
theorem ze_36 : zeroA Go.Proofs.Tryz.prog 36 = some (AVal.agg [AVal.int IntKind.i64 0, AVal.str [], AVal.int IntKind.i64 0, AVal.slice [] Go.Ab.Tk.full, AVal.slice [] Go.Ab.Tk.full]) := by kernel_rfl
theorem bo_36 : bok Go.Proofs.Tryz.prog 36 = true := by kernel_rfl
theorem fp_36_0 : fieldPlaceA Go.Proofs.Tryz.prog 36 0 = some (0, 3) := by kernel_rfl
theorem bp_36_0 : bplace Go.Proofs.Tryz.prog 36 0 = some (0, 1) := by kernel_rfl
theorem fp_36_1 : fieldPlaceA Go.Proofs.Tryz.prog 36 1 = some (1, 9) := by kernel_rfl
theorem bp_36_1 : bplace Go.Proofs.Tryz.prog 36 1 = some (1, 1) := by kernel_rfl
theorem fp_36_2 : fieldPlaceA Go.Proofs.Tryz.prog 36 2 = some (2, 2) := by kernel_rfl
theorem bp_36_2 : bplace Go.Proofs.Tryz.prog 36 2 = some (2, 1) := by kernel_rfl
theorem fp_36_3 : fieldPlaceA Go.Proofs.Tryz.prog 36 3 = some (3, 33) := by kernel_rfl
theorem bp_36_3 : bplace Go.Proofs.Tryz.prog 36 3 = some (3, 1) := by kernel_rfl
theorem fp_36_4 : fieldPlaceA Go.Proofs.Tryz.prog 36 4 = some (4, 34) := by kernel_rfl
theorem bp_36_4 : bplace Go.Proofs.Tryz.prog 36 4 = some (4, 1) := by kernel_rfl
theorem sz_37 : sizeA Go.Proofs.Tryz.prog 37 = some 1 := by kernel_rfl
theorem by_37 : bytesA Go.Proofs.Tryz.prog 37 = some 8 := by kernel_rfl
theorem ag_37 : aggA Go.Proofs.Tryz.prog 37 = some false := by kernel_rfl
theorem ze_37 : zeroA Go.Proofs.Tryz.prog 37 = some AVal.nilf := by kernel_rfl
theorem un_37 : Go.Proofs.Tryz.prog.underlying 37 = some (TypeDesc.func { toList := [36] } { toList := [3] } false) := by kernel_rfl
theorem sz_38 : sizeA Go.Proofs.Tryz.prog 38 = some 1 := by kernel_rfl
theorem by_38 : bytesA Go.Proofs.Tryz.prog 38 = some 8 := by kernel_rfl
theorem ag_38 : aggA Go.Proofs.Tryz.prog 38 = some false := by kernel_rfl
theorem ze_38 : zeroA Go.Proofs.Tryz.prog 38 = some AVal.nilf := by kernel_rfl
theorem un_38 : Go.Proofs.Tryz.prog.underlying 38 = some (TypeDesc.func { toList := [36, 36] } { toList := [4] } false) := by kernel_rfl
theorem sz_39 : sizeA Go.Proofs.Tryz.prog 39 = some 1 := by kernel_rfl
theorem by_39 : bytesA Go.Proofs.Tryz.prog 39 = some 8 := by kernel_rfl
theorem ag_39 : aggA Go.Proofs.Tryz.prog 39 = some false := by kernel_rfl
theorem ze_39 : zeroA Go.Proofs.Tryz.prog 39 = some AVal.nilf := by kernel_rfl
theorem un_39 : Go.Proofs.Tryz.prog.underlying 39 = some (TypeDesc.func { toList := [36] } { toList := [9] } false) := by kernel_rfl
theorem sz_40 : sizeA Go.Proofs.Tryz.prog 40 = some 1 := by kernel_rfl
theorem by_40 : bytesA Go.Proofs.Tryz.prog 40 = some 8 := by kernel_rfl
theorem ag_40 : aggA Go.Proofs.Tryz.prog 40 = some false := by kernel_rfl
theorem ze_40 : zeroA Go.Proofs.Tryz.prog 40 = some AVal.nilf := by kernel_rfl
theorem un_40 : Go.Proofs.Tryz.prog.underlying 40 = some (TypeDesc.func { toList := [36] } { toList := [25] } false) := by kernel_rfl
theorem sz_41 : sizeA Go.Proofs.Tryz.prog 41 = some 1 := by kernel_rfl
theorem by_41 : bytesA Go.Proofs.Tryz.prog 41 = some 24 := by kernel_rfl
theorem ag_41 : aggA Go.Proofs.Tryz.prog 41 = some false := by kernel_rfl
theorem ze_41 : zeroA Go.Proofs.Tryz.prog 41 = some (AVal.slice [] Go.Ab.Tk.full) := by kernel_rfl
theorem un_41 : Go.Proofs.Tryz.prog.underlying 41 = some (TypeDesc.slice 85) := by kernel_rfl
theorem el_41 : elemA Go.Proofs.Tryz.prog 41 = some 85 := by kernel_rfl
theorem sz_42 : sizeA Go.Proofs.Tryz.prog 42 = some 3 := by kernel_rfl
theorem by_42 : bytesA Go.Proofs.Tryz.prog 42 = some 24 := by kernel_rfl
theorem ag_42 : aggA Go.Proofs.Tryz.prog 42 = some true := by kernel_rfl
theorem ze_42 : zeroA Go.Proofs.Tryz.prog 42 = some (AVal.agg [AVal.int IntKind.i64 0, AVal.int IntKind.i64 0, AVal.int IntKind.i64 0]) := by kernel_rfl
theorem bo_42 : bok Go.Proofs.Tryz.prog 42 = true := by kernel_rfl
theorem fp_42_0 : fieldPlaceA Go.Proofs.Tryz.prog 42 0 = some (0, 27) := by kernel_rfl
theorem bp_42_0 : bplace Go.Proofs.Tryz.prog 42 0 = some (0, 1) := by kernel_rfl
theorem fp_42_1 : fieldPlaceA Go.Proofs.Tryz.prog 42 1 = some (1, 3) := by kernel_rfl
theorem bp_42_1 : bplace Go.Proofs.Tryz.prog 42 1 = some (1, 1) := by kernel_rfl
theorem fp_42_2 : fieldPlaceA Go.Proofs.Tryz.prog 42 2 = some (2, 3) := by kernel_rfl
theorem bp_42_2 : bplace Go.Proofs.Tryz.prog 42 2 = some (2, 1) := by kernel_rfl
theorem sz_43 : sizeA Go.Proofs.Tryz.prog 43 = some 3 := by kernel_rfl
theorem by_43 : bytesA Go.Proofs.Tryz.prog 43 = some 24 := by kernel_rfl
theorem ag_43 : aggA Go.Proofs.Tryz.prog 43 = some true := by kernel_rfl
theorem ze_43 : zeroA Go.Proofs.Tryz.prog 43 = some (AVal.agg [AVal.int IntKind.i64 0, AVal.int IntKind.i64 0, AVal.int IntKind.i64 0]) := by kernel_rfl
theorem bo_43 : bok Go.Proofs.Tryz.prog 43 = true := by kernel_rfl
theorem fp_43_0 : fieldPlaceA Go.Proofs.Tryz.prog 43 0 = some (0, 27) := by kernel_rfl
theorem bp_43_0 : bplace Go.Proofs.Tryz.prog 43 0 = some (0, 1) := by kernel_rfl
theorem fp_43_1 : fieldPlaceA Go.Proofs.Tryz.prog 43 1 = some (1, 3) := by kernel_rfl
theorem bp_43_1 : bplace Go.Proofs.Tryz.prog 43 1 = some (1, 1) := by kernel_rfl
theorem fp_43_2 : fieldPlaceA Go.Proofs.Tryz.prog 43 2 = some (2, 3) := by kernel_rfl
theorem bp_43_2 : bplace Go.Proofs.Tryz.prog 43 2 = some (2, 1) := by kernel_rfl
theorem sz_44 : sizeA Go.Proofs.Tryz.prog 44 = some 1 := by kernel_rfl
theorem by_44 : bytesA Go.Proofs.Tryz.prog 44 = some 0 := by kernel_rfl
theorem ag_44 : aggA Go.Proofs.Tryz.prog 44 = some false := by kernel_rfl
theorem sz_45 : sizeA Go.Proofs.Tryz.prog 45 = some 1 := by kernel_rfl
theorem by_45 : bytesA Go.Proofs.Tryz.prog 45 = some 8 := by kernel_rfl
theorem ag_45 : aggA Go.Proofs.Tryz.prog 45 = some false := by kernel_rfl
theorem ze_45 : zeroA Go.Proofs.Tryz.prog 45 = some AVal.nilf := by kernel_rfl
theorem un_45 : Go.Proofs.Tryz.prog.underlying 45 = some (TypeDesc.func { toList := [9] } { toList := [41, 43] } false) := by kernel_rfl
theorem sz_46 : sizeA Go.Proofs.Tryz.prog 46 = some 1 := by kernel_rfl
theorem by_46 : bytesA Go.Proofs.Tryz.prog 46 = some 8 := by kernel_rfl
theorem ag_46 : aggA Go.Proofs.Tryz.prog 46 = some false := by kernel_rfl
theorem ze_46 : zeroA Go.Proofs.Tryz.prog 46 = some AVal.nilf := by kernel_rfl
theorem un_46 : Go.Proofs.Tryz.prog.underlying 46 = some (TypeDesc.func { toList := [41] } { toList := [9] } false) := by kernel_rfl
theorem sz_47 : sizeA Go.Proofs.Tryz.prog 47 = some 1 := by kernel_rfl
theorem by_47 : bytesA Go.Proofs.Tryz.prog 47 = some 8 := by kernel_rfl
theorem ag_47 : aggA Go.Proofs.Tryz.prog 47 = some false := by kernel_rfl
theorem ze_47 : zeroA Go.Proofs.Tryz.prog 47 = some AVal.nilf := by kernel_rfl
theorem un_47 : Go.Proofs.Tryz.prog.underlying 47 = some (TypeDesc.func { toList := [] } { toList := [36] } false) := by kernel_rfl
theorem sz_48 : sizeA Go.Proofs.Tryz.prog 48 = some 6 := by kernel_rfl
theorem by_48 : bytesA Go.Proofs.Tryz.prog 48 = some 104 := by kernel_rfl
theorem ag_48 : aggA Go.Proofs.Tryz.prog 48 = some true := by kernel_rfl
theorem ze_48 : zeroA Go.Proofs.Tryz.prog 48 = some (AVal.agg [AVal.slice [] Go.Ab.Tk.full, AVal.int IntKind.i64 0, AVal.str [], AVal.int IntKind.i64 0, AVal.slice [] Go.Ab.Tk.full, AVal.slice [] Go.Ab.Tk.full]) := by kernel_rfl
theorem bo_48 : bok Go.Proofs.Tryz.prog 48 = true := by kernel_rfl
theorem fp_48_0 : fieldPlaceA Go.Proofs.Tryz.prog 48 0 = some (0, 33) := by kernel_rfl
theorem bp_48_0 : bplace Go.Proofs.Tryz.prog 48 0 = some (0, 1) := by kernel_rfl
theorem fp_48_1 : fieldPlaceA Go.Proofs.Tryz.prog 48 1 = some (1, 36) := by kernel_rfl
theorem bp_48_1 : bplace Go.Proofs.Tryz.prog 48 1 = some (1, 5) := by kernel_rfl
theorem sz_49 : sizeA Go.Proofs.Tryz.prog 49 = some 6 := by kernel_rfl
theorem by_49 : bytesA Go.Proofs.Tryz.prog 49 = some 104 := by kernel_rfl
theorem ag_49 : aggA Go.Proofs.Tryz.prog 49 = some true := by kernel_rfl
theorem ze_49 : zeroA Go.Proofs.Tryz.prog 49 = some (AVal.agg [AVal.slice [] Go.Ab.Tk.full, AVal.int IntKind.i64 0, AVal.str [], AVal.int IntKind.i64 0, AVal.slice [] Go.Ab.Tk.full, AVal.slice [] Go.Ab.Tk.full]) := by kernel_rfl
theorem bo_49 : bok Go.Proofs.Tryz.prog 49 = true := by kernel_rfl
theorem fp_49_0 : fieldPlaceA Go.Proofs.Tryz.prog 49 0 = some (0, 33) := by kernel_rfl
theorem bp_49_0 : bplace Go.Proofs.Tryz.prog 49 0 = some (0, 1) := by kernel_rfl
theorem fp_49_1 : fieldPlaceA Go.Proofs.Tryz.prog 49 1 = some (1, 36) := by kernel_rfl
theorem bp_49_1 : bplace Go.Proofs.Tryz.prog 49 1 = some (1, 5) := by kernel_rfl
theorem sz_50 : sizeA Go.Proofs.Tryz.prog 50 = some 1 := by kernel_rfl
theorem by_50 : bytesA Go.Proofs.Tryz.prog 50 = some 24 := by kernel_rfl
theorem ag_50 : aggA Go.Proofs.Tryz.prog 50 = some false := by kernel_rfl
theorem ze_50 : zeroA Go.Proofs.Tryz.prog 50 = some (AVal.slice [] Go.Ab.Tk.full) := by kernel_rfl
theorem un_50 : Go.Proofs.Tryz.prog.underlying 50 = some (TypeDesc.slice 96) := by kernel_rfl
theorem el_50 : elemA Go.Proofs.Tryz.prog 50 = some 96 := by kernel_rfl
theorem sz_51 : sizeA Go.Proofs.Tryz.prog 51 = some 7 := by kernel_rfl
theorem by_51 : bytesA Go.Proofs.Tryz.prog 51 = some 128 := by kernel_rfl
theorem ag_51 : aggA Go.Proofs.Tryz.prog 51 = some true := by kernel_rfl
theorem ze_51 : zeroA Go.Proofs.Tryz.prog 51 = some (AVal.agg [AVal.slice [] Go.Ab.Tk.full, AVal.int IntKind.i64 0, AVal.str [], AVal.int IntKind.i64 0, AVal.slice [] Go.Ab.Tk.full, AVal.slice [] Go.Ab.Tk.full, AVal.slice [] Go.Ab.Tk.full]) := by kernel_rfl
theorem bo_51 : bok Go.Proofs.Tryz.prog 51 = true := by kernel_rfl
theorem fp_51_0 : fieldPlaceA Go.Proofs.Tryz.prog 51 0 = some (0, 49) := by kernel_rfl
theorem bp_51_0 : bplace Go.Proofs.Tryz.prog 51 0 = some (0, 6) := by kernel_rfl
theorem fp_51_1 : fieldPlaceA Go.Proofs.Tryz.prog 51 1 = some (6, 50) := by kernel_rfl
theorem bp_51_1 : bplace Go.Proofs.Tryz.prog 51 1 = some (6, 1) := by kernel_rfl
theorem sz_52 : sizeA Go.Proofs.Tryz.prog 52 = some 7 := by kernel_rfl
theorem by_52 : bytesA Go.Proofs.Tryz.prog 52 = some 128 := by kernel_rfl
theorem ag_52 : aggA Go.Proofs.Tryz.prog 52 = some true := by kernel_rfl
theorem ze_52 : zeroA Go.Proofs.Tryz.prog 52 = some (AVal.agg [AVal.slice [] Go.Ab.Tk.full, AVal.int IntKind.i64 0, AVal.str [], AVal.int IntKind.i64 0, AVal.slice [] Go.Ab.Tk.full, AVal.slice [] Go.Ab.Tk.full, AVal.slice [] Go.Ab.Tk.full]) := by kernel_rfl
theorem bo_52 : bok Go.Proofs.Tryz.prog 52 = true := by kernel_rfl
theorem fp_52_0 : fieldPlaceA Go.Proofs.Tryz.prog 52 0 = some (0, 49) := by kernel_rfl
theorem bp_52_0 : bplace Go.Proofs.Tryz.prog 52 0 = some (0, 6) := by kernel_rfl
theorem fp_52_1 : fieldPlaceA Go.Proofs.Tryz.prog 52 1 = some (6, 50) := by kernel_rfl
theorem bp_52_1 : bplace Go.Proofs.Tryz.prog 52 1 = some (6, 1) := by kernel_rfl
theorem sz_53 : sizeA Go.Proofs.Tryz.prog 53 = some 1 := by kernel_rfl
theorem by_53 : bytesA Go.Proofs.Tryz.prog 53 = some 24 := by kernel_rfl
theorem ag_53 : aggA Go.Proofs.Tryz.prog 53 = some false := by kernel_rfl
theorem ze_53 : zeroA Go.Proofs.Tryz.prog 53 = some (AVal.slice [] Go.Ab.Tk.full) := by kernel_rfl
theorem un_53 : Go.Proofs.Tryz.prog.underlying 53 = some (TypeDesc.slice 52) := by kernel_rfl
theorem el_53 : elemA Go.Proofs.Tryz.prog 53 = some 52 := by kernel_rfl
theorem sz_54 : sizeA Go.Proofs.Tryz.prog 54 = some 5 := by kernel_rfl
theorem by_54 : bytesA Go.Proofs.Tryz.prog 54 = some 112 := by kernel_rfl
theorem ag_54 : aggA Go.Proofs.Tryz.prog 54 = some true := by kernel_rfl
theorem ze_54 : zeroA Go.Proofs.Tryz.prog 54 = some (AVal.agg [AVal.str [], AVal.slice [] Go.Ab.Tk.full, AVal.slice [] Go.Ab.Tk.full, AVal.slice [] Go.Ab.Tk.full, AVal.slice [] Go.Ab.Tk.full]) := by kernel_rfl
theorem bo_54 : bok Go.Proofs.Tryz.prog 54 = true := by kernel_rfl
theorem fp_54_0 : fieldPlaceA Go.Proofs.Tryz.prog 54 0 = some (0, 9) := by kernel_rfl
theorem bp_54_0 : bplace Go.Proofs.Tryz.prog 54 0 = some (0, 1) := by kernel_rfl
theorem fp_54_1 : fieldPlaceA Go.Proofs.Tryz.prog 54 1 = some (1, 33) := by kernel_rfl
theorem bp_54_1 : bplace Go.Proofs.Tryz.prog 54 1 = some (1, 1) := by kernel_rfl
theorem fp_54_2 : fieldPlaceA Go.Proofs.Tryz.prog 54 2 = some (2, 33) := by kernel_rfl
theorem bp_54_2 : bplace Go.Proofs.Tryz.prog 54 2 = some (2, 1) := by kernel_rfl
theorem fp_54_3 : fieldPlaceA Go.Proofs.Tryz.prog 54 3 = some (3, 33) := by kernel_rfl
theorem bp_54_3 : bplace Go.Proofs.Tryz.prog 54 3 = some (3, 1) := by kernel_rfl
theorem fp_54_4 : fieldPlaceA Go.Proofs.Tryz.prog 54 4 = some (4, 53) := by kernel_rfl
theorem bp_54_4 : bplace Go.Proofs.Tryz.prog 54 4 = some (4, 1) := by kernel_rfl
theorem sz_55 : sizeA Go.Proofs.Tryz.prog 55 = some 5 := by kernel_rfl
theorem by_55 : bytesA Go.Proofs.Tryz.prog 55 = some 112 := by kernel_rfl
theorem ag_55 : aggA Go.Proofs.Tryz.prog 55 = some true := by kernel_rfl
theorem ze_55 : zeroA Go.Proofs.Tryz.prog 55 = some (AVal.agg [AVal.str [], AVal.slice [] Go.Ab.Tk.full, AVal.slice [] Go.Ab.Tk.full, AVal.slice [] Go.Ab.Tk.full, AVal.slice [] Go.Ab.Tk.full]) := by kernel_rfl
theorem bo_55 : bok Go.Proofs.Tryz.prog 55 = true := by kernel_rfl
theorem fp_55_0 : fieldPlaceA Go.Proofs.Tryz.prog 55 0 = some (0, 9) := by kernel_rfl
theorem bp_55_0 : bplace Go.Proofs.Tryz.prog 55 0 = some (0, 1) := by kernel_rfl
theorem fp_55_1 : fieldPlaceA Go.Proofs.Tryz.prog 55 1 = some (1, 33) := by kernel_rfl
theorem bp_55_1 : bplace Go.Proofs.Tryz.prog 55 1 = some (1, 1) := by kernel_rfl
theorem fp_55_2 : fieldPlaceA Go.Proofs.Tryz.prog 55 2 = some (2, 33) := by kernel_rfl
theorem bp_55_2 : bplace Go.Proofs.Tryz.prog 55 2 = some (2, 1) := by kernel_rfl
theorem fp_55_3 : fieldPlaceA Go.Proofs.Tryz.prog 55 3 = some (3, 33) := by kernel_rfl
theorem bp_55_3 : bplace Go.Proofs.Tryz.prog 55 3 = some (3, 1) := by kernel_rfl
theorem fp_55_4 : fieldPlaceA Go.Proofs.Tryz.prog 55 4 = some (4, 53) := by kernel_rfl
theorem bp_55_4 : bplace Go.Proofs.Tryz.prog 55 4 = some (4, 1) := by kernel_rfl
theorem sz_56 : sizeA Go.Proofs.Tryz.prog 56 = some 1 := by kernel_rfl
theorem by_56 : bytesA Go.Proofs.Tryz.prog 56 = some 1 := by kernel_rfl
theorem ag_56 : aggA Go.Proofs.Tryz.prog 56 = some true := by kernel_rfl
theorem ze_56 : zeroA Go.Proofs.Tryz.prog 56 = some (AVal.agg [AVal.bool false]) := by kernel_rfl
theorem bo_56 : bok Go.Proofs.Tryz.prog 56 = true := by kernel_rfl
theorem fp_56_0 : fieldPlaceA Go.Proofs.Tryz.prog 56 0 = some (0, 4) := by kernel_rfl
theorem bp_56_0 : bplace Go.Proofs.Tryz.prog 56 0 = some (0, 1) := by kernel_rfl
theorem sz_57 : sizeA Go.Proofs.Tryz.prog 57 = some 1 := by kernel_rfl
theorem by_57 : bytesA Go.Proofs.Tryz.prog 57 = some 1 := by kernel_rfl
theorem ag_57 : aggA Go.Proofs.Tryz.prog 57 = some true := by kernel_rfl
theorem ze_57 : zeroA Go.Proofs.Tryz.prog 57 = some (AVal.agg [AVal.bool false]) := by kernel_rfl
theorem bo_57 : bok Go.Proofs.Tryz.prog 57 = true := by kernel_rfl
theorem fp_57_0 : fieldPlaceA Go.Proofs.Tryz.prog 57 0 = some (0, 4) := by kernel_rfl
theorem bp_57_0 : bplace Go.Proofs.Tryz.prog 57 0 = some (0, 1) := by kernel_rfl
theorem sz_58 : sizeA Go.Proofs.Tryz.prog 58 = some 1 := by kernel_rfl
theorem by_58 : bytesA Go.Proofs.Tryz.prog 58 = some 8 := by kernel_rfl
theorem ag_58 : aggA Go.Proofs.Tryz.prog 58 = some false := by kernel_rfl
theorem ze_58 : zeroA Go.Proofs.Tryz.prog 58 = some AVal.nilf := by kernel_rfl
theorem un_58 : Go.Proofs.Tryz.prog.underlying 58 = some (TypeDesc.func { toList := [55, 59] } { toList := [] } false) := by kernel_rfl
theorem sz_59 : sizeA Go.Proofs.Tryz.prog 59 = some 1 := by kernel_rfl
theorem by_59 : bytesA Go.Proofs.Tryz.prog 59 = some 8 := by kernel_rfl
theorem ag_59 : aggA Go.Proofs.Tryz.prog 59 = some false := by kernel_rfl
theorem ze_59 : zeroA Go.Proofs.Tryz.prog 59 = some AVal.nilf := by kernel_rfl
theorem un_59 : Go.Proofs.Tryz.prog.underlying 59 = some (TypeDesc.func { toList := [36] } { toList := [] } false) := by kernel_rfl
theorem sz_60 : sizeA Go.Proofs.Tryz.prog 60 = some 1 := by kernel_rfl
theorem by_60 : bytesA Go.Proofs.Tryz.prog 60 = some 8 := by kernel_rfl
theorem ag_60 : aggA Go.Proofs.Tryz.prog 60 = some false := by kernel_rfl
theorem ze_60 : zeroA Go.Proofs.Tryz.prog 60 = some AVal.nilf := by kernel_rfl
theorem un_60 : Go.Proofs.Tryz.prog.underlying 60 = some (TypeDesc.func { toList := [25, 4] } { toList := [4] } false) := by kernel_rfl
theorem sz_61 : sizeA Go.Proofs.Tryz.prog 61 = some 1 := by kernel_rfl
theorem by_61 : bytesA Go.Proofs.Tryz.prog 61 = some 8 := by kernel_rfl
theorem ag_61 : aggA Go.Proofs.Tryz.prog 61 = some false := by kernel_rfl
theorem ze_61 : zeroA Go.Proofs.Tryz.prog 61 = some AVal.nilf := by kernel_rfl
theorem un_61 : Go.Proofs.Tryz.prog.underlying 61 = some (TypeDesc.func { toList := [55] } { toList := [34] } false) := by kernel_rfl
theorem sz_62 : sizeA Go.Proofs.Tryz.prog 62 = some 1 := by kernel_rfl
theorem by_62 : bytesA Go.Proofs.Tryz.prog 62 = some 8 := by kernel_rfl
theorem ag_62 : aggA Go.Proofs.Tryz.prog 62 = some false := by kernel_rfl
theorem ze_62 : zeroA Go.Proofs.Tryz.prog 62 = some AVal.nilp := by kernel_rfl
theorem un_62 : Go.Proofs.Tryz.prog.underlying 62 = some (TypeDesc.pointer 64) := by kernel_rfl
theorem sz_63 : sizeA Go.Proofs.Tryz.prog 63 = some 1 := by kernel_rfl
theorem by_63 : bytesA Go.Proofs.Tryz.prog 63 = some 24 := by kernel_rfl
theorem ag_63 : aggA Go.Proofs.Tryz.prog 63 = some true := by kernel_rfl
theorem ze_63 : zeroA Go.Proofs.Tryz.prog 63 = some (AVal.agg [AVal.slice [] Go.Ab.Tk.full]) := by kernel_rfl
theorem bo_63 : bok Go.Proofs.Tryz.prog 63 = true := by kernel_rfl
theorem fp_63_0 : fieldPlaceA Go.Proofs.Tryz.prog 63 0 = some (0, 33) := by kernel_rfl
theorem bp_63_0 : bplace Go.Proofs.Tryz.prog 63 0 = some (0, 1) := by kernel_rfl
theorem sz_64 : sizeA Go.Proofs.Tryz.prog 64 = some 1 := by kernel_rfl
theorem by_64 : bytesA Go.Proofs.Tryz.prog 64 = some 24 := by kernel_rfl
theorem ag_64 : aggA Go.Proofs.Tryz.prog 64 = some true := by kernel_rfl
theorem ze_64 : zeroA Go.Proofs.Tryz.prog 64 = some (AVal.agg [AVal.slice [] Go.Ab.Tk.full]) := by kernel_rfl
theorem bo_64 : bok Go.Proofs.Tryz.prog 64 = true := by kernel_rfl
theorem fp_64_0 : fieldPlaceA Go.Proofs.Tryz.prog 64 0 = some (0, 33) := by kernel_rfl
theorem bp_64_0 : bplace Go.Proofs.Tryz.prog 64 0 = some (0, 1) := by kernel_rfl
theorem sz_65 : sizeA Go.Proofs.Tryz.prog 65 = some 2 := by kernel_rfl
theorem by_65 : bytesA Go.Proofs.Tryz.prog 65 = some 40 := by kernel_rfl
theorem ag_65 : aggA Go.Proofs.Tryz.prog 65 = some true := by kernel_rfl
theorem ze_65 : zeroA Go.Proofs.Tryz.prog 65 = some (AVal.agg [AVal.str [], AVal.slice [] Go.Ab.Tk.full]) := by kernel_rfl
theorem bo_65 : bok Go.Proofs.Tryz.prog 65 = true := by kernel_rfl
theorem fp_65_0 : fieldPlaceA Go.Proofs.Tryz.prog 65 0 = some (0, 9) := by kernel_rfl
theorem bp_65_0 : bplace Go.Proofs.Tryz.prog 65 0 = some (0, 1) := by kernel_rfl
theorem fp_65_1 : fieldPlaceA Go.Proofs.Tryz.prog 65 1 = some (1, 33) := by kernel_rfl
theorem bp_65_1 : bplace Go.Proofs.Tryz.prog 65 1 = some (1, 1) := by kernel_rfl
theorem sz_66 : sizeA Go.Proofs.Tryz.prog 66 = some 2 := by kernel_rfl
theorem by_66 : bytesA Go.Proofs.Tryz.prog 66 = some 40 := by kernel_rfl
theorem ag_66 : aggA Go.Proofs.Tryz.prog 66 = some true := by kernel_rfl
theorem ze_66 : zeroA Go.Proofs.Tryz.prog 66 = some (AVal.agg [AVal.str [], AVal.slice [] Go.Ab.Tk.full]) := by kernel_rfl
theorem bo_66 : bok Go.Proofs.Tryz.prog 66 = true := by kernel_rfl
theorem fp_66_0 : fieldPlaceA Go.Proofs.Tryz.prog 66 0 = some (0, 9) := by kernel_rfl
theorem bp_66_0 : bplace Go.Proofs.Tryz.prog 66 0 = some (0, 1) := by kernel_rfl
theorem fp_66_1 : fieldPlaceA Go.Proofs.Tryz.prog 66 1 = some (1, 33) := by kernel_rfl
theorem bp_66_1 : bplace Go.Proofs.Tryz.prog 66 1 = some (1, 1) := by kernel_rfl
theorem sz_67 : sizeA Go.Proofs.Tryz.prog 67 = some 1 := by kernel_rfl
theorem by_67 : bytesA Go.Proofs.Tryz.prog 67 = some 8 := by kernel_rfl
theorem ag_67 : aggA Go.Proofs.Tryz.prog 67 = some false := by kernel_rfl
theorem ze_67 : zeroA Go.Proofs.Tryz.prog 67 = some AVal.nilf := by kernel_rfl
theorem un_67 : Go.Proofs.Tryz.prog.underlying 67 = some (TypeDesc.func { toList := [33] } { toList := [] } true) := by kernel_rfl
theorem sz_68 : sizeA Go.Proofs.Tryz.prog 68 = some 1 := by kernel_rfl
theorem by_68 : bytesA Go.Proofs.Tryz.prog 68 = some 8 := by kernel_rfl
theorem ag_68 : aggA Go.Proofs.Tryz.prog 68 = some false := by kernel_rfl
theorem ze_68 : zeroA Go.Proofs.Tryz.prog 68 = some AVal.nilf := by kernel_rfl
theorem un_68 : Go.Proofs.Tryz.prog.underlying 68 = some (TypeDesc.func { toList := [33, 9] } { toList := [] } false) := by kernel_rfl
theorem sz_69 : sizeA Go.Proofs.Tryz.prog 69 = some 1 := by kernel_rfl
theorem by_69 : bytesA Go.Proofs.Tryz.prog 69 = some 8 := by kernel_rfl
theorem ag_69 : aggA Go.Proofs.Tryz.prog 69 = some false := by kernel_rfl
theorem ze_69 : zeroA Go.Proofs.Tryz.prog 69 = some AVal.nilf := by kernel_rfl
theorem un_69 : Go.Proofs.Tryz.prog.underlying 69 = some (TypeDesc.func { toList := [55] } { toList := [] } false) := by kernel_rfl
theorem sz_70 : sizeA Go.Proofs.Tryz.prog 70 = some 1 := by kernel_rfl
theorem by_70 : bytesA Go.Proofs.Tryz.prog 70 = some 8 := by kernel_rfl
theorem ag_70 : aggA Go.Proofs.Tryz.prog 70 = some false := by kernel_rfl
theorem ze_70 : zeroA Go.Proofs.Tryz.prog 70 = some AVal.nilf := by kernel_rfl
theorem un_70 : Go.Proofs.Tryz.prog.underlying 70 = some (TypeDesc.func { toList := [] } { toList := [9] } false) := by kernel_rfl
theorem sz_71 : sizeA Go.Proofs.Tryz.prog 71 = some 1 := by kernel_rfl
theorem by_71 : bytesA Go.Proofs.Tryz.prog 71 = some 8 := by kernel_rfl
theorem ag_71 : aggA Go.Proofs.Tryz.prog 71 = some false := by kernel_rfl
theorem ze_71 : zeroA Go.Proofs.Tryz.prog 71 = some AVal.nilf := by kernel_rfl
theorem un_71 : Go.Proofs.Tryz.prog.underlying 71 = some (TypeDesc.func { toList := [25] } { toList := [9] } false) := by kernel_rfl
theorem sz_72 : sizeA Go.Proofs.Tryz.prog 72 = some 1 := by kernel_rfl
theorem by_72 : bytesA Go.Proofs.Tryz.prog 72 = some 8 := by kernel_rfl
theorem ag_72 : aggA Go.Proofs.Tryz.prog 72 = some false := by kernel_rfl
theorem ze_72 : zeroA Go.Proofs.Tryz.prog 72 = some AVal.nilf := by kernel_rfl
theorem un_72 : Go.Proofs.Tryz.prog.underlying 72 = some (TypeDesc.func { toList := [22, 22, 73] } { toList := [4] } false) := by kernel_rfl
theorem sz_73 : sizeA Go.Proofs.Tryz.prog 73 = some 1 := by kernel_rfl
theorem by_73 : bytesA Go.Proofs.Tryz.prog 73 = some 8 := by kernel_rfl
theorem ag_73 : aggA Go.Proofs.Tryz.prog 73 = some false := by kernel_rfl
theorem ze_73 : zeroA Go.Proofs.Tryz.prog 73 = some AVal.nilf := by kernel_rfl
theorem un_73 : Go.Proofs.Tryz.prog.underlying 73 = some (TypeDesc.func { toList := [66, 66] } { toList := [4] } false) := by kernel_rfl
theorem sz_74 : sizeA Go.Proofs.Tryz.prog 74 = some 1 := by kernel_rfl
theorem by_74 : bytesA Go.Proofs.Tryz.prog 74 = some 8 := by kernel_rfl
theorem ag_74 : aggA Go.Proofs.Tryz.prog 74 = some false := by kernel_rfl
theorem ze_74 : zeroA Go.Proofs.Tryz.prog 74 = some AVal.nilf := by kernel_rfl
theorem un_74 : Go.Proofs.Tryz.prog.underlying 74 = some (TypeDesc.func { toList := [23, 23, 75] } { toList := [4] } false) := by kernel_rfl
theorem sz_75 : sizeA Go.Proofs.Tryz.prog 75 = some 1 := by kernel_rfl
theorem by_75 : bytesA Go.Proofs.Tryz.prog 75 = some 8 := by kernel_rfl
theorem ag_75 : aggA Go.Proofs.Tryz.prog 75 = some false := by kernel_rfl
theorem ze_75 : zeroA Go.Proofs.Tryz.prog 75 = some AVal.nilf := by kernel_rfl
theorem un_75 : Go.Proofs.Tryz.prog.underlying 75 = some (TypeDesc.func { toList := [55, 55] } { toList := [4] } false) := by kernel_rfl
theorem sz_76 : sizeA Go.Proofs.Tryz.prog 76 = some 1 := by kernel_rfl
theorem by_76 : bytesA Go.Proofs.Tryz.prog 76 = some 8 := by kernel_rfl
theorem ag_76 : aggA Go.Proofs.Tryz.prog 76 = some false := by kernel_rfl
theorem ze_76 : zeroA Go.Proofs.Tryz.prog 76 = some AVal.nilf := by kernel_rfl
theorem un_76 : Go.Proofs.Tryz.prog.underlying 76 = some (TypeDesc.func { toList := [33, 33] } { toList := [4] } false) := by kernel_rfl
theorem sz_77 : sizeA Go.Proofs.Tryz.prog 77 = some 1 := by kernel_rfl
theorem by_77 : bytesA Go.Proofs.Tryz.prog 77 = some 8 := by kernel_rfl
theorem ag_77 : aggA Go.Proofs.Tryz.prog 77 = some false := by kernel_rfl
theorem ze_77 : zeroA Go.Proofs.Tryz.prog 77 = some AVal.nilf := by kernel_rfl
theorem un_77 : Go.Proofs.Tryz.prog.underlying 77 = some (TypeDesc.func { toList := [52, 52] } { toList := [4] } false) := by kernel_rfl
theorem sz_78 : sizeA Go.Proofs.Tryz.prog 78 = some 1 := by kernel_rfl
theorem by_78 : bytesA Go.Proofs.Tryz.prog 78 = some 8 := by kernel_rfl
theorem ag_78 : aggA Go.Proofs.Tryz.prog 78 = some false := by kernel_rfl
theorem ze_78 : zeroA Go.Proofs.Tryz.prog 78 = some AVal.nilf := by kernel_rfl
theorem un_78 : Go.Proofs.Tryz.prog.underlying 78 = some (TypeDesc.func { toList := [2, 3] } { toList := [9] } false) := by kernel_rfl
theorem sz_79 : sizeA Go.Proofs.Tryz.prog 79 = some 1 := by kernel_rfl
theorem by_79 : bytesA Go.Proofs.Tryz.prog 79 = some 8 := by kernel_rfl
theorem ag_79 : aggA Go.Proofs.Tryz.prog 79 = some false := by kernel_rfl
theorem ze_79 : zeroA Go.Proofs.Tryz.prog 79 = some AVal.nilf := by kernel_rfl
theorem un_79 : Go.Proofs.Tryz.prog.underlying 79 = some (TypeDesc.func { toList := [33, 9] } { toList := [9] } false) := by kernel_rfl
theorem sz_80 : sizeA Go.Proofs.Tryz.prog 80 = some 1 := by kernel_rfl
theorem by_80 : bytesA Go.Proofs.Tryz.prog 80 = some 8 := by kernel_rfl
theorem ag_80 : aggA Go.Proofs.Tryz.prog 80 = some false := by kernel_rfl
theorem ze_80 : zeroA Go.Proofs.Tryz.prog 80 = some AVal.nilf := by kernel_rfl
theorem un_80 : Go.Proofs.Tryz.prog.underlying 80 = some (TypeDesc.func { toList := [34, 34, 38] } { toList := [4] } false) := by kernel_rfl
theorem sz_81 : sizeA Go.Proofs.Tryz.prog 81 = some 1 := by kernel_rfl
theorem by_81 : bytesA Go.Proofs.Tryz.prog 81 = some 8 := by kernel_rfl
theorem ag_81 : aggA Go.Proofs.Tryz.prog 81 = some false := by kernel_rfl
theorem ze_81 : zeroA Go.Proofs.Tryz.prog 81 = some AVal.nilp := by kernel_rfl
theorem un_81 : Go.Proofs.Tryz.prog.underlying 81 = some (TypeDesc.pointer 83) := by kernel_rfl
theorem sz_82 : sizeA Go.Proofs.Tryz.prog 82 = some 4 := by kernel_rfl
theorem by_82 : bytesA Go.Proofs.Tryz.prog 82 = some 40 := by kernel_rfl
theorem ag_82 : aggA Go.Proofs.Tryz.prog 82 = some true := by kernel_rfl
theorem ze_82 : zeroA Go.Proofs.Tryz.prog 82 = some (AVal.agg [AVal.str [], AVal.int IntKind.i64 0, AVal.int IntKind.i64 0, AVal.int IntKind.i64 0]) := by kernel_rfl
theorem bo_82 : bok Go.Proofs.Tryz.prog 82 = true := by kernel_rfl
theorem fp_82_0 : fieldPlaceA Go.Proofs.Tryz.prog 82 0 = some (0, 9) := by kernel_rfl
theorem bp_82_0 : bplace Go.Proofs.Tryz.prog 82 0 = some (0, 1) := by kernel_rfl
theorem fp_82_1 : fieldPlaceA Go.Proofs.Tryz.prog 82 1 = some (1, 3) := by kernel_rfl
theorem bp_82_1 : bplace Go.Proofs.Tryz.prog 82 1 = some (1, 1) := by kernel_rfl
theorem fp_82_2 : fieldPlaceA Go.Proofs.Tryz.prog 82 2 = some (2, 3) := by kernel_rfl
theorem bp_82_2 : bplace Go.Proofs.Tryz.prog 82 2 = some (2, 1) := by kernel_rfl
theorem fp_82_3 : fieldPlaceA Go.Proofs.Tryz.prog 82 3 = some (3, 3) := by kernel_rfl
theorem bp_82_3 : bplace Go.Proofs.Tryz.prog 82 3 = some (3, 1) := by kernel_rfl
theorem sz_83 : sizeA Go.Proofs.Tryz.prog 83 = some 4 := by kernel_rfl
theorem by_83 : bytesA Go.Proofs.Tryz.prog 83 = some 40 := by kernel_rfl
theorem ag_83 : aggA Go.Proofs.Tryz.prog 83 = some true := by kernel_rfl
theorem ze_83 : zeroA Go.Proofs.Tryz.prog 83 = some (AVal.agg [AVal.str [], AVal.int IntKind.i64 0, AVal.int IntKind.i64 0, AVal.int IntKind.i64 0]) := by kernel_rfl
theorem bo_83 : bok Go.Proofs.Tryz.prog 83 = true := by kernel_rfl
theorem fp_83_0 : fieldPlaceA Go.Proofs.Tryz.prog 83 0 = some (0, 9) := by kernel_rfl
theorem bp_83_0 : bplace Go.Proofs.Tryz.prog 83 0 = some (0, 1) := by kernel_rfl
theorem fp_83_1 : fieldPlaceA Go.Proofs.Tryz.prog 83 1 = some (1, 3) := by kernel_rfl
theorem bp_83_1 : bplace Go.Proofs.Tryz.prog 83 1 = some (1, 1) := by kernel_rfl
theorem fp_83_2 : fieldPlaceA Go.Proofs.Tryz.prog 83 2 = some (2, 3) := by kernel_rfl
theorem bp_83_2 : bplace Go.Proofs.Tryz.prog 83 2 = some (2, 1) := by kernel_rfl
theorem fp_83_3 : fieldPlaceA Go.Proofs.Tryz.prog 83 3 = some (3, 3) := by kernel_rfl
theorem bp_83_3 : bplace Go.Proofs.Tryz.prog 83 3 = some (3, 1) := by kernel_rfl
theorem sz_84 : sizeA Go.Proofs.Tryz.prog 84 = some 5 := by kernel_rfl
theorem by_84 : bytesA Go.Proofs.Tryz.prog 84 = some 48 := by kernel_rfl
theorem ag_84 : aggA Go.Proofs.Tryz.prog 84 = some true := by kernel_rfl
theorem ze_84 : zeroA Go.Proofs.Tryz.prog 84 = some (AVal.agg [AVal.int IntKind.i64 0, AVal.str [], AVal.int IntKind.i64 0, AVal.int IntKind.i64 0, AVal.int IntKind.i64 0]) := by kernel_rfl
theorem bo_84 : bok Go.Proofs.Tryz.prog 84 = true := by kernel_rfl
theorem fp_84_0 : fieldPlaceA Go.Proofs.Tryz.prog 84 0 = some (0, 3) := by kernel_rfl
theorem bp_84_0 : bplace Go.Proofs.Tryz.prog 84 0 = some (0, 1) := by kernel_rfl
theorem fp_84_1 : fieldPlaceA Go.Proofs.Tryz.prog 84 1 = some (1, 9) := by kernel_rfl
theorem bp_84_1 : bplace Go.Proofs.Tryz.prog 84 1 = some (1, 1) := by kernel_rfl
theorem fp_84_2 : fieldPlaceA Go.Proofs.Tryz.prog 84 2 = some (2, 2) := by kernel_rfl
theorem bp_84_2 : bplace Go.Proofs.Tryz.prog 84 2 = some (2, 1) := by kernel_rfl
theorem fp_84_3 : fieldPlaceA Go.Proofs.Tryz.prog 84 3 = some (3, 3) := by kernel_rfl
theorem bp_84_3 : bplace Go.Proofs.Tryz.prog 84 3 = some (3, 1) := by kernel_rfl
theorem fp_84_4 : fieldPlaceA Go.Proofs.Tryz.prog 84 4 = some (4, 3) := by kernel_rfl
theorem bp_84_4 : bplace Go.Proofs.Tryz.prog 84 4 = some (4, 1) := by kernel_rfl
theorem sz_85 : sizeA Go.Proofs.Tryz.prog 85 = some 5 := by kernel_rfl
theorem by_85 : bytesA Go.Proofs.Tryz.prog 85 = some 48 := by kernel_rfl
theorem ag_85 : aggA Go.Proofs.Tryz.prog 85 = some true := by kernel_rfl
theorem ze_85 : zeroA Go.Proofs.Tryz.prog 85 = some (AVal.agg [AVal.int IntKind.i64 0, AVal.str [], AVal.int IntKind.i64 0, AVal.int IntKind.i64 0, AVal.int IntKind.i64 0]) := by kernel_rfl
theorem bo_85 : bok Go.Proofs.Tryz.prog 85 = true := by kernel_rfl
theorem fp_85_0 : fieldPlaceA Go.Proofs.Tryz.prog 85 0 = some (0, 3) := by kernel_rfl
theorem bp_85_0 : bplace Go.Proofs.Tryz.prog 85 0 = some (0, 1) := by kernel_rfl
theorem fp_85_1 : fieldPlaceA Go.Proofs.Tryz.prog 85 1 = some (1, 9) := by kernel_rfl
theorem bp_85_1 : bplace Go.Proofs.Tryz.prog 85 1 = some (1, 1) := by kernel_rfl
theorem fp_85_2 : fieldPlaceA Go.Proofs.Tryz.prog 85 2 = some (2, 2) := by kernel_rfl
theorem bp_85_2 : bplace Go.Proofs.Tryz.prog 85 2 = some (2, 1) := by kernel_rfl
theorem fp_85_3 : fieldPlaceA Go.Proofs.Tryz.prog 85 3 = some (3, 3) := by kernel_rfl
theorem bp_85_3 : bplace Go.Proofs.Tryz.prog 85 3 = some (3, 1) := by kernel_rfl
theorem fp_85_4 : fieldPlaceA Go.Proofs.Tryz.prog 85 4 = some (4, 3) := by kernel_rfl
theorem bp_85_4 : bplace Go.Proofs.Tryz.prog 85 4 = some (4, 1) := by kernel_rfl
theorem sz_86 : sizeA Go.Proofs.Tryz.prog 86 = some 1 := by kernel_rfl
theorem by_86 : bytesA Go.Proofs.Tryz.prog 86 = some 0 := by kernel_rfl
theorem ag_86 : aggA Go.Proofs.Tryz.prog 86 = some false := by kernel_rfl
theorem sz_87 : sizeA Go.Proofs.Tryz.prog 87 = some 1 := by kernel_rfl
theorem by_87 : bytesA Go.Proofs.Tryz.prog 87 = some 8 := by kernel_rfl
theorem ag_87 : aggA Go.Proofs.Tryz.prog 87 = some false := by kernel_rfl
theorem ze_87 : zeroA Go.Proofs.Tryz.prog 87 = some AVal.nilf := by kernel_rfl
theorem un_87 : Go.Proofs.Tryz.prog.underlying 87 = some (TypeDesc.func { toList := [] } { toList := [85, 4] } false) := by kernel_rfl
theorem sz_88 : sizeA Go.Proofs.Tryz.prog 88 = some 1 := by kernel_rfl
theorem by_88 : bytesA Go.Proofs.Tryz.prog 88 = some 8 := by kernel_rfl
theorem ag_88 : aggA Go.Proofs.Tryz.prog 88 = some false := by kernel_rfl
theorem ze_88 : zeroA Go.Proofs.Tryz.prog 88 = some AVal.nilf := by kernel_rfl
theorem un_88 : Go.Proofs.Tryz.prog.underlying 88 = some (TypeDesc.func { toList := [3] } { toList := [] } false) := by kernel_rfl
theorem sz_89 : sizeA Go.Proofs.Tryz.prog 89 = some 1 := by kernel_rfl
theorem by_89 : bytesA Go.Proofs.Tryz.prog 89 = some 8 := by kernel_rfl
theorem ag_89 : aggA Go.Proofs.Tryz.prog 89 = some false := by kernel_rfl
theorem ze_89 : zeroA Go.Proofs.Tryz.prog 89 = some AVal.nilf := by kernel_rfl
theorem un_89 : Go.Proofs.Tryz.prog.underlying 89 = some (TypeDesc.func { toList := [9] } { toList := [4] } false) := by kernel_rfl
theorem sz_90 : sizeA Go.Proofs.Tryz.prog 90 = some 1 := by kernel_rfl
theorem by_90 : bytesA Go.Proofs.Tryz.prog 90 = some 8 := by kernel_rfl
theorem ag_90 : aggA Go.Proofs.Tryz.prog 90 = some false := by kernel_rfl
theorem ze_90 : zeroA Go.Proofs.Tryz.prog 90 = some AVal.nilf := by kernel_rfl
theorem un_90 : Go.Proofs.Tryz.prog.underlying 90 = some (TypeDesc.func { toList := [33, 3, 3, 89] } { toList := [4] } false) := by kernel_rfl
theorem sz_91 : sizeA Go.Proofs.Tryz.prog 91 = some 1 := by kernel_rfl
theorem by_91 : bytesA Go.Proofs.Tryz.prog 91 = some 8 := by kernel_rfl
theorem ag_91 : aggA Go.Proofs.Tryz.prog 91 = some false := by kernel_rfl
theorem ze_91 : zeroA Go.Proofs.Tryz.prog 91 = some AVal.nilf := by kernel_rfl
theorem un_91 : Go.Proofs.Tryz.prog.underlying 91 = some (TypeDesc.func { toList := [23, 92] } { toList := [4] } false) := by kernel_rfl
theorem sz_92 : sizeA Go.Proofs.Tryz.prog 92 = some 1 := by kernel_rfl
theorem by_92 : bytesA Go.Proofs.Tryz.prog 92 = some 8 := by kernel_rfl
theorem ag_92 : aggA Go.Proofs.Tryz.prog 92 = some false := by kernel_rfl
theorem ze_92 : zeroA Go.Proofs.Tryz.prog 92 = some AVal.nilf := by kernel_rfl
theorem un_92 : Go.Proofs.Tryz.prog.underlying 92 = some (TypeDesc.func { toList := [55] } { toList := [4] } false) := by kernel_rfl
theorem sz_93 : sizeA Go.Proofs.Tryz.prog 93 = some 1 := by kernel_rfl
theorem by_93 : bytesA Go.Proofs.Tryz.prog 93 = some 24 := by kernel_rfl
theorem ag_93 : aggA Go.Proofs.Tryz.prog 93 = some false := by kernel_rfl
theorem ze_93 : zeroA Go.Proofs.Tryz.prog 93 = some (AVal.slice [] Go.Ab.Tk.full) := by kernel_rfl
theorem un_93 : Go.Proofs.Tryz.prog.underlying 93 = some (TypeDesc.slice 49) := by kernel_rfl
theorem el_93 : elemA Go.Proofs.Tryz.prog 93 = some 49 := by kernel_rfl
theorem sz_94 : sizeA Go.Proofs.Tryz.prog 94 = some 1 := by kernel_rfl
theorem by_94 : bytesA Go.Proofs.Tryz.prog 94 = some 24 := by kernel_rfl
theorem ag_94 : aggA Go.Proofs.Tryz.prog 94 = some false := by kernel_rfl
theorem ze_94 : zeroA Go.Proofs.Tryz.prog 94 = some (AVal.slice [] Go.Ab.Tk.full) := by kernel_rfl
theorem un_94 : Go.Proofs.Tryz.prog.underlying 94 = some (TypeDesc.slice 98) := by kernel_rfl
theorem el_94 : elemA Go.Proofs.Tryz.prog 94 = some 98 := by kernel_rfl
theorem sz_95 : sizeA Go.Proofs.Tryz.prog 95 = some 3 := by kernel_rfl
theorem by_95 : bytesA Go.Proofs.Tryz.prog 95 = some 64 := by kernel_rfl
theorem ag_95 : aggA Go.Proofs.Tryz.prog 95 = some true := by kernel_rfl
theorem ze_95 : zeroA Go.Proofs.Tryz.prog 95 = some (AVal.agg [AVal.str [], AVal.slice [] Go.Ab.Tk.full, AVal.slice [] Go.Ab.Tk.full]) := by kernel_rfl
theorem bo_95 : bok Go.Proofs.Tryz.prog 95 = true := by kernel_rfl
theorem fp_95_0 : fieldPlaceA Go.Proofs.Tryz.prog 95 0 = some (0, 9) := by kernel_rfl
theorem bp_95_0 : bplace Go.Proofs.Tryz.prog 95 0 = some (0, 1) := by kernel_rfl
theorem fp_95_1 : fieldPlaceA Go.Proofs.Tryz.prog 95 1 = some (1, 93) := by kernel_rfl
theorem bp_95_1 : bplace Go.Proofs.Tryz.prog 95 1 = some (1, 1) := by kernel_rfl
theorem fp_95_2 : fieldPlaceA Go.Proofs.Tryz.prog 95 2 = some (2, 94) := by kernel_rfl
theorem bp_95_2 : bplace Go.Proofs.Tryz.prog 95 2 = some (2, 1) := by kernel_rfl
theorem sz_96 : sizeA Go.Proofs.Tryz.prog 96 = some 3 := by kernel_rfl
theorem by_96 : bytesA Go.Proofs.Tryz.prog 96 = some 64 := by kernel_rfl
theorem ag_96 : aggA Go.Proofs.Tryz.prog 96 = some true := by kernel_rfl
theorem ze_96 : zeroA Go.Proofs.Tryz.prog 96 = some (AVal.agg [AVal.str [], AVal.slice [] Go.Ab.Tk.full, AVal.slice [] Go.Ab.Tk.full]) := by kernel_rfl
theorem bo_96 : bok Go.Proofs.Tryz.prog 96 = true := by kernel_rfl
theorem fp_96_0 : fieldPlaceA Go.Proofs.Tryz.prog 96 0 = some (0, 9) := by kernel_rfl
theorem bp_96_0 : bplace Go.Proofs.Tryz.prog 96 0 = some (0, 1) := by kernel_rfl
theorem fp_96_1 : fieldPlaceA Go.Proofs.Tryz.prog 96 1 = some (1, 93) := by kernel_rfl
theorem bp_96_1 : bplace Go.Proofs.Tryz.prog 96 1 = some (1, 1) := by kernel_rfl
theorem fp_96_2 : fieldPlaceA Go.Proofs.Tryz.prog 96 2 = some (2, 94) := by kernel_rfl
theorem bp_96_2 : bplace Go.Proofs.Tryz.prog 96 2 = some (2, 1) := by kernel_rfl
theorem sz_97 : sizeA Go.Proofs.Tryz.prog 97 = some 6 := by kernel_rfl
theorem by_97 : bytesA Go.Proofs.Tryz.prog 97 = some 96 := by kernel_rfl
theorem ag_97 : aggA Go.Proofs.Tryz.prog 97 = some true := by kernel_rfl
theorem ze_97 : zeroA Go.Proofs.Tryz.prog 97 = some (AVal.agg [AVal.int IntKind.i64 0, AVal.str [], AVal.int IntKind.i64 0, AVal.slice [] Go.Ab.Tk.full, AVal.slice [] Go.Ab.Tk.full, AVal.str []]) := by kernel_rfl
theorem bo_97 : bok Go.Proofs.Tryz.prog 97 = true := by kernel_rfl
theorem fp_97_0 : fieldPlaceA Go.Proofs.Tryz.prog 97 0 = some (0, 36) := by kernel_rfl
theorem bp_97_0 : bplace Go.Proofs.Tryz.prog 97 0 = some (0, 5) := by kernel_rfl
theorem fp_97_1 : fieldPlaceA Go.Proofs.Tryz.prog 97 1 = some (5, 9) := by kernel_rfl
theorem bp_97_1 : bplace Go.Proofs.Tryz.prog 97 1 = some (5, 1) := by kernel_rfl
theorem sz_98 : sizeA Go.Proofs.Tryz.prog 98 = some 6 := by kernel_rfl
theorem by_98 : bytesA Go.Proofs.Tryz.prog 98 = some 96 := by kernel_rfl
theorem ag_98 : aggA Go.Proofs.Tryz.prog 98 = some true := by kernel_rfl
theorem ze_98 : zeroA Go.Proofs.Tryz.prog 98 = some (AVal.agg [AVal.int IntKind.i64 0, AVal.str [], AVal.int IntKind.i64 0, AVal.slice [] Go.Ab.Tk.full, AVal.slice [] Go.Ab.Tk.full, AVal.str []]) := by kernel_rfl
theorem bo_98 : bok Go.Proofs.Tryz.prog 98 = true := by kernel_rfl
theorem fp_98_0 : fieldPlaceA Go.Proofs.Tryz.prog 98 0 = some (0, 36) := by kernel_rfl
theorem bp_98_0 : bplace Go.Proofs.Tryz.prog 98 0 = some (0, 5) := by kernel_rfl
theorem fp_98_1 : fieldPlaceA Go.Proofs.Tryz.prog 98 1 = some (5, 9) := by kernel_rfl
theorem bp_98_1 : bplace Go.Proofs.Tryz.prog 98 1 = some (5, 1) := by kernel_rfl
theorem sz_99 : sizeA Go.Proofs.Tryz.prog 99 = some 1 := by kernel_rfl
theorem by_99 : bytesA Go.Proofs.Tryz.prog 99 = some 8 := by kernel_rfl
theorem ag_99 : aggA Go.Proofs.Tryz.prog 99 = some false := by kernel_rfl
theorem ze_99 : zeroA Go.Proofs.Tryz.prog 99 = some AVal.nilf := by kernel_rfl
theorem un_99 : Go.Proofs.Tryz.prog.underlying 99 = some (TypeDesc.func { toList := [9, 4] } { toList := [4] } false) := by kernel_rfl
theorem sz_100 : sizeA Go.Proofs.Tryz.prog 100 = some 1 := by kernel_rfl
theorem by_100 : bytesA Go.Proofs.Tryz.prog 100 = some 8 := by kernel_rfl
theorem ag_100 : aggA Go.Proofs.Tryz.prog 100 = some false := by kernel_rfl
theorem ze_100 : zeroA Go.Proofs.Tryz.prog 100 = some AVal.nilf := by kernel_rfl
theorem un_100 : Go.Proofs.Tryz.prog.underlying 100 = some (TypeDesc.func { toList := [33, 3, 3, 4] } { toList := [4] } false) := by kernel_rfl
theorem sz_101 : sizeA Go.Proofs.Tryz.prog 101 = some 1 := by kernel_rfl
theorem by_101 : bytesA Go.Proofs.Tryz.prog 101 = some 8 := by kernel_rfl
theorem ag_101 : aggA Go.Proofs.Tryz.prog 101 = some false := by kernel_rfl
theorem ze_101 : zeroA Go.Proofs.Tryz.prog 101 = some AVal.nilf := by kernel_rfl
theorem un_101 : Go.Proofs.Tryz.prog.underlying 101 = some (TypeDesc.func { toList := [52, 4] } { toList := [4] } false) := by kernel_rfl
theorem sz_102 : sizeA Go.Proofs.Tryz.prog 102 = some 1 := by kernel_rfl
theorem by_102 : bytesA Go.Proofs.Tryz.prog 102 = some 8 := by kernel_rfl
theorem ag_102 : aggA Go.Proofs.Tryz.prog 102 = some false := by kernel_rfl
theorem ze_102 : zeroA Go.Proofs.Tryz.prog 102 = some AVal.nilf := by kernel_rfl
theorem un_102 : Go.Proofs.Tryz.prog.underlying 102 = some (TypeDesc.func { toList := [33] } { toList := [] } false) := by kernel_rfl
theorem sz_103 : sizeA Go.Proofs.Tryz.prog 103 = some 1 := by kernel_rfl
theorem by_103 : bytesA Go.Proofs.Tryz.prog 103 = some 8 := by kernel_rfl
theorem ag_103 : aggA Go.Proofs.Tryz.prog 103 = some false := by kernel_rfl
theorem ze_103 : zeroA Go.Proofs.Tryz.prog 103 = some AVal.nilf := by kernel_rfl
theorem un_103 : Go.Proofs.Tryz.prog.underlying 103 = some (TypeDesc.func { toList := [52] } { toList := [] } false) := by kernel_rfl
theorem sz_104 : sizeA Go.Proofs.Tryz.prog 104 = some 1 := by kernel_rfl
theorem by_104 : bytesA Go.Proofs.Tryz.prog 104 = some 8 := by kernel_rfl
theorem ag_104 : aggA Go.Proofs.Tryz.prog 104 = some false := by kernel_rfl
theorem ze_104 : zeroA Go.Proofs.Tryz.prog 104 = some AVal.nilf := by kernel_rfl
theorem un_104 : Go.Proofs.Tryz.prog.underlying 104 = some (TypeDesc.func { toList := [33] } { toList := [9] } false) := by kernel_rfl
theorem sz_105 : sizeA Go.Proofs.Tryz.prog 105 = some 1 := by kernel_rfl
theorem by_105 : bytesA Go.Proofs.Tryz.prog 105 = some 8 := by kernel_rfl
theorem ag_105 : aggA Go.Proofs.Tryz.prog 105 = some false := by kernel_rfl
theorem ze_105 : zeroA Go.Proofs.Tryz.prog 105 = some AVal.nilf := by kernel_rfl
theorem un_105 : Go.Proofs.Tryz.prog.underlying 105 = some (TypeDesc.func { toList := [52] } { toList := [9] } false) := by kernel_rfl
theorem sz_106 : sizeA Go.Proofs.Tryz.prog 106 = some 1 := by kernel_rfl
theorem by_106 : bytesA Go.Proofs.Tryz.prog 106 = some 8 := by kernel_rfl
theorem ag_106 : aggA Go.Proofs.Tryz.prog 106 = some false := by kernel_rfl
theorem ze_106 : zeroA Go.Proofs.Tryz.prog 106 = some AVal.nilf := by kernel_rfl
theorem un_106 : Go.Proofs.Tryz.prog.underlying 106 = some (TypeDesc.func { toList := [53, 53, 77] } { toList := [4] } false) := by kernel_rfl
theorem sz_107 : sizeA Go.Proofs.Tryz.prog 107 = some 1 := by kernel_rfl
theorem by_107 : bytesA Go.Proofs.Tryz.prog 107 = some 8 := by kernel_rfl
theorem ag_107 : aggA Go.Proofs.Tryz.prog 107 = some false := by kernel_rfl
theorem ze_107 : zeroA Go.Proofs.Tryz.prog 107 = some AVal.nilf := by kernel_rfl
theorem un_107 : Go.Proofs.Tryz.prog.underlying 107 = some (TypeDesc.func { toList := [93, 93] } { toList := [4] } false) := by kernel_rfl
theorem sz_108 : sizeA Go.Proofs.Tryz.prog 108 = some 1 := by kernel_rfl
theorem by_108 : bytesA Go.Proofs.Tryz.prog 108 = some 8 := by kernel_rfl
theorem ag_108 : aggA Go.Proofs.Tryz.prog 108 = some false := by kernel_rfl
theorem ze_108 : zeroA Go.Proofs.Tryz.prog 108 = some AVal.nilf := by kernel_rfl
theorem un_108 : Go.Proofs.Tryz.prog.underlying 108 = some (TypeDesc.func { toList := [4] } { toList := [9] } false) := by kernel_rfl
theorem sz_109 : sizeA Go.Proofs.Tryz.prog 109 = some 1 := by kernel_rfl
theorem by_109 : bytesA Go.Proofs.Tryz.prog 109 = some 8 := by kernel_rfl
theorem ag_109 : aggA Go.Proofs.Tryz.prog 109 = some false := by kernel_rfl
theorem ze_109 : zeroA Go.Proofs.Tryz.prog 109 = some AVal.nilf := by kernel_rfl
theorem un_109 : Go.Proofs.Tryz.prog.underlying 109 = some (TypeDesc.func { toList := [36, 3] } { toList := [] } false) := by kernel_rfl
theorem sz_110 : sizeA Go.Proofs.Tryz.prog 110 = some 1 := by kernel_rfl
theorem by_110 : bytesA Go.Proofs.Tryz.prog 110 = some 8 := by kernel_rfl
theorem ag_110 : aggA Go.Proofs.Tryz.prog 110 = some false := by kernel_rfl
theorem ze_110 : zeroA Go.Proofs.Tryz.prog 110 = some AVal.nilf := by kernel_rfl
theorem un_110 : Go.Proofs.Tryz.prog.underlying 110 = some (TypeDesc.func { toList := [36, 9] } { toList := [] } false) := by kernel_rfl
theorem sz_111 : sizeA Go.Proofs.Tryz.prog 111 = some 1 := by kernel_rfl
theorem by_111 : bytesA Go.Proofs.Tryz.prog 111 = some 8 := by kernel_rfl
theorem ag_111 : aggA Go.Proofs.Tryz.prog 111 = some false := by kernel_rfl
theorem ze_111 : zeroA Go.Proofs.Tryz.prog 111 = some AVal.nilf := by kernel_rfl
theorem un_111 : Go.Proofs.Tryz.prog.underlying 111 = some (TypeDesc.func { toList := [9, 36] } { toList := [] } false) := by kernel_rfl
theorem sz_112 : sizeA Go.Proofs.Tryz.prog 112 = some 1 := by kernel_rfl
theorem by_112 : bytesA Go.Proofs.Tryz.prog 112 = some 8 := by kernel_rfl
theorem ag_112 : aggA Go.Proofs.Tryz.prog 112 = some false := by kernel_rfl
theorem ze_112 : zeroA Go.Proofs.Tryz.prog 112 = some AVal.nilf := by kernel_rfl
theorem un_112 : Go.Proofs.Tryz.prog.underlying 112 = some (TypeDesc.func { toList := [9, 113] } { toList := [3] } false) := by kernel_rfl
theorem sz_113 : sizeA Go.Proofs.Tryz.prog 113 = some 1 := by kernel_rfl
theorem by_113 : bytesA Go.Proofs.Tryz.prog 113 = some 8 := by kernel_rfl
theorem ag_113 : aggA Go.Proofs.Tryz.prog 113 = some false := by kernel_rfl
theorem ze_113 : zeroA Go.Proofs.Tryz.prog 113 = some AVal.nilf := by kernel_rfl
theorem un_113 : Go.Proofs.Tryz.prog.underlying 113 = some (TypeDesc.func { toList := [5] } { toList := [4] } false) := by kernel_rfl
theorem sz_114 : sizeA Go.Proofs.Tryz.prog 114 = some 1 := by kernel_rfl
theorem by_114 : bytesA Go.Proofs.Tryz.prog 114 = some 8 := by kernel_rfl
theorem ag_114 : aggA Go.Proofs.Tryz.prog 114 = some false := by kernel_rfl
theorem ze_114 : zeroA Go.Proofs.Tryz.prog 114 = some AVal.nilf := by kernel_rfl
theorem un_114 : Go.Proofs.Tryz.prog.underlying 114 = some (TypeDesc.func { toList := [9, 9] } { toList := [4] } false) := by kernel_rfl
theorem sz_115 : sizeA Go.Proofs.Tryz.prog 115 = some 1 := by kernel_rfl
theorem by_115 : bytesA Go.Proofs.Tryz.prog 115 = some 8 := by kernel_rfl
theorem ag_115 : aggA Go.Proofs.Tryz.prog 115 = some false := by kernel_rfl
theorem ze_115 : zeroA Go.Proofs.Tryz.prog 115 = some AVal.nilf := by kernel_rfl
theorem un_115 : Go.Proofs.Tryz.prog.underlying 115 = some (TypeDesc.func { toList := [9] } { toList := [85, 4] } false) := by kernel_rfl
theorem sz_116 : sizeA Go.Proofs.Tryz.prog 116 = some 1 := by kernel_rfl
theorem by_116 : bytesA Go.Proofs.Tryz.prog 116 = some 8 := by kernel_rfl
theorem ag_116 : aggA Go.Proofs.Tryz.prog 116 = some false := by kernel_rfl
theorem ze_116 : zeroA Go.Proofs.Tryz.prog 116 = some AVal.nilp := by kernel_rfl
theorem un_116 : Go.Proofs.Tryz.prog.underlying 116 = some (TypeDesc.pointer 119) := by kernel_rfl
theorem sz_117 : sizeA Go.Proofs.Tryz.prog 117 = some 1 := by kernel_rfl
theorem by_117 : bytesA Go.Proofs.Tryz.prog 117 = some 24 := by kernel_rfl
theorem ag_117 : aggA Go.Proofs.Tryz.prog 117 = some false := by kernel_rfl
theorem ze_117 : zeroA Go.Proofs.Tryz.prog 117 = some (AVal.slice [] Go.Ab.Tk.full) := by kernel_rfl
theorem un_117 : Go.Proofs.Tryz.prog.underlying 117 = some (TypeDesc.slice 5) := by kernel_rfl
theorem el_117 : elemA Go.Proofs.Tryz.prog 117 = some 5 := by kernel_rfl
theorem sz_118 : sizeA Go.Proofs.Tryz.prog 118 = some 2 := by kernel_rfl
theorem by_118 : bytesA Go.Proofs.Tryz.prog 118 = some 32 := by kernel_rfl
theorem ag_118 : aggA Go.Proofs.Tryz.prog 118 = some true := by kernel_rfl
theorem ze_118 : zeroA Go.Proofs.Tryz.prog 118 = some (AVal.agg [AVal.nilp, AVal.slice [] Go.Ab.Tk.full]) := by kernel_rfl
theorem bo_118 : bok Go.Proofs.Tryz.prog 118 = true := by kernel_rfl
theorem fp_118_0 : fieldPlaceA Go.Proofs.Tryz.prog 118 0 = some (0, 116) := by kernel_rfl
theorem bp_118_0 : bplace Go.Proofs.Tryz.prog 118 0 = some (0, 1) := by kernel_rfl
theorem fp_118_1 : fieldPlaceA Go.Proofs.Tryz.prog 118 1 = some (1, 117) := by kernel_rfl
theorem bp_118_1 : bplace Go.Proofs.Tryz.prog 118 1 = some (1, 1) := by kernel_rfl
theorem sz_119 : sizeA Go.Proofs.Tryz.prog 119 = some 2 := by kernel_rfl
theorem by_119 : bytesA Go.Proofs.Tryz.prog 119 = some 32 := by kernel_rfl
theorem ag_119 : aggA Go.Proofs.Tryz.prog 119 = some true := by kernel_rfl
theorem ze_119 : zeroA Go.Proofs.Tryz.prog 119 = some (AVal.agg [AVal.nilp, AVal.slice [] Go.Ab.Tk.full]) := by kernel_rfl
theorem bo_119 : bok Go.Proofs.Tryz.prog 119 = true := by kernel_rfl
theorem fp_119_0 : fieldPlaceA Go.Proofs.Tryz.prog 119 0 = some (0, 116) := by kernel_rfl
theorem bp_119_0 : bplace Go.Proofs.Tryz.prog 119 0 = some (0, 1) := by kernel_rfl
theorem fp_119_1 : fieldPlaceA Go.Proofs.Tryz.prog 119 1 = some (1, 117) := by kernel_rfl
theorem bp_119_1 : bplace Go.Proofs.Tryz.prog 119 1 = some (1, 1) := by kernel_rfl
theorem sz_120 : sizeA Go.Proofs.Tryz.prog 120 = some 1 := by kernel_rfl
theorem by_120 : bytesA Go.Proofs.Tryz.prog 120 = some 16 := by kernel_rfl
theorem ag_120 : aggA Go.Proofs.Tryz.prog 120 = some false := by kernel_rfl
theorem ze_120 : zeroA Go.Proofs.Tryz.prog 120 = some AVal.nili := by kernel_rfl
theorem un_120 : Go.Proofs.Tryz.prog.underlying 120 = some (TypeDesc.interface { toList := [("Error", 70)] }) := by kernel_rfl
theorem sz_121 : sizeA Go.Proofs.Tryz.prog 121 = some 1 := by kernel_rfl
theorem by_121 : bytesA Go.Proofs.Tryz.prog 121 = some 16 := by kernel_rfl
theorem ag_121 : aggA Go.Proofs.Tryz.prog 121 = some false := by kernel_rfl
theorem ze_121 : zeroA Go.Proofs.Tryz.prog 121 = some AVal.nili := by kernel_rfl
theorem un_121 : Go.Proofs.Tryz.prog.underlying 121 = some (TypeDesc.interface { toList := [("Error", 70)] }) := by kernel_rfl
theorem sz_122 : sizeA Go.Proofs.Tryz.prog 122 = some 1 := by kernel_rfl
theorem by_122 : bytesA Go.Proofs.Tryz.prog 122 = some 0 := by kernel_rfl
theorem ag_122 : aggA Go.Proofs.Tryz.prog 122 = some false := by kernel_rfl
theorem ze_122 : zeroA Go.Proofs.Tryz.prog 122 = some (AVal.tuple [AVal.int IntKind.i64 0, AVal.nili]) := by kernel_rfl
theorem sz_123 : sizeA Go.Proofs.Tryz.prog 123 = some 1 := by kernel_rfl
theorem by_123 : bytesA Go.Proofs.Tryz.prog 123 = some 8 := by kernel_rfl
theorem ag_123 : aggA Go.Proofs.Tryz.prog 123 = some false := by kernel_rfl
theorem ze_123 : zeroA Go.Proofs.Tryz.prog 123 = some AVal.nilf := by kernel_rfl
theorem un_123 : Go.Proofs.Tryz.prog.underlying 123 = some (TypeDesc.func { toList := [9] } { toList := [3, 121] } false) := by kernel_rfl
theorem sz_124 : sizeA Go.Proofs.Tryz.prog 124 = some 1 := by kernel_rfl
theorem by_124 : bytesA Go.Proofs.Tryz.prog 124 = some 8 := by kernel_rfl
theorem ag_124 : aggA Go.Proofs.Tryz.prog 124 = some false := by kernel_rfl
theorem ze_124 : zeroA Go.Proofs.Tryz.prog 124 = some AVal.nilf := by kernel_rfl
theorem un_124 : Go.Proofs.Tryz.prog.underlying 124 = some (TypeDesc.func { toList := [9] } { toList := [9] } false) := by kernel_rfl
theorem sz_125 : sizeA Go.Proofs.Tryz.prog 125 = some 1 := by kernel_rfl
theorem by_125 : bytesA Go.Proofs.Tryz.prog 125 = some 8 := by kernel_rfl
theorem ag_125 : aggA Go.Proofs.Tryz.prog 125 = some false := by kernel_rfl
theorem ze_125 : zeroA Go.Proofs.Tryz.prog 125 = some AVal.nilf := by kernel_rfl
theorem un_125 : Go.Proofs.Tryz.prog.underlying 125 = some (TypeDesc.func { toList := [33, 89] } { toList := [4] } false) := by kernel_rfl
theorem sz_126 : sizeA Go.Proofs.Tryz.prog 126 = some 1 := by kernel_rfl
theorem by_126 : bytesA Go.Proofs.Tryz.prog 126 = some 8 := by kernel_rfl
theorem ag_126 : aggA Go.Proofs.Tryz.prog 126 = some false := by kernel_rfl
theorem ze_126 : zeroA Go.Proofs.Tryz.prog 126 = some AVal.nilf := by kernel_rfl
theorem un_126 : Go.Proofs.Tryz.prog.underlying 126 = some (TypeDesc.func { toList := [23, 92] } { toList := [3] } false) := by kernel_rfl
theorem sz_127 : sizeA Go.Proofs.Tryz.prog 127 = some 1 := by kernel_rfl
theorem by_127 : bytesA Go.Proofs.Tryz.prog 127 = some 8 := by kernel_rfl
theorem ag_127 : aggA Go.Proofs.Tryz.prog 127 = some false := by kernel_rfl
theorem ze_127 : zeroA Go.Proofs.Tryz.prog 127 = some AVal.nilf := by kernel_rfl
theorem un_127 : Go.Proofs.Tryz.prog.underlying 127 = some (TypeDesc.func { toList := [53, 128] } { toList := [4] } false) := by kernel_rfl
theorem sz_128 : sizeA Go.Proofs.Tryz.prog 128 = some 1 := by kernel_rfl
theorem by_128 : bytesA Go.Proofs.Tryz.prog 128 = some 8 := by kernel_rfl
theorem ag_128 : aggA Go.Proofs.Tryz.prog 128 = some false := by kernel_rfl
theorem ze_128 : zeroA Go.Proofs.Tryz.prog 128 = some AVal.nilf := by kernel_rfl
theorem un_128 : Go.Proofs.Tryz.prog.underlying 128 = some (TypeDesc.func { toList := [52] } { toList := [4] } false) := by kernel_rfl
theorem sz_129 : sizeA Go.Proofs.Tryz.prog 129 = some 1 := by kernel_rfl
theorem by_129 : bytesA Go.Proofs.Tryz.prog 129 = some 8 := by kernel_rfl
theorem ag_129 : aggA Go.Proofs.Tryz.prog 129 = some false := by kernel_rfl
theorem ze_129 : zeroA Go.Proofs.Tryz.prog 129 = some AVal.nilf := by kernel_rfl
theorem un_129 : Go.Proofs.Tryz.prog.underlying 129 = some (TypeDesc.func { toList := [49, 4] } { toList := [4] } false) := by kernel_rfl
theorem sz_130 : sizeA Go.Proofs.Tryz.prog 130 = some 1 := by kernel_rfl
theorem by_130 : bytesA Go.Proofs.Tryz.prog 130 = some 8 := by kernel_rfl
theorem ag_130 : aggA Go.Proofs.Tryz.prog 130 = some false := by kernel_rfl
theorem ze_130 : zeroA Go.Proofs.Tryz.prog 130 = some AVal.nilf := by kernel_rfl
theorem un_130 : Go.Proofs.Tryz.prog.underlying 130 = some (TypeDesc.func { toList := [36, 4] } { toList := [4] } false) := by kernel_rfl
theorem sz_131 : sizeA Go.Proofs.Tryz.prog 131 = some 1 := by kernel_rfl
theorem by_131 : bytesA Go.Proofs.Tryz.prog 131 = some 8 := by kernel_rfl
theorem ag_131 : aggA Go.Proofs.Tryz.prog 131 = some false := by kernel_rfl
theorem ze_131 : zeroA Go.Proofs.Tryz.prog 131 = some AVal.nilf := by kernel_rfl
theorem un_131 : Go.Proofs.Tryz.prog.underlying 131 = some (TypeDesc.func { toList := [49] } { toList := [] } false) := by kernel_rfl
theorem sz_132 : sizeA Go.Proofs.Tryz.prog 132 = some 1 := by kernel_rfl
theorem by_132 : bytesA Go.Proofs.Tryz.prog 132 = some 8 := by kernel_rfl
theorem ag_132 : aggA Go.Proofs.Tryz.prog 132 = some false := by kernel_rfl
theorem ze_132 : zeroA Go.Proofs.Tryz.prog 132 = some AVal.nilf := by kernel_rfl
theorem un_132 : Go.Proofs.Tryz.prog.underlying 132 = some (TypeDesc.func { toList := [49] } { toList := [9] } false) := by kernel_rfl
theorem sz_133 : sizeA Go.Proofs.Tryz.prog 133 = some 1 := by kernel_rfl
theorem by_133 : bytesA Go.Proofs.Tryz.prog 133 = some 8 := by kernel_rfl
theorem ag_133 : aggA Go.Proofs.Tryz.prog 133 = some false := by kernel_rfl
theorem ze_133 : zeroA Go.Proofs.Tryz.prog 133 = some AVal.nilf := by kernel_rfl
theorem un_133 : Go.Proofs.Tryz.prog.underlying 133 = some (TypeDesc.func { toList := [49, 49] } { toList := [4] } false) := by kernel_rfl
theorem sz_134 : sizeA Go.Proofs.Tryz.prog 134 = some 1 := by kernel_rfl
theorem by_134 : bytesA Go.Proofs.Tryz.prog 134 = some 8 := by kernel_rfl
theorem ag_134 : aggA Go.Proofs.Tryz.prog 134 = some false := by kernel_rfl
theorem ze_134 : zeroA Go.Proofs.Tryz.prog 134 = some AVal.nilf := by kernel_rfl
theorem un_134 : Go.Proofs.Tryz.prog.underlying 134 = some (TypeDesc.func { toList := [50, 50, 135] } { toList := [4] } false) := by kernel_rfl
theorem sz_135 : sizeA Go.Proofs.Tryz.prog 135 = some 1 := by kernel_rfl
theorem by_135 : bytesA Go.Proofs.Tryz.prog 135 = some 8 := by kernel_rfl
theorem ag_135 : aggA Go.Proofs.Tryz.prog 135 = some false := by kernel_rfl
theorem ze_135 : zeroA Go.Proofs.Tryz.prog 135 = some AVal.nilf := by kernel_rfl
theorem un_135 : Go.Proofs.Tryz.prog.underlying 135 = some (TypeDesc.func { toList := [96, 96] } { toList := [4] } false) := by kernel_rfl
theorem sz_136 : sizeA Go.Proofs.Tryz.prog 136 = some 1 := by kernel_rfl
theorem by_136 : bytesA Go.Proofs.Tryz.prog 136 = some 8 := by kernel_rfl
theorem ag_136 : aggA Go.Proofs.Tryz.prog 136 = some false := by kernel_rfl
theorem ze_136 : zeroA Go.Proofs.Tryz.prog 136 = some AVal.nilf := by kernel_rfl
theorem un_136 : Go.Proofs.Tryz.prog.underlying 136 = some (TypeDesc.func { toList := [3] } { toList := [9] } false) := by kernel_rfl
theorem sz_137 : sizeA Go.Proofs.Tryz.prog 137 = some 24 := by kernel_rfl
theorem by_137 : bytesA Go.Proofs.Tryz.prog 137 = some 24 := by kernel_rfl
theorem ag_137 : aggA Go.Proofs.Tryz.prog 137 = some true := by kernel_rfl
theorem ze_137 : zeroA Go.Proofs.Tryz.prog 137 = some (AVal.agg [AVal.int IntKind.u8 0, AVal.int IntKind.u8 0, AVal.int IntKind.u8 0, AVal.int IntKind.u8 0, AVal.int IntKind.u8 0, AVal.int IntKind.u8 0, AVal.int IntKind.u8 0, AVal.int IntKind.u8 0, AVal.int IntKind.u8 0, AVal.int IntKind.u8 0, AVal.int IntKind.u8 0, AVal.int IntKind.u8 0, AVal.int IntKind.u8 0, AVal.int IntKind.u8 0, AVal.int IntKind.u8 0, AVal.int IntKind.u8 0, AVal.int IntKind.u8 0, AVal.int IntKind.u8 0, AVal.int IntKind.u8 0, AVal.int IntKind.u8 0, AVal.int IntKind.u8 0, AVal.int IntKind.u8 0, AVal.int IntKind.u8 0, AVal.int IntKind.u8 0]) := by kernel_rfl
theorem un_137 : Go.Proofs.Tryz.prog.underlying 137 = some (TypeDesc.array 24 5) := by kernel_rfl
theorem bo_137 : bok Go.Proofs.Tryz.prog 137 = true := by kernel_rfl
theorem sz_138 : sizeA Go.Proofs.Tryz.prog 138 = some 1 := by kernel_rfl
theorem by_138 : bytesA Go.Proofs.Tryz.prog 138 = some 8 := by kernel_rfl
theorem ag_138 : aggA Go.Proofs.Tryz.prog 138 = some false := by kernel_rfl
theorem ze_138 : zeroA Go.Proofs.Tryz.prog 138 = some (AVal.int IntKind.u64 0) := by kernel_rfl
theorem un_138 : Go.Proofs.Tryz.prog.underlying 138 = some (TypeDesc.int IntKind.u64) := by kernel_rfl
theorem sz_139 : sizeA Go.Proofs.Tryz.prog 139 = some 1 := by kernel_rfl
theorem by_139 : bytesA Go.Proofs.Tryz.prog 139 = some 8 := by kernel_rfl
theorem ag_139 : aggA Go.Proofs.Tryz.prog 139 = some false := by kernel_rfl
theorem ze_139 : zeroA Go.Proofs.Tryz.prog 139 = some AVal.nilf := by kernel_rfl
theorem un_139 : Go.Proofs.Tryz.prog.underlying 139 = some (TypeDesc.func { toList := [138] } { toList := [3] } false) := by kernel_rfl
theorem sz_140 : sizeA Go.Proofs.Tryz.prog 140 = some 1 := by kernel_rfl
theorem by_140 : bytesA Go.Proofs.Tryz.prog 140 = some 8 := by kernel_rfl
theorem ag_140 : aggA Go.Proofs.Tryz.prog 140 = some false := by kernel_rfl
theorem ze_140 : zeroA Go.Proofs.Tryz.prog 140 = some AVal.nilf := by kernel_rfl
theorem un_140 : Go.Proofs.Tryz.prog.underlying 140 = some (TypeDesc.func { toList := [117, 138] } { toList := [] } false) := by kernel_rfl
theorem sz_141 : sizeA Go.Proofs.Tryz.prog 141 = some 1 := by kernel_rfl
theorem by_141 : bytesA Go.Proofs.Tryz.prog 141 = some 0 := by kernel_rfl
theorem ag_141 : aggA Go.Proofs.Tryz.prog 141 = some false := by kernel_rfl
theorem ze_141 : zeroA Go.Proofs.Tryz.prog 141 = some (AVal.tuple [AVal.slice [] Go.Ab.Tk.full, AVal.str []]) := by kernel_rfl
theorem sz_142 : sizeA Go.Proofs.Tryz.prog 142 = some 1 := by kernel_rfl
theorem by_142 : bytesA Go.Proofs.Tryz.prog 142 = some 8 := by kernel_rfl
theorem ag_142 : aggA Go.Proofs.Tryz.prog 142 = some false := by kernel_rfl
theorem ze_142 : zeroA Go.Proofs.Tryz.prog 142 = some AVal.nilf := by kernel_rfl
theorem un_142 : Go.Proofs.Tryz.prog.underlying 142 = some (TypeDesc.func { toList := [117, 138, 3, 4, 4] } { toList := [117, 9] } false) := by kernel_rfl
theorem sz_143 : sizeA Go.Proofs.Tryz.prog 143 = some 18 := by kernel_rfl
theorem by_143 : bytesA Go.Proofs.Tryz.prog 143 = some 288 := by kernel_rfl
theorem ag_143 : aggA Go.Proofs.Tryz.prog 143 = some true := by kernel_rfl
theorem ze_143 : zeroA Go.Proofs.Tryz.prog 143 = some (AVal.agg [AVal.str [], AVal.str [], AVal.str [], AVal.str [], AVal.str [], AVal.str [], AVal.str [], AVal.str [], AVal.str [], AVal.str [], AVal.str [], AVal.str [], AVal.str [], AVal.str [], AVal.str [], AVal.str [], AVal.str [], AVal.str []]) := by kernel_rfl
theorem un_143 : Go.Proofs.Tryz.prog.underlying 143 = some (TypeDesc.array 18 9) := by kernel_rfl
theorem bo_143 : bok Go.Proofs.Tryz.prog 143 = true := by kernel_rfl
theorem sz_144 : sizeA Go.Proofs.Tryz.prog 144 = some 1 := by kernel_rfl
theorem by_144 : bytesA Go.Proofs.Tryz.prog 144 = some 8 := by kernel_rfl
theorem ag_144 : aggA Go.Proofs.Tryz.prog 144 = some false := by kernel_rfl
theorem ze_144 : zeroA Go.Proofs.Tryz.prog 144 = some AVal.nilf := by kernel_rfl
theorem un_144 : Go.Proofs.Tryz.prog.underlying 144 = some (TypeDesc.func { toList := [] } { toList := [143] } false) := by kernel_rfl
theorem sz_145 : sizeA Go.Proofs.Tryz.prog 145 = some 1 := by kernel_rfl
theorem by_145 : bytesA Go.Proofs.Tryz.prog 145 = some 0 := by kernel_rfl
theorem ag_145 : aggA Go.Proofs.Tryz.prog 145 = some false := by kernel_rfl
theorem ze_145 : zeroA Go.Proofs.Tryz.prog 145 = some (AVal.tuple [AVal.int IntKind.i64 0, AVal.nili]) := by kernel_rfl
theorem sz_146 : sizeA Go.Proofs.Tryz.prog 146 = some 1 := by kernel_rfl
theorem by_146 : bytesA Go.Proofs.Tryz.prog 146 = some 8 := by kernel_rfl
theorem ag_146 : aggA Go.Proofs.Tryz.prog 146 = some false := by kernel_rfl
theorem ze_146 : zeroA Go.Proofs.Tryz.prog 146 = some AVal.nilf := by kernel_rfl
theorem un_146 : Go.Proofs.Tryz.prog.underlying 146 = some (TypeDesc.func { toList := [9, 3, 3] } { toList := [2, 121] } false) := by kernel_rfl
theorem sz_147 : sizeA Go.Proofs.Tryz.prog 147 = some 1 := by kernel_rfl
theorem by_147 : bytesA Go.Proofs.Tryz.prog 147 = some 8 := by kernel_rfl
theorem ag_147 : aggA Go.Proofs.Tryz.prog 147 = some false := by kernel_rfl
theorem ze_147 : zeroA Go.Proofs.Tryz.prog 147 = some AVal.nilp := by kernel_rfl
theorem un_147 : Go.Proofs.Tryz.prog.underlying 147 = some (TypeDesc.pointer 5) := by kernel_rfl
theorem sz_148 : sizeA Go.Proofs.Tryz.prog 148 = some 1 := by kernel_rfl
theorem by_148 : bytesA Go.Proofs.Tryz.prog 148 = some 8 := by kernel_rfl
theorem ag_148 : aggA Go.Proofs.Tryz.prog 148 = some false := by kernel_rfl
theorem ze_148 : zeroA Go.Proofs.Tryz.prog 148 = some AVal.nilf := by kernel_rfl
theorem un_148 : Go.Proofs.Tryz.prog.underlying 148 = some (TypeDesc.func { toList := [9, 113] } { toList := [4] } false) := by kernel_rfl
theorem sz_149 : sizeA Go.Proofs.Tryz.prog 149 = some 1 := by kernel_rfl
theorem by_149 : bytesA Go.Proofs.Tryz.prog 149 = some 0 := by kernel_rfl
theorem ag_149 : aggA Go.Proofs.Tryz.prog 149 = some false := by kernel_rfl
theorem ze_149 : zeroA Go.Proofs.Tryz.prog 149 = some (AVal.tuple [AVal.str [], AVal.bool false]) := by kernel_rfl
theorem sz_150 : sizeA Go.Proofs.Tryz.prog 150 = some 1 := by kernel_rfl
theorem by_150 : bytesA Go.Proofs.Tryz.prog 150 = some 8 := by kernel_rfl
theorem ag_150 : aggA Go.Proofs.Tryz.prog 150 = some false := by kernel_rfl
theorem ze_150 : zeroA Go.Proofs.Tryz.prog 150 = some AVal.nilf := by kernel_rfl
theorem un_150 : Go.Proofs.Tryz.prog.underlying 150 = some (TypeDesc.func { toList := [9, 9] } { toList := [9, 4] } false) := by kernel_rfl
theorem sz_151 : sizeA Go.Proofs.Tryz.prog 151 = some 1 := by kernel_rfl
theorem by_151 : bytesA Go.Proofs.Tryz.prog 151 = some 8 := by kernel_rfl
theorem ag_151 : aggA Go.Proofs.Tryz.prog 151 = some false := by kernel_rfl
theorem ze_151 : zeroA Go.Proofs.Tryz.prog 151 = some AVal.nilf := by kernel_rfl
theorem un_151 : Go.Proofs.Tryz.prog.underlying 151 = some (TypeDesc.func { toList := [33, 89] } { toList := [3] } false) := by kernel_rfl
theorem sz_152 : sizeA Go.Proofs.Tryz.prog 152 = some 1 := by kernel_rfl
theorem by_152 : bytesA Go.Proofs.Tryz.prog 152 = some 8 := by kernel_rfl
theorem ag_152 : aggA Go.Proofs.Tryz.prog 152 = some false := by kernel_rfl
theorem ze_152 : zeroA Go.Proofs.Tryz.prog 152 = some AVal.nilf := by kernel_rfl
theorem un_152 : Go.Proofs.Tryz.prog.underlying 152 = some (TypeDesc.func { toList := [53, 128] } { toList := [3] } false) := by kernel_rfl
theorem sz_153 : sizeA Go.Proofs.Tryz.prog 153 = some 1 := by kernel_rfl
theorem by_153 : bytesA Go.Proofs.Tryz.prog 153 = some 8 := by kernel_rfl
theorem ag_153 : aggA Go.Proofs.Tryz.prog 153 = some false := by kernel_rfl
theorem ze_153 : zeroA Go.Proofs.Tryz.prog 153 = some AVal.nilf := by kernel_rfl
theorem un_153 : Go.Proofs.Tryz.prog.underlying 153 = some (TypeDesc.func { toList := [49] } { toList := [4] } false) := by kernel_rfl
theorem sz_154 : sizeA Go.Proofs.Tryz.prog 154 = some 1 := by kernel_rfl
theorem by_154 : bytesA Go.Proofs.Tryz.prog 154 = some 8 := by kernel_rfl
theorem ag_154 : aggA Go.Proofs.Tryz.prog 154 = some false := by kernel_rfl
theorem ze_154 : zeroA Go.Proofs.Tryz.prog 154 = some AVal.nilf := by kernel_rfl
theorem un_154 : Go.Proofs.Tryz.prog.underlying 154 = some (TypeDesc.func { toList := [50, 155] } { toList := [4] } false) := by kernel_rfl
theorem sz_155 : sizeA Go.Proofs.Tryz.prog 155 = some 1 := by kernel_rfl
theorem by_155 : bytesA Go.Proofs.Tryz.prog 155 = some 8 := by kernel_rfl
theorem ag_155 : aggA Go.Proofs.Tryz.prog 155 = some false := by kernel_rfl
theorem ze_155 : zeroA Go.Proofs.Tryz.prog 155 = some AVal.nilf := by kernel_rfl
theorem un_155 : Go.Proofs.Tryz.prog.underlying 155 = some (TypeDesc.func { toList := [96] } { toList := [4] } false) := by kernel_rfl
theorem sz_156 : sizeA Go.Proofs.Tryz.prog 156 = some 1 := by kernel_rfl
theorem by_156 : bytesA Go.Proofs.Tryz.prog 156 = some 8 := by kernel_rfl
theorem ag_156 : aggA Go.Proofs.Tryz.prog 156 = some false := by kernel_rfl
theorem ze_156 : zeroA Go.Proofs.Tryz.prog 156 = some AVal.nilf := by kernel_rfl
theorem un_156 : Go.Proofs.Tryz.prog.underlying 156 = some (TypeDesc.func { toList := [9] } { toList := [3] } false) := by kernel_rfl
theorem sz_157 : sizeA Go.Proofs.Tryz.prog 157 = some 1 := by kernel_rfl
theorem by_157 : bytesA Go.Proofs.Tryz.prog 157 = some 8 := by kernel_rfl
theorem ag_157 : aggA Go.Proofs.Tryz.prog 157 = some false := by kernel_rfl
theorem ze_157 : zeroA Go.Proofs.Tryz.prog 157 = some AVal.nilf := by kernel_rfl
theorem un_157 : Go.Proofs.Tryz.prog.underlying 157 = some (TypeDesc.func { toList := [33, 9] } { toList := [4] } false) := by kernel_rfl
theorem sz_158 : sizeA Go.Proofs.Tryz.prog 158 = some 1 := by kernel_rfl
theorem by_158 : bytesA Go.Proofs.Tryz.prog 158 = some 8 := by kernel_rfl
theorem ag_158 : aggA Go.Proofs.Tryz.prog 158 = some false := by kernel_rfl
theorem ze_158 : zeroA Go.Proofs.Tryz.prog 158 = some AVal.nilf := by kernel_rfl
theorem un_158 : Go.Proofs.Tryz.prog.underlying 158 = some (TypeDesc.func { toList := [] } { toList := [33] } false) := by kernel_rfl
theorem sz_159 : sizeA Go.Proofs.Tryz.prog 159 = some 1 := by kernel_rfl
theorem by_159 : bytesA Go.Proofs.Tryz.prog 159 = some 8 := by kernel_rfl
theorem ag_159 : aggA Go.Proofs.Tryz.prog 159 = some false := by kernel_rfl
theorem ze_159 : zeroA Go.Proofs.Tryz.prog 159 = some AVal.nilf := by kernel_rfl
theorem un_159 : Go.Proofs.Tryz.prog.underlying 159 = some (TypeDesc.func { toList := [93, 93, 133] } { toList := [4] } false) := by kernel_rfl
theorem sz_160 : sizeA Go.Proofs.Tryz.prog 160 = some 1 := by kernel_rfl
theorem by_160 : bytesA Go.Proofs.Tryz.prog 160 = some 8 := by kernel_rfl
theorem ag_160 : aggA Go.Proofs.Tryz.prog 160 = some false := by kernel_rfl
theorem ze_160 : zeroA Go.Proofs.Tryz.prog 160 = some AVal.nilf := by kernel_rfl
theorem un_160 : Go.Proofs.Tryz.prog.underlying 160 = some (TypeDesc.func { toList := [94, 94, 161] } { toList := [4] } false) := by kernel_rfl
theorem sz_161 : sizeA Go.Proofs.Tryz.prog 161 = some 1 := by kernel_rfl
theorem by_161 : bytesA Go.Proofs.Tryz.prog 161 = some 8 := by kernel_rfl
theorem ag_161 : aggA Go.Proofs.Tryz.prog 161 = some false := by kernel_rfl
theorem ze_161 : zeroA Go.Proofs.Tryz.prog 161 = some AVal.nilf := by kernel_rfl
theorem un_161 : Go.Proofs.Tryz.prog.underlying 161 = some (TypeDesc.func { toList := [98, 98] } { toList := [4] } false) := by kernel_rfl
theorem sz_162 : sizeA Go.Proofs.Tryz.prog 162 = some 1 := by kernel_rfl
theorem by_162 : bytesA Go.Proofs.Tryz.prog 162 = some 8 := by kernel_rfl
theorem ag_162 : aggA Go.Proofs.Tryz.prog 162 = some false := by kernel_rfl
theorem ze_162 : zeroA Go.Proofs.Tryz.prog 162 = some AVal.nilf := by kernel_rfl
theorem un_162 : Go.Proofs.Tryz.prog.underlying 162 = some (TypeDesc.func { toList := [3] } { toList := [3] } false) := by kernel_rfl
theorem sz_163 : sizeA Go.Proofs.Tryz.prog 163 = some 1 := by kernel_rfl
theorem by_163 : bytesA Go.Proofs.Tryz.prog 163 = some 8 := by kernel_rfl
theorem ag_163 : aggA Go.Proofs.Tryz.prog 163 = some false := by kernel_rfl
theorem ze_163 : zeroA Go.Proofs.Tryz.prog 163 = some AVal.nilf := by kernel_rfl
theorem un_163 : Go.Proofs.Tryz.prog.underlying 163 = some (TypeDesc.func { toList := [4] } { toList := [3] } false) := by kernel_rfl
theorem sz_164 : sizeA Go.Proofs.Tryz.prog 164 = some 20 := by kernel_rfl
theorem by_164 : bytesA Go.Proofs.Tryz.prog 164 = some 160 := by kernel_rfl
theorem ag_164 : aggA Go.Proofs.Tryz.prog 164 = some true := by kernel_rfl
theorem ze_164 : zeroA Go.Proofs.Tryz.prog 164 = some (AVal.agg [AVal.int IntKind.u64 0, AVal.int IntKind.u64 0, AVal.int IntKind.u64 0, AVal.int IntKind.u64 0, AVal.int IntKind.u64 0, AVal.int IntKind.u64 0, AVal.int IntKind.u64 0, AVal.int IntKind.u64 0, AVal.int IntKind.u64 0, AVal.int IntKind.u64 0, AVal.int IntKind.u64 0, AVal.int IntKind.u64 0, AVal.int IntKind.u64 0, AVal.int IntKind.u64 0, AVal.int IntKind.u64 0, AVal.int IntKind.u64 0, AVal.int IntKind.u64 0, AVal.int IntKind.u64 0, AVal.int IntKind.u64 0, AVal.int IntKind.u64 0]) := by kernel_rfl
theorem un_164 : Go.Proofs.Tryz.prog.underlying 164 = some (TypeDesc.array 20 138) := by kernel_rfl
theorem bo_164 : bok Go.Proofs.Tryz.prog 164 = true := by kernel_rfl
theorem sz_165 : sizeA Go.Proofs.Tryz.prog 165 = some 1 := by kernel_rfl
theorem by_165 : bytesA Go.Proofs.Tryz.prog 165 = some 4 := by kernel_rfl
theorem ag_165 : aggA Go.Proofs.Tryz.prog 165 = some false := by kernel_rfl
theorem ze_165 : zeroA Go.Proofs.Tryz.prog 165 = some (AVal.int IntKind.u32 0) := by kernel_rfl
theorem un_165 : Go.Proofs.Tryz.prog.underlying 165 = some (TypeDesc.int IntKind.u32) := by kernel_rfl
theorem sz_166 : sizeA Go.Proofs.Tryz.prog 166 = some 65 := by kernel_rfl
theorem by_166 : bytesA Go.Proofs.Tryz.prog 166 = some 65 := by kernel_rfl
theorem ag_166 : aggA Go.Proofs.Tryz.prog 166 = some true := by kernel_rfl
theorem un_166 : Go.Proofs.Tryz.prog.underlying 166 = some (TypeDesc.array 65 5) := by kernel_rfl
theorem bo_166 : bok Go.Proofs.Tryz.prog 166 = true := by kernel_rfl
theorem sz_167 : sizeA Go.Proofs.Tryz.prog 167 = some 1 := by kernel_rfl
theorem by_167 : bytesA Go.Proofs.Tryz.prog 167 = some 8 := by kernel_rfl
theorem ag_167 : aggA Go.Proofs.Tryz.prog 167 = some false := by kernel_rfl
theorem ze_167 : zeroA Go.Proofs.Tryz.prog 167 = some AVal.nilf := by kernel_rfl
theorem un_167 : Go.Proofs.Tryz.prog.underlying 167 = some (TypeDesc.func { toList := [3] } { toList := [4] } false) := by kernel_rfl
theorem sz_168 : sizeA Go.Proofs.Tryz.prog 168 = some 1 := by kernel_rfl
theorem by_168 : bytesA Go.Proofs.Tryz.prog 168 = some 8 := by kernel_rfl
theorem ag_168 : aggA Go.Proofs.Tryz.prog 168 = some false := by kernel_rfl
theorem ze_168 : zeroA Go.Proofs.Tryz.prog 168 = some (AVal.int IntKind.u64 0) := by kernel_rfl
theorem un_168 : Go.Proofs.Tryz.prog.underlying 168 = some (TypeDesc.int IntKind.u64) := by kernel_rfl
theorem sz_169 : sizeA Go.Proofs.Tryz.prog 169 = some 1 := by kernel_rfl
theorem by_169 : bytesA Go.Proofs.Tryz.prog 169 = some 8 := by kernel_rfl
theorem ag_169 : aggA Go.Proofs.Tryz.prog 169 = some false := by kernel_rfl
theorem ze_169 : zeroA Go.Proofs.Tryz.prog 169 = some AVal.nilf := by kernel_rfl
theorem un_169 : Go.Proofs.Tryz.prog.underlying 169 = some (TypeDesc.func { toList := [168] } { toList := [3] } false) := by kernel_rfl
theorem sz_170 : sizeA Go.Proofs.Tryz.prog 170 = some 1 := by kernel_rfl
theorem by_170 : bytesA Go.Proofs.Tryz.prog 170 = some 8 := by kernel_rfl
theorem ag_170 : aggA Go.Proofs.Tryz.prog 170 = some false := by kernel_rfl
theorem ze_170 : zeroA Go.Proofs.Tryz.prog 170 = some AVal.nilf := by kernel_rfl
theorem un_170 : Go.Proofs.Tryz.prog.underlying 170 = some (TypeDesc.func { toList := [9, 9, 3, 3, 121] } { toList := [121] } false) := by kernel_rfl
theorem sz_171 : sizeA Go.Proofs.Tryz.prog 171 = some 1 := by kernel_rfl
theorem by_171 : bytesA Go.Proofs.Tryz.prog 171 = some 8 := by kernel_rfl
theorem ag_171 : aggA Go.Proofs.Tryz.prog 171 = some false := by kernel_rfl
theorem ze_171 : zeroA Go.Proofs.Tryz.prog 171 = some AVal.nilp := by kernel_rfl
theorem sz_172 : sizeA Go.Proofs.Tryz.prog 172 = some 1 := by kernel_rfl
theorem by_172 : bytesA Go.Proofs.Tryz.prog 172 = some 8 := by kernel_rfl
theorem ag_172 : aggA Go.Proofs.Tryz.prog 172 = some false := by kernel_rfl
theorem ze_172 : zeroA Go.Proofs.Tryz.prog 172 = some AVal.nilf := by kernel_rfl
theorem un_172 : Go.Proofs.Tryz.prog.underlying 172 = some (TypeDesc.func { toList := [171] } { toList := [171] } false) := by kernel_rfl
theorem sz_173 : sizeA Go.Proofs.Tryz.prog 173 = some 1 := by kernel_rfl
theorem by_173 : bytesA Go.Proofs.Tryz.prog 173 = some 8 := by kernel_rfl
theorem ag_173 : aggA Go.Proofs.Tryz.prog 173 = some false := by kernel_rfl
theorem ze_173 : zeroA Go.Proofs.Tryz.prog 173 = some AVal.nilf := by kernel_rfl
theorem un_173 : Go.Proofs.Tryz.prog.underlying 173 = some (TypeDesc.func { toList := [3] } { toList := [117] } false) := by kernel_rfl
theorem sz_174 : sizeA Go.Proofs.Tryz.prog 174 = some 1 := by kernel_rfl
theorem by_174 : bytesA Go.Proofs.Tryz.prog 174 = some 8 := by kernel_rfl
theorem ag_174 : aggA Go.Proofs.Tryz.prog 174 = some false := by kernel_rfl
theorem ze_174 : zeroA Go.Proofs.Tryz.prog 174 = some AVal.nilf := by kernel_rfl
theorem un_174 : Go.Proofs.Tryz.prog.underlying 174 = some (TypeDesc.func { toList := [36] } { toList := [4] } false) := by kernel_rfl
theorem sz_175 : sizeA Go.Proofs.Tryz.prog 175 = some 1 := by kernel_rfl
theorem by_175 : bytesA Go.Proofs.Tryz.prog 175 = some 8 := by kernel_rfl
theorem ag_175 : aggA Go.Proofs.Tryz.prog 175 = some false := by kernel_rfl
theorem ze_175 : zeroA Go.Proofs.Tryz.prog 175 = some AVal.nilf := by kernel_rfl
theorem un_175 : Go.Proofs.Tryz.prog.underlying 175 = some (TypeDesc.func { toList := [50, 155] } { toList := [3] } false) := by kernel_rfl
theorem sz_176 : sizeA Go.Proofs.Tryz.prog 176 = some 1 := by kernel_rfl
theorem by_176 : bytesA Go.Proofs.Tryz.prog 176 = some 8 := by kernel_rfl
theorem ag_176 : aggA Go.Proofs.Tryz.prog 176 = some false := by kernel_rfl
theorem ze_176 : zeroA Go.Proofs.Tryz.prog 176 = some AVal.nilf := by kernel_rfl
theorem un_176 : Go.Proofs.Tryz.prog.underlying 176 = some (TypeDesc.func { toList := [165] } { toList := [3] } false) := by kernel_rfl
theorem sz_177 : sizeA Go.Proofs.Tryz.prog 177 = some 1 := by kernel_rfl
theorem by_177 : bytesA Go.Proofs.Tryz.prog 177 = some 8 := by kernel_rfl
theorem ag_177 : aggA Go.Proofs.Tryz.prog 177 = some false := by kernel_rfl
theorem ze_177 : zeroA Go.Proofs.Tryz.prog 177 = some (AVal.int IntKind.i64 0) := by kernel_rfl
theorem un_177 : Go.Proofs.Tryz.prog.underlying 177 = some (TypeDesc.int IntKind.i64) := by kernel_rfl
theorem sz_178 : sizeA Go.Proofs.Tryz.prog 178 = some 1 := by kernel_rfl
theorem by_178 : bytesA Go.Proofs.Tryz.prog 178 = some 0 := by kernel_rfl
theorem ag_178 : aggA Go.Proofs.Tryz.prog 178 = some false := by kernel_rfl
theorem ze_178 : zeroA Go.Proofs.Tryz.prog 178 = some (AVal.tuple [AVal.int IntKind.u64 0, AVal.nili]) := by kernel_rfl
theorem sz_179 : sizeA Go.Proofs.Tryz.prog 179 = some 1 := by kernel_rfl
theorem by_179 : bytesA Go.Proofs.Tryz.prog 179 = some 8 := by kernel_rfl
theorem ag_179 : aggA Go.Proofs.Tryz.prog 179 = some false := by kernel_rfl
theorem ze_179 : zeroA Go.Proofs.Tryz.prog 179 = some AVal.nilf := by kernel_rfl
theorem un_179 : Go.Proofs.Tryz.prog.underlying 179 = some (TypeDesc.func { toList := [9, 3, 3] } { toList := [138, 121] } false) := by kernel_rfl
theorem sz_180 : sizeA Go.Proofs.Tryz.prog 180 = some 1 := by kernel_rfl
theorem by_180 : bytesA Go.Proofs.Tryz.prog 180 = some 8 := by kernel_rfl
theorem ag_180 : aggA Go.Proofs.Tryz.prog 180 = some false := by kernel_rfl
theorem ze_180 : zeroA Go.Proofs.Tryz.prog 180 = some AVal.nilp := by kernel_rfl
theorem un_180 : Go.Proofs.Tryz.prog.underlying 180 = some (TypeDesc.pointer 194) := by kernel_rfl
theorem sz_181 : sizeA Go.Proofs.Tryz.prog 181 = some 1 := by kernel_rfl
theorem by_181 : bytesA Go.Proofs.Tryz.prog 181 = some 8 := by kernel_rfl
theorem ag_181 : aggA Go.Proofs.Tryz.prog 181 = some false := by kernel_rfl
theorem ze_181 : zeroA Go.Proofs.Tryz.prog 181 = some AVal.nilf := by kernel_rfl
theorem un_181 : Go.Proofs.Tryz.prog.underlying 181 = some (TypeDesc.func { toList := [9, 9] } { toList := [180] } false) := by kernel_rfl
theorem sz_182 : sizeA Go.Proofs.Tryz.prog 182 = some 1 := by kernel_rfl
theorem by_182 : bytesA Go.Proofs.Tryz.prog 182 = some 8 := by kernel_rfl
theorem ag_182 : aggA Go.Proofs.Tryz.prog 182 = some false := by kernel_rfl
theorem ze_182 : zeroA Go.Proofs.Tryz.prog 182 = some AVal.nilf := by kernel_rfl
theorem un_182 : Go.Proofs.Tryz.prog.underlying 182 = some (TypeDesc.func { toList := [9, 9, 3] } { toList := [180] } false) := by kernel_rfl
theorem sz_183 : sizeA Go.Proofs.Tryz.prog 183 = some 1 := by kernel_rfl
theorem by_183 : bytesA Go.Proofs.Tryz.prog 183 = some 8 := by kernel_rfl
theorem ag_183 : aggA Go.Proofs.Tryz.prog 183 = some false := by kernel_rfl
theorem ze_183 : zeroA Go.Proofs.Tryz.prog 183 = some AVal.nilf := by kernel_rfl
theorem un_183 : Go.Proofs.Tryz.prog.underlying 183 = some (TypeDesc.func { toList := [33, 9] } { toList := [3] } false) := by kernel_rfl
theorem sz_184 : sizeA Go.Proofs.Tryz.prog 184 = some 1 := by kernel_rfl
theorem by_184 : bytesA Go.Proofs.Tryz.prog 184 = some 8 := by kernel_rfl
theorem ag_184 : aggA Go.Proofs.Tryz.prog 184 = some false := by kernel_rfl
theorem ze_184 : zeroA Go.Proofs.Tryz.prog 184 = some AVal.nilf := by kernel_rfl
theorem un_184 : Go.Proofs.Tryz.prog.underlying 184 = some (TypeDesc.func { toList := [2] } { toList := [4] } false) := by kernel_rfl
theorem sz_185 : sizeA Go.Proofs.Tryz.prog 185 = some 8 := by kernel_rfl
theorem by_185 : bytesA Go.Proofs.Tryz.prog 185 = some 64 := by kernel_rfl
theorem ag_185 : aggA Go.Proofs.Tryz.prog 185 = some true := by kernel_rfl
theorem ze_185 : zeroA Go.Proofs.Tryz.prog 185 = some (AVal.agg [AVal.nilf, AVal.nilf, AVal.nilf, AVal.int IntKind.i64 0, AVal.int IntKind.i64 0, AVal.int IntKind.i64 0, AVal.int IntKind.i64 0, AVal.bool false]) := by kernel_rfl
theorem bo_185 : bok Go.Proofs.Tryz.prog 185 = true := by kernel_rfl
theorem fp_185_0 : fieldPlaceA Go.Proofs.Tryz.prog 185 0 = some (0, 89) := by kernel_rfl
theorem bp_185_0 : bplace Go.Proofs.Tryz.prog 185 0 = some (0, 1) := by kernel_rfl
theorem fp_185_1 : fieldPlaceA Go.Proofs.Tryz.prog 185 1 = some (1, 184) := by kernel_rfl
theorem bp_185_1 : bplace Go.Proofs.Tryz.prog 185 1 = some (1, 1) := by kernel_rfl
theorem fp_185_2 : fieldPlaceA Go.Proofs.Tryz.prog 185 2 = some (2, 89) := by kernel_rfl
theorem bp_185_2 : bplace Go.Proofs.Tryz.prog 185 2 = some (2, 1) := by kernel_rfl
theorem fp_185_3 : fieldPlaceA Go.Proofs.Tryz.prog 185 3 = some (3, 3) := by kernel_rfl
theorem bp_185_3 : bplace Go.Proofs.Tryz.prog 185 3 = some (3, 1) := by kernel_rfl
theorem fp_185_4 : fieldPlaceA Go.Proofs.Tryz.prog 185 4 = some (4, 3) := by kernel_rfl
theorem bp_185_4 : bplace Go.Proofs.Tryz.prog 185 4 = some (4, 1) := by kernel_rfl
theorem fp_185_5 : fieldPlaceA Go.Proofs.Tryz.prog 185 5 = some (5, 3) := by kernel_rfl
theorem bp_185_5 : bplace Go.Proofs.Tryz.prog 185 5 = some (5, 1) := by kernel_rfl
theorem fp_185_6 : fieldPlaceA Go.Proofs.Tryz.prog 185 6 = some (6, 3) := by kernel_rfl
theorem bp_185_6 : bplace Go.Proofs.Tryz.prog 185 6 = some (6, 1) := by kernel_rfl
theorem fp_185_7 : fieldPlaceA Go.Proofs.Tryz.prog 185 7 = some (7, 4) := by kernel_rfl
theorem bp_185_7 : bplace Go.Proofs.Tryz.prog 185 7 = some (7, 1) := by kernel_rfl
theorem sz_186 : sizeA Go.Proofs.Tryz.prog 186 = some 8 := by kernel_rfl
theorem by_186 : bytesA Go.Proofs.Tryz.prog 186 = some 64 := by kernel_rfl
theorem ag_186 : aggA Go.Proofs.Tryz.prog 186 = some true := by kernel_rfl
theorem ze_186 : zeroA Go.Proofs.Tryz.prog 186 = some (AVal.agg [AVal.nilf, AVal.nilf, AVal.nilf, AVal.int IntKind.i64 0, AVal.int IntKind.i64 0, AVal.int IntKind.i64 0, AVal.int IntKind.i64 0, AVal.bool false]) := by kernel_rfl
theorem bo_186 : bok Go.Proofs.Tryz.prog 186 = true := by kernel_rfl
theorem fp_186_0 : fieldPlaceA Go.Proofs.Tryz.prog 186 0 = some (0, 89) := by kernel_rfl
theorem bp_186_0 : bplace Go.Proofs.Tryz.prog 186 0 = some (0, 1) := by kernel_rfl
theorem fp_186_1 : fieldPlaceA Go.Proofs.Tryz.prog 186 1 = some (1, 184) := by kernel_rfl
theorem bp_186_1 : bplace Go.Proofs.Tryz.prog 186 1 = some (1, 1) := by kernel_rfl
theorem fp_186_2 : fieldPlaceA Go.Proofs.Tryz.prog 186 2 = some (2, 89) := by kernel_rfl
theorem bp_186_2 : bplace Go.Proofs.Tryz.prog 186 2 = some (2, 1) := by kernel_rfl
theorem fp_186_3 : fieldPlaceA Go.Proofs.Tryz.prog 186 3 = some (3, 3) := by kernel_rfl
theorem bp_186_3 : bplace Go.Proofs.Tryz.prog 186 3 = some (3, 1) := by kernel_rfl
theorem fp_186_4 : fieldPlaceA Go.Proofs.Tryz.prog 186 4 = some (4, 3) := by kernel_rfl
theorem bp_186_4 : bplace Go.Proofs.Tryz.prog 186 4 = some (4, 1) := by kernel_rfl
theorem fp_186_5 : fieldPlaceA Go.Proofs.Tryz.prog 186 5 = some (5, 3) := by kernel_rfl
theorem bp_186_5 : bplace Go.Proofs.Tryz.prog 186 5 = some (5, 1) := by kernel_rfl
theorem fp_186_6 : fieldPlaceA Go.Proofs.Tryz.prog 186 6 = some (6, 3) := by kernel_rfl
theorem bp_186_6 : bplace Go.Proofs.Tryz.prog 186 6 = some (6, 1) := by kernel_rfl
theorem fp_186_7 : fieldPlaceA Go.Proofs.Tryz.prog 186 7 = some (7, 4) := by kernel_rfl
theorem bp_186_7 : bplace Go.Proofs.Tryz.prog 186 7 = some (7, 1) := by kernel_rfl
theorem sz_187 : sizeA Go.Proofs.Tryz.prog 187 = some 1 := by kernel_rfl
theorem by_187 : bytesA Go.Proofs.Tryz.prog 187 = some 0 := by kernel_rfl
theorem ag_187 : aggA Go.Proofs.Tryz.prog 187 = some false := by kernel_rfl
theorem sz_188 : sizeA Go.Proofs.Tryz.prog 188 = some 1 := by kernel_rfl
theorem by_188 : bytesA Go.Proofs.Tryz.prog 188 = some 8 := by kernel_rfl
theorem ag_188 : aggA Go.Proofs.Tryz.prog 188 = some false := by kernel_rfl
theorem ze_188 : zeroA Go.Proofs.Tryz.prog 188 = some AVal.nilf := by kernel_rfl
theorem un_188 : Go.Proofs.Tryz.prog.underlying 188 = some (TypeDesc.func { toList := [3] } { toList := [186, 4] } false) := by kernel_rfl
theorem sz_189 : sizeA Go.Proofs.Tryz.prog 189 = some 1 := by kernel_rfl
theorem by_189 : bytesA Go.Proofs.Tryz.prog 189 = some 8 := by kernel_rfl
theorem ag_189 : aggA Go.Proofs.Tryz.prog 189 = some false := by kernel_rfl
theorem ze_189 : zeroA Go.Proofs.Tryz.prog 189 = some AVal.nilf := by kernel_rfl
theorem un_189 : Go.Proofs.Tryz.prog.underlying 189 = some (TypeDesc.func { toList := [34, 174] } { toList := [4] } false) := by kernel_rfl
theorem sz_190 : sizeA Go.Proofs.Tryz.prog 190 = some 32 := by kernel_rfl
theorem by_190 : bytesA Go.Proofs.Tryz.prog 190 = some 32 := by kernel_rfl
theorem ag_190 : aggA Go.Proofs.Tryz.prog 190 = some true := by kernel_rfl
theorem ze_190 : zeroA Go.Proofs.Tryz.prog 190 = some (AVal.agg [AVal.int IntKind.u8 0, AVal.int IntKind.u8 0, AVal.int IntKind.u8 0, AVal.int IntKind.u8 0, AVal.int IntKind.u8 0, AVal.int IntKind.u8 0, AVal.int IntKind.u8 0, AVal.int IntKind.u8 0, AVal.int IntKind.u8 0, AVal.int IntKind.u8 0, AVal.int IntKind.u8 0, AVal.int IntKind.u8 0, AVal.int IntKind.u8 0, AVal.int IntKind.u8 0, AVal.int IntKind.u8 0, AVal.int IntKind.u8 0, AVal.int IntKind.u8 0, AVal.int IntKind.u8 0, AVal.int IntKind.u8 0, AVal.int IntKind.u8 0, AVal.int IntKind.u8 0, AVal.int IntKind.u8 0, AVal.int IntKind.u8 0, AVal.int IntKind.u8 0, AVal.int IntKind.u8 0, AVal.int IntKind.u8 0, AVal.int IntKind.u8 0, AVal.int IntKind.u8 0, AVal.int IntKind.u8 0, AVal.int IntKind.u8 0, AVal.int IntKind.u8 0, AVal.int IntKind.u8 0]) := by kernel_rfl
theorem un_190 : Go.Proofs.Tryz.prog.underlying 190 = some (TypeDesc.array 32 5) := by kernel_rfl
theorem bo_190 : bok Go.Proofs.Tryz.prog 190 = true := by kernel_rfl
theorem sz_191 : sizeA Go.Proofs.Tryz.prog 191 = some 64 := by kernel_rfl
theorem by_191 : bytesA Go.Proofs.Tryz.prog 191 = some 64 := by kernel_rfl
theorem ag_191 : aggA Go.Proofs.Tryz.prog 191 = some true := by kernel_rfl
theorem un_191 : Go.Proofs.Tryz.prog.underlying 191 = some (TypeDesc.array 64 5) := by kernel_rfl
theorem bo_191 : bok Go.Proofs.Tryz.prog 191 = true := by kernel_rfl
theorem sz_192 : sizeA Go.Proofs.Tryz.prog 192 = some 1 := by kernel_rfl
theorem by_192 : bytesA Go.Proofs.Tryz.prog 192 = some 8 := by kernel_rfl
theorem ag_192 : aggA Go.Proofs.Tryz.prog 192 = some false := by kernel_rfl
theorem ze_192 : zeroA Go.Proofs.Tryz.prog 192 = some AVal.nilf := by kernel_rfl
theorem un_192 : Go.Proofs.Tryz.prog.underlying 192 = some (TypeDesc.func { toList := [5] } { toList := [5] } false) := by kernel_rfl
theorem sz_193 : sizeA Go.Proofs.Tryz.prog 193 = some 3 := by kernel_rfl
theorem by_193 : bytesA Go.Proofs.Tryz.prog 193 = some 48 := by kernel_rfl
theorem ag_193 : aggA Go.Proofs.Tryz.prog 193 = some true := by kernel_rfl
theorem ze_193 : zeroA Go.Proofs.Tryz.prog 193 = some (AVal.agg [AVal.str [], AVal.str [], AVal.nili]) := by kernel_rfl
theorem bo_193 : bok Go.Proofs.Tryz.prog 193 = true := by kernel_rfl
theorem fp_193_0 : fieldPlaceA Go.Proofs.Tryz.prog 193 0 = some (0, 9) := by kernel_rfl
theorem bp_193_0 : bplace Go.Proofs.Tryz.prog 193 0 = some (0, 1) := by kernel_rfl
theorem fp_193_1 : fieldPlaceA Go.Proofs.Tryz.prog 193 1 = some (1, 9) := by kernel_rfl
theorem bp_193_1 : bplace Go.Proofs.Tryz.prog 193 1 = some (1, 1) := by kernel_rfl
theorem fp_193_2 : fieldPlaceA Go.Proofs.Tryz.prog 193 2 = some (2, 121) := by kernel_rfl
theorem bp_193_2 : bplace Go.Proofs.Tryz.prog 193 2 = some (2, 1) := by kernel_rfl
theorem sz_194 : sizeA Go.Proofs.Tryz.prog 194 = some 3 := by kernel_rfl
theorem by_194 : bytesA Go.Proofs.Tryz.prog 194 = some 48 := by kernel_rfl
theorem ag_194 : aggA Go.Proofs.Tryz.prog 194 = some true := by kernel_rfl
theorem ze_194 : zeroA Go.Proofs.Tryz.prog 194 = some (AVal.agg [AVal.str [], AVal.str [], AVal.nili]) := by kernel_rfl
theorem bo_194 : bok Go.Proofs.Tryz.prog 194 = true := by kernel_rfl
theorem fp_194_0 : fieldPlaceA Go.Proofs.Tryz.prog 194 0 = some (0, 9) := by kernel_rfl
theorem bp_194_0 : bplace Go.Proofs.Tryz.prog 194 0 = some (0, 1) := by kernel_rfl
theorem fp_194_1 : fieldPlaceA Go.Proofs.Tryz.prog 194 1 = some (1, 9) := by kernel_rfl
theorem bp_194_1 : bplace Go.Proofs.Tryz.prog 194 1 = some (1, 1) := by kernel_rfl
theorem fp_194_2 : fieldPlaceA Go.Proofs.Tryz.prog 194 2 = some (2, 121) := by kernel_rfl
theorem bp_194_2 : bplace Go.Proofs.Tryz.prog 194 2 = some (2, 1) := by kernel_rfl
theorem sz_195 : sizeA Go.Proofs.Tryz.prog 195 = some 1 := by kernel_rfl
theorem by_195 : bytesA Go.Proofs.Tryz.prog 195 = some 8 := by kernel_rfl
theorem ag_195 : aggA Go.Proofs.Tryz.prog 195 = some false := by kernel_rfl
theorem ze_195 : zeroA Go.Proofs.Tryz.prog 195 = some AVal.nilf := by kernel_rfl
theorem un_195 : Go.Proofs.Tryz.prog.underlying 195 = some (TypeDesc.func { toList := [9] } { toList := [121] } false) := by kernel_rfl
theorem sz_196 : sizeA Go.Proofs.Tryz.prog 196 = some 1 := by kernel_rfl
theorem by_196 : bytesA Go.Proofs.Tryz.prog 196 = some 8 := by kernel_rfl
theorem ag_196 : aggA Go.Proofs.Tryz.prog 196 = some false := by kernel_rfl
theorem ze_196 : zeroA Go.Proofs.Tryz.prog 196 = some AVal.nilf := by kernel_rfl
theorem un_196 : Go.Proofs.Tryz.prog.underlying 196 = some (TypeDesc.func { toList := [33] } { toList := [89] } true) := by kernel_rfl
theorem sz_197 : sizeA Go.Proofs.Tryz.prog 197 = some 1 := by kernel_rfl
theorem by_197 : bytesA Go.Proofs.Tryz.prog 197 = some 8 := by kernel_rfl
theorem ag_197 : aggA Go.Proofs.Tryz.prog 197 = some false := by kernel_rfl
theorem ze_197 : zeroA Go.Proofs.Tryz.prog 197 = some AVal.nilf := by kernel_rfl
theorem un_197 : Go.Proofs.Tryz.prog.underlying 197 = some (TypeDesc.func { toList := [34, 174] } { toList := [3] } false) := by kernel_rfl
theorem sz_198 : sizeA Go.Proofs.Tryz.prog 198 = some 1 := by kernel_rfl
theorem by_198 : bytesA Go.Proofs.Tryz.prog 198 = some 8 := by kernel_rfl
theorem ag_198 : aggA Go.Proofs.Tryz.prog 198 = some false := by kernel_rfl
theorem ze_198 : zeroA Go.Proofs.Tryz.prog 198 = some AVal.nilp := by kernel_rfl
theorem un_198 : Go.Proofs.Tryz.prog.underlying 198 = some (TypeDesc.pointer 200) := by kernel_rfl
theorem sz_199 : sizeA Go.Proofs.Tryz.prog 199 = some 1 := by kernel_rfl
theorem by_199 : bytesA Go.Proofs.Tryz.prog 199 = some 16 := by kernel_rfl
theorem ag_199 : aggA Go.Proofs.Tryz.prog 199 = some true := by kernel_rfl
theorem ze_199 : zeroA Go.Proofs.Tryz.prog 199 = some (AVal.agg [AVal.str []]) := by kernel_rfl
theorem bo_199 : bok Go.Proofs.Tryz.prog 199 = true := by kernel_rfl
theorem fp_199_0 : fieldPlaceA Go.Proofs.Tryz.prog 199 0 = some (0, 9) := by kernel_rfl
theorem bp_199_0 : bplace Go.Proofs.Tryz.prog 199 0 = some (0, 1) := by kernel_rfl
theorem sz_200 : sizeA Go.Proofs.Tryz.prog 200 = some 1 := by kernel_rfl
theorem by_200 : bytesA Go.Proofs.Tryz.prog 200 = some 16 := by kernel_rfl
theorem ag_200 : aggA Go.Proofs.Tryz.prog 200 = some true := by kernel_rfl
theorem ze_200 : zeroA Go.Proofs.Tryz.prog 200 = some (AVal.agg [AVal.str []]) := by kernel_rfl
theorem bo_200 : bok Go.Proofs.Tryz.prog 200 = true := by kernel_rfl
theorem fp_200_0 : fieldPlaceA Go.Proofs.Tryz.prog 200 0 = some (0, 9) := by kernel_rfl
theorem bp_200_0 : bplace Go.Proofs.Tryz.prog 200 0 = some (0, 1) := by kernel_rfl
theorem sz_201 : sizeA Go.Proofs.Tryz.prog 201 = some 4 := by kernel_rfl
theorem by_201 : bytesA Go.Proofs.Tryz.prog 201 = some 40 := by kernel_rfl
theorem ag_201 : aggA Go.Proofs.Tryz.prog 201 = some true := by kernel_rfl
theorem ze_201 : zeroA Go.Proofs.Tryz.prog 201 = some (AVal.agg [AVal.nilp, AVal.nilp, AVal.nilp, AVal.str []]) := by kernel_rfl
theorem bo_201 : bok Go.Proofs.Tryz.prog 201 = true := by kernel_rfl
theorem fp_201_0 : fieldPlaceA Go.Proofs.Tryz.prog 201 0 = some (0, 17) := by kernel_rfl
theorem bp_201_0 : bplace Go.Proofs.Tryz.prog 201 0 = some (0, 1) := by kernel_rfl
theorem fp_201_1 : fieldPlaceA Go.Proofs.Tryz.prog 201 1 = some (1, 17) := by kernel_rfl
theorem bp_201_1 : bplace Go.Proofs.Tryz.prog 201 1 = some (1, 1) := by kernel_rfl
theorem fp_201_2 : fieldPlaceA Go.Proofs.Tryz.prog 201 2 = some (2, 17) := by kernel_rfl
theorem bp_201_2 : bplace Go.Proofs.Tryz.prog 201 2 = some (2, 1) := by kernel_rfl
theorem fp_201_3 : fieldPlaceA Go.Proofs.Tryz.prog 201 3 = some (3, 9) := by kernel_rfl
theorem bp_201_3 : bplace Go.Proofs.Tryz.prog 201 3 = some (3, 1) := by kernel_rfl
theorem sz_202 : sizeA Go.Proofs.Tryz.prog 202 = some 4 := by kernel_rfl
theorem by_202 : bytesA Go.Proofs.Tryz.prog 202 = some 40 := by kernel_rfl
theorem ag_202 : aggA Go.Proofs.Tryz.prog 202 = some true := by kernel_rfl
theorem ze_202 : zeroA Go.Proofs.Tryz.prog 202 = some (AVal.agg [AVal.nilp, AVal.nilp, AVal.nilp, AVal.str []]) := by kernel_rfl
theorem bo_202 : bok Go.Proofs.Tryz.prog 202 = true := by kernel_rfl
theorem fp_202_0 : fieldPlaceA Go.Proofs.Tryz.prog 202 0 = some (0, 17) := by kernel_rfl
theorem bp_202_0 : bplace Go.Proofs.Tryz.prog 202 0 = some (0, 1) := by kernel_rfl
theorem fp_202_1 : fieldPlaceA Go.Proofs.Tryz.prog 202 1 = some (1, 17) := by kernel_rfl
theorem bp_202_1 : bplace Go.Proofs.Tryz.prog 202 1 = some (1, 1) := by kernel_rfl
theorem fp_202_2 : fieldPlaceA Go.Proofs.Tryz.prog 202 2 = some (2, 17) := by kernel_rfl
theorem bp_202_2 : bplace Go.Proofs.Tryz.prog 202 2 = some (2, 1) := by kernel_rfl
theorem fp_202_3 : fieldPlaceA Go.Proofs.Tryz.prog 202 3 = some (3, 9) := by kernel_rfl
theorem bp_202_3 : bplace Go.Proofs.Tryz.prog 202 3 = some (3, 1) := by kernel_rfl
theorem sz_203 : sizeA Go.Proofs.Tryz.prog 203 = some 0 := by kernel_rfl
theorem by_203 : bytesA Go.Proofs.Tryz.prog 203 = some 0 := by kernel_rfl
theorem ag_203 : aggA Go.Proofs.Tryz.prog 203 = some true := by kernel_rfl
theorem ze_203 : zeroA Go.Proofs.Tryz.prog 203 = some (AVal.agg []) := by kernel_rfl
theorem un_203 : Go.Proofs.Tryz.prog.underlying 203 = some (TypeDesc.array 0 16) := by kernel_rfl
theorem bo_203 : bok Go.Proofs.Tryz.prog 203 = true := by kernel_rfl
theorem sz_204 : sizeA Go.Proofs.Tryz.prog 204 = some 0 := by kernel_rfl
theorem by_204 : bytesA Go.Proofs.Tryz.prog 204 = some 0 := by kernel_rfl
theorem ag_204 : aggA Go.Proofs.Tryz.prog 204 = some true := by kernel_rfl
theorem ze_204 : zeroA Go.Proofs.Tryz.prog 204 = some (AVal.agg []) := by kernel_rfl
theorem bo_204 : bok Go.Proofs.Tryz.prog 204 = true := by kernel_rfl
theorem bp_204_0 : bplace Go.Proofs.Tryz.prog 204 0 = some (0, 0) := by kernel_rfl
theorem sz_205 : sizeA Go.Proofs.Tryz.prog 205 = some 0 := by kernel_rfl
theorem by_205 : bytesA Go.Proofs.Tryz.prog 205 = some 0 := by kernel_rfl
theorem ag_205 : aggA Go.Proofs.Tryz.prog 205 = some true := by kernel_rfl
theorem ze_205 : zeroA Go.Proofs.Tryz.prog 205 = some (AVal.agg []) := by kernel_rfl
theorem bo_205 : bok Go.Proofs.Tryz.prog 205 = true := by kernel_rfl
theorem bp_205_0 : bplace Go.Proofs.Tryz.prog 205 0 = some (0, 0) := by kernel_rfl
theorem sz_206 : sizeA Go.Proofs.Tryz.prog 206 = some 1 := by kernel_rfl
theorem by_206 : bytesA Go.Proofs.Tryz.prog 206 = some 8 := by kernel_rfl
theorem ag_206 : aggA Go.Proofs.Tryz.prog 206 = some false := by kernel_rfl
theorem ze_206 : zeroA Go.Proofs.Tryz.prog 206 = some AVal.nilf := by kernel_rfl
theorem un_206 : Go.Proofs.Tryz.prog.underlying 206 = some (TypeDesc.func { toList := [] } { toList := [3] } false) := by kernel_rfl
theorem sz_207 : sizeA Go.Proofs.Tryz.prog 207 = some 1 := by kernel_rfl
theorem by_207 : bytesA Go.Proofs.Tryz.prog 207 = some 1 := by kernel_rfl
theorem ag_207 : aggA Go.Proofs.Tryz.prog 207 = some false := by kernel_rfl
theorem ze_207 : zeroA Go.Proofs.Tryz.prog 207 = some (AVal.int IntKind.u8 0) := by kernel_rfl
theorem un_207 : Go.Proofs.Tryz.prog.underlying 207 = some (TypeDesc.int IntKind.u8) := by kernel_rfl
theorem sz_208 : sizeA Go.Proofs.Tryz.prog 208 = some 1 := by kernel_rfl
theorem by_208 : bytesA Go.Proofs.Tryz.prog 208 = some 1 := by kernel_rfl
theorem ag_208 : aggA Go.Proofs.Tryz.prog 208 = some false := by kernel_rfl
theorem ze_208 : zeroA Go.Proofs.Tryz.prog 208 = some (AVal.int IntKind.u8 0) := by kernel_rfl
theorem un_208 : Go.Proofs.Tryz.prog.underlying 208 = some (TypeDesc.int IntKind.u8) := by kernel_rfl
theorem sz_209 : sizeA Go.Proofs.Tryz.prog 209 = some 1 := by kernel_rfl
theorem by_209 : bytesA Go.Proofs.Tryz.prog 209 = some 8 := by kernel_rfl
theorem ag_209 : aggA Go.Proofs.Tryz.prog 209 = some false := by kernel_rfl
theorem ze_209 : zeroA Go.Proofs.Tryz.prog 209 = some AVal.nilf := by kernel_rfl
theorem un_209 : Go.Proofs.Tryz.prog.underlying 209 = some (TypeDesc.func { toList := [171, 171] } { toList := [4] } false) := by kernel_rfl
theorem sz_210 : sizeA Go.Proofs.Tryz.prog 210 = some 1 := by kernel_rfl
theorem by_210 : bytesA Go.Proofs.Tryz.prog 210 = some 4 := by kernel_rfl
theorem ag_210 : aggA Go.Proofs.Tryz.prog 210 = some false := by kernel_rfl
theorem ze_210 : zeroA Go.Proofs.Tryz.prog 210 = some (AVal.int IntKind.i32 0) := by kernel_rfl
theorem un_210 : Go.Proofs.Tryz.prog.underlying 210 = some (TypeDesc.int IntKind.i32) := by kernel_rfl
theorem sz_211 : sizeA Go.Proofs.Tryz.prog 211 = some 1 := by kernel_rfl
theorem by_211 : bytesA Go.Proofs.Tryz.prog 211 = some 4 := by kernel_rfl
theorem ag_211 : aggA Go.Proofs.Tryz.prog 211 = some false := by kernel_rfl
theorem ze_211 : zeroA Go.Proofs.Tryz.prog 211 = some (AVal.int IntKind.i32 0) := by kernel_rfl
theorem un_211 : Go.Proofs.Tryz.prog.underlying 211 = some (TypeDesc.int IntKind.i32) := by kernel_rfl
theorem sz_212 : sizeA Go.Proofs.Tryz.prog 212 = some 11 := by kernel_rfl
theorem by_212 : bytesA Go.Proofs.Tryz.prog 212 = some 48 := by kernel_rfl
theorem ag_212 : aggA Go.Proofs.Tryz.prog 212 = some true := by kernel_rfl
theorem ze_212 : zeroA Go.Proofs.Tryz.prog 212 = some (AVal.agg [AVal.int IntKind.u64 0, AVal.int IntKind.u64 0, AVal.int IntKind.u32 0, AVal.int IntKind.u8 0, AVal.int IntKind.u8 0, AVal.int IntKind.u8 0, AVal.int IntKind.u8 0, AVal.nilf, AVal.nilp, AVal.int IntKind.i32 0, AVal.int IntKind.i32 0]) := by kernel_rfl
theorem bo_212 : bok Go.Proofs.Tryz.prog 212 = true := by kernel_rfl
theorem fp_212_0 : fieldPlaceA Go.Proofs.Tryz.prog 212 0 = some (0, 12) := by kernel_rfl
theorem bp_212_0 : bplace Go.Proofs.Tryz.prog 212 0 = some (0, 1) := by kernel_rfl
theorem fp_212_1 : fieldPlaceA Go.Proofs.Tryz.prog 212 1 = some (1, 12) := by kernel_rfl
theorem bp_212_1 : bplace Go.Proofs.Tryz.prog 212 1 = some (1, 1) := by kernel_rfl
theorem fp_212_2 : fieldPlaceA Go.Proofs.Tryz.prog 212 2 = some (2, 165) := by kernel_rfl
theorem bp_212_2 : bplace Go.Proofs.Tryz.prog 212 2 = some (2, 1) := by kernel_rfl
theorem fp_212_3 : fieldPlaceA Go.Proofs.Tryz.prog 212 3 = some (3, 207) := by kernel_rfl
theorem bp_212_3 : bplace Go.Proofs.Tryz.prog 212 3 = some (3, 1) := by kernel_rfl
theorem fp_212_4 : fieldPlaceA Go.Proofs.Tryz.prog 212 4 = some (4, 5) := by kernel_rfl
theorem bp_212_4 : bplace Go.Proofs.Tryz.prog 212 4 = some (4, 1) := by kernel_rfl
theorem fp_212_5 : fieldPlaceA Go.Proofs.Tryz.prog 212 5 = some (5, 5) := by kernel_rfl
theorem bp_212_5 : bplace Go.Proofs.Tryz.prog 212 5 = some (5, 1) := by kernel_rfl
theorem fp_212_6 : fieldPlaceA Go.Proofs.Tryz.prog 212 6 = some (6, 208) := by kernel_rfl
theorem bp_212_6 : bplace Go.Proofs.Tryz.prog 212 6 = some (6, 1) := by kernel_rfl
theorem fp_212_7 : fieldPlaceA Go.Proofs.Tryz.prog 212 7 = some (7, 209) := by kernel_rfl
theorem bp_212_7 : bplace Go.Proofs.Tryz.prog 212 7 = some (7, 1) := by kernel_rfl
theorem fp_212_8 : fieldPlaceA Go.Proofs.Tryz.prog 212 8 = some (8, 147) := by kernel_rfl
theorem bp_212_8 : bplace Go.Proofs.Tryz.prog 212 8 = some (8, 1) := by kernel_rfl
theorem fp_212_9 : fieldPlaceA Go.Proofs.Tryz.prog 212 9 = some (9, 210) := by kernel_rfl
theorem bp_212_9 : bplace Go.Proofs.Tryz.prog 212 9 = some (9, 1) := by kernel_rfl
theorem fp_212_10 : fieldPlaceA Go.Proofs.Tryz.prog 212 10 = some (10, 211) := by kernel_rfl
theorem bp_212_10 : bplace Go.Proofs.Tryz.prog 212 10 = some (10, 1) := by kernel_rfl
theorem sz_213 : sizeA Go.Proofs.Tryz.prog 213 = some 11 := by kernel_rfl
theorem by_213 : bytesA Go.Proofs.Tryz.prog 213 = some 48 := by kernel_rfl
theorem ag_213 : aggA Go.Proofs.Tryz.prog 213 = some true := by kernel_rfl
theorem ze_213 : zeroA Go.Proofs.Tryz.prog 213 = some (AVal.agg [AVal.int IntKind.u64 0, AVal.int IntKind.u64 0, AVal.int IntKind.u32 0, AVal.int IntKind.u8 0, AVal.int IntKind.u8 0, AVal.int IntKind.u8 0, AVal.int IntKind.u8 0, AVal.nilf, AVal.nilp, AVal.int IntKind.i32 0, AVal.int IntKind.i32 0]) := by kernel_rfl
theorem bo_213 : bok Go.Proofs.Tryz.prog 213 = true := by kernel_rfl
theorem fp_213_0 : fieldPlaceA Go.Proofs.Tryz.prog 213 0 = some (0, 12) := by kernel_rfl
theorem bp_213_0 : bplace Go.Proofs.Tryz.prog 213 0 = some (0, 1) := by kernel_rfl
theorem fp_213_1 : fieldPlaceA Go.Proofs.Tryz.prog 213 1 = some (1, 12) := by kernel_rfl
theorem bp_213_1 : bplace Go.Proofs.Tryz.prog 213 1 = some (1, 1) := by kernel_rfl
theorem fp_213_2 : fieldPlaceA Go.Proofs.Tryz.prog 213 2 = some (2, 165) := by kernel_rfl
theorem bp_213_2 : bplace Go.Proofs.Tryz.prog 213 2 = some (2, 1) := by kernel_rfl
theorem fp_213_3 : fieldPlaceA Go.Proofs.Tryz.prog 213 3 = some (3, 207) := by kernel_rfl
theorem bp_213_3 : bplace Go.Proofs.Tryz.prog 213 3 = some (3, 1) := by kernel_rfl
theorem fp_213_4 : fieldPlaceA Go.Proofs.Tryz.prog 213 4 = some (4, 5) := by kernel_rfl
theorem bp_213_4 : bplace Go.Proofs.Tryz.prog 213 4 = some (4, 1) := by kernel_rfl
theorem fp_213_5 : fieldPlaceA Go.Proofs.Tryz.prog 213 5 = some (5, 5) := by kernel_rfl
theorem bp_213_5 : bplace Go.Proofs.Tryz.prog 213 5 = some (5, 1) := by kernel_rfl
theorem fp_213_6 : fieldPlaceA Go.Proofs.Tryz.prog 213 6 = some (6, 208) := by kernel_rfl
theorem bp_213_6 : bplace Go.Proofs.Tryz.prog 213 6 = some (6, 1) := by kernel_rfl
theorem fp_213_7 : fieldPlaceA Go.Proofs.Tryz.prog 213 7 = some (7, 209) := by kernel_rfl
theorem bp_213_7 : bplace Go.Proofs.Tryz.prog 213 7 = some (7, 1) := by kernel_rfl
theorem fp_213_8 : fieldPlaceA Go.Proofs.Tryz.prog 213 8 = some (8, 147) := by kernel_rfl
theorem bp_213_8 : bplace Go.Proofs.Tryz.prog 213 8 = some (8, 1) := by kernel_rfl
theorem fp_213_9 : fieldPlaceA Go.Proofs.Tryz.prog 213 9 = some (9, 210) := by kernel_rfl
theorem bp_213_9 : bplace Go.Proofs.Tryz.prog 213 9 = some (9, 1) := by kernel_rfl
theorem fp_213_10 : fieldPlaceA Go.Proofs.Tryz.prog 213 10 = some (10, 211) := by kernel_rfl
theorem bp_213_10 : bplace Go.Proofs.Tryz.prog 213 10 = some (10, 1) := by kernel_rfl
end Go.Ab.Tab
