/- The tables of the program, looked up. -/
import Derived.Test.YtnmejllfnndcbaaGreatDoorAbSim
import Derived.Test.YtnmejllfnndcbaaGreatDoorProg
import Derived.KernelRfl
set_option linter.unusedSimpArgs false
set_option linter.unusedVariables false
namespace Go.Ab.Tab
set_option maxRecDepth 100000
theorem sz_0 : sizeA Go.Proofs.Tryz.prog 0 = some 1 := by kernel_rfl
theorem by_0 : bytesA Go.Proofs.Tryz.prog 0 = some 0 := by kernel_rfl
theorem ag_0 : aggA Go.Proofs.Tryz.prog 0 = some false := by kernel_rfl
theorem ze_0 : zeroA Go.Proofs.Tryz.prog 0 = some (AVal.tuple []) := by kernel_rfl
theorem sz_1 : sizeA Go.Proofs.Tryz.prog 1 = some 1 := by kernel_rfl
theorem by_1 : bytesA Go.Proofs.Tryz.prog 1 = some 8 := by kernel_rfl
theorem ag_1 : aggA Go.Proofs.Tryz.prog 1 = some false := by kernel_rfl
theorem ze_1 : zeroA Go.Proofs.Tryz.prog 1 = some AVal.nilf := by kernel_rfl
theorem un_1 : Go.Proofs.Tryz.prog.underlying 1 = some (TypeDesc.func { toList := [] } { toList := [] } false) := by kernel_rfl
theorem sz_2 : sizeA Go.Proofs.Tryz.prog 2 = some 1 := by kernel_rfl
theorem by_2 : bytesA Go.Proofs.Tryz.prog 2 = some 8 := by kernel_rfl
theorem ag_2 : aggA Go.Proofs.Tryz.prog 2 = some false := by kernel_rfl
theorem ze_2 : zeroA Go.Proofs.Tryz.prog 2 = some (AVal.int IntKind.i64 0) := by kernel_rfl
theorem un_2 : Go.Proofs.Tryz.prog.underlying 2 = some (TypeDesc.int IntKind.i64) := by kernel_rfl
theorem sz_3 : sizeA Go.Proofs.Tryz.prog 3 = some 1 := by kernel_rfl
theorem by_3 : bytesA Go.Proofs.Tryz.prog 3 = some 8 := by kernel_rfl
theorem ag_3 : aggA Go.Proofs.Tryz.prog 3 = some false := by kernel_rfl
theorem ze_3 : zeroA Go.Proofs.Tryz.prog 3 = some (AVal.int IntKind.i64 0) := by kernel_rfl
theorem un_3 : Go.Proofs.Tryz.prog.underlying 3 = some (TypeDesc.int IntKind.i64) := by kernel_rfl
theorem sz_4 : sizeA Go.Proofs.Tryz.prog 4 = some 1 := by kernel_rfl
theorem by_4 : bytesA Go.Proofs.Tryz.prog 4 = some 1 := by kernel_rfl
theorem ag_4 : aggA Go.Proofs.Tryz.prog 4 = some false := by kernel_rfl
theorem ze_4 : zeroA Go.Proofs.Tryz.prog 4 = some (AVal.bool false) := by kernel_rfl
theorem un_4 : Go.Proofs.Tryz.prog.underlying 4 = some (TypeDesc.bool) := by kernel_rfl
theorem sz_5 : sizeA Go.Proofs.Tryz.prog 5 = some 1 := by kernel_rfl
theorem by_5 : bytesA Go.Proofs.Tryz.prog 5 = some 1 := by kernel_rfl
theorem ag_5 : aggA Go.Proofs.Tryz.prog 5 = some false := by kernel_rfl
theorem ze_5 : zeroA Go.Proofs.Tryz.prog 5 = some (AVal.int IntKind.u8 0) := by kernel_rfl
theorem un_5 : Go.Proofs.Tryz.prog.underlying 5 = some (TypeDesc.int IntKind.u8) := by kernel_rfl
theorem sz_6 : sizeA Go.Proofs.Tryz.prog 6 = some 1 := by kernel_rfl
theorem by_6 : bytesA Go.Proofs.Tryz.prog 6 = some 1 := by kernel_rfl
theorem ag_6 : aggA Go.Proofs.Tryz.prog 6 = some false := by kernel_rfl
theorem ze_6 : zeroA Go.Proofs.Tryz.prog 6 = some (AVal.int IntKind.u8 0) := by kernel_rfl
theorem un_6 : Go.Proofs.Tryz.prog.underlying 6 = some (TypeDesc.int IntKind.u8) := by kernel_rfl
theorem sz_7 : sizeA Go.Proofs.Tryz.prog 7 = some 4 := by kernel_rfl
theorem by_7 : bytesA Go.Proofs.Tryz.prog 7 = some 24 := by kernel_rfl
theorem ag_7 : aggA Go.Proofs.Tryz.prog 7 = some true := by kernel_rfl
theorem ze_7 : zeroA Go.Proofs.Tryz.prog 7 = some (AVal.agg [AVal.int IntKind.i64 0, AVal.int IntKind.i64 0, AVal.bool false, AVal.int IntKind.u8 0]) := by kernel_rfl
theorem sz_9 : sizeA Go.Proofs.Tryz.prog 9 = some 1 := by kernel_rfl
theorem by_9 : bytesA Go.Proofs.Tryz.prog 9 = some 16 := by kernel_rfl
theorem ag_9 : aggA Go.Proofs.Tryz.prog 9 = some false := by kernel_rfl
theorem ze_9 : zeroA Go.Proofs.Tryz.prog 9 = some (AVal.str []) := by kernel_rfl
theorem un_9 : Go.Proofs.Tryz.prog.underlying 9 = some (TypeDesc.string) := by kernel_rfl
theorem sz_11 : sizeA Go.Proofs.Tryz.prog 11 = some 1 := by kernel_rfl
theorem by_11 : bytesA Go.Proofs.Tryz.prog 11 = some 16 := by kernel_rfl
theorem ag_11 : aggA Go.Proofs.Tryz.prog 11 = some false := by kernel_rfl
theorem ze_11 : zeroA Go.Proofs.Tryz.prog 11 = some (AVal.str []) := by kernel_rfl
theorem un_11 : Go.Proofs.Tryz.prog.underlying 11 = some (TypeDesc.string) := by kernel_rfl
theorem sz_22 : sizeA Go.Proofs.Tryz.prog 22 = some 1 := by kernel_rfl
theorem by_22 : bytesA Go.Proofs.Tryz.prog 22 = some 24 := by kernel_rfl
theorem ag_22 : aggA Go.Proofs.Tryz.prog 22 = some false := by kernel_rfl
theorem ze_22 : zeroA Go.Proofs.Tryz.prog 22 = some (AVal.slice [] Go.Ab.Tk.full) := by kernel_rfl
theorem un_22 : Go.Proofs.Tryz.prog.underlying 22 = some (TypeDesc.slice 66) := by kernel_rfl
theorem el_22 : elemA Go.Proofs.Tryz.prog 22 = some 66 := by kernel_rfl
theorem sz_23 : sizeA Go.Proofs.Tryz.prog 23 = some 1 := by kernel_rfl
theorem by_23 : bytesA Go.Proofs.Tryz.prog 23 = some 24 := by kernel_rfl
theorem ag_23 : aggA Go.Proofs.Tryz.prog 23 = some false := by kernel_rfl
theorem ze_23 : zeroA Go.Proofs.Tryz.prog 23 = some (AVal.slice [] Go.Ab.Tk.full) := by kernel_rfl
theorem un_23 : Go.Proofs.Tryz.prog.underlying 23 = some (TypeDesc.slice 55) := by kernel_rfl
theorem el_23 : elemA Go.Proofs.Tryz.prog 23 = some 55 := by kernel_rfl
theorem sz_25 : sizeA Go.Proofs.Tryz.prog 25 = some 2 := by kernel_rfl
theorem by_25 : bytesA Go.Proofs.Tryz.prog 25 = some 48 := by kernel_rfl
theorem ag_25 : aggA Go.Proofs.Tryz.prog 25 = some true := by kernel_rfl
theorem ze_25 : zeroA Go.Proofs.Tryz.prog 25 = some (AVal.agg [AVal.slice [] Go.Ab.Tk.full, AVal.slice [] Go.Ab.Tk.full]) := by kernel_rfl
theorem fp_25_0 : fieldPlaceA Go.Proofs.Tryz.prog 25 0 = some (0, 22) := by kernel_rfl
theorem fp_25_1 : fieldPlaceA Go.Proofs.Tryz.prog 25 1 = some (1, 23) := by kernel_rfl
theorem sz_27 : sizeA Go.Proofs.Tryz.prog 27 = some 1 := by kernel_rfl
theorem by_27 : bytesA Go.Proofs.Tryz.prog 27 = some 8 := by kernel_rfl
theorem ag_27 : aggA Go.Proofs.Tryz.prog 27 = some false := by kernel_rfl
theorem ze_27 : zeroA Go.Proofs.Tryz.prog 27 = some (AVal.int IntKind.i64 0) := by kernel_rfl
theorem un_27 : Go.Proofs.Tryz.prog.underlying 27 = some (TypeDesc.int IntKind.i64) := by kernel_rfl
theorem sz_33 : sizeA Go.Proofs.Tryz.prog 33 = some 1 := by kernel_rfl
theorem by_33 : bytesA Go.Proofs.Tryz.prog 33 = some 24 := by kernel_rfl
theorem ag_33 : aggA Go.Proofs.Tryz.prog 33 = some false := by kernel_rfl
theorem ze_33 : zeroA Go.Proofs.Tryz.prog 33 = some (AVal.slice [] Go.Ab.Tk.full) := by kernel_rfl
theorem un_33 : Go.Proofs.Tryz.prog.underlying 33 = some (TypeDesc.slice 9) := by kernel_rfl
theorem el_33 : elemA Go.Proofs.Tryz.prog 33 = some 9 := by kernel_rfl
theorem sz_34 : sizeA Go.Proofs.Tryz.prog 34 = some 1 := by kernel_rfl
theorem by_34 : bytesA Go.Proofs.Tryz.prog 34 = some 24 := by kernel_rfl
theorem ag_34 : aggA Go.Proofs.Tryz.prog 34 = some false := by kernel_rfl
theorem ze_34 : zeroA Go.Proofs.Tryz.prog 34 = some (AVal.slice [] Go.Ab.Tk.full) := by kernel_rfl
theorem un_34 : Go.Proofs.Tryz.prog.underlying 34 = some (TypeDesc.slice 36) := by kernel_rfl
theorem el_34 : elemA Go.Proofs.Tryz.prog 34 = some 36 := by kernel_rfl
theorem sz_36 : sizeA Go.Proofs.Tryz.prog 36 = some 5 := by kernel_rfl
theorem by_36 : bytesA Go.Proofs.Tryz.prog 36 = some 80 := by kernel_rfl
theorem ag_36 : aggA Go.Proofs.Tryz.prog 36 = some true := by kernel_rfl
theorem ze_36 : zeroA Go.Proofs.Tryz.prog 36 = some (AVal.agg [AVal.int IntKind.i64 0, AVal.str [], AVal.int IntKind.i64 0, AVal.slice [] Go.Ab.Tk.full, AVal.slice [] Go.Ab.Tk.full]) := by kernel_rfl
theorem bo_36 : bok Go.Proofs.Tryz.prog 36 = true := by kernel_rfl
theorem fp_36_0 : fieldPlaceA Go.Proofs.Tryz.prog 36 0 = some (0, 3) := by kernel_rfl
theorem bp_36_0 : bplace Go.Proofs.Tryz.prog 36 0 = some (0, 1) := by kernel_rfl
theorem fp_36_1 : fieldPlaceA Go.Proofs.Tryz.prog 36 1 = some (1, 9) := by kernel_rfl
theorem bp_36_1 : bplace Go.Proofs.Tryz.prog 36 1 = some (1, 1) := by kernel_rfl
theorem fp_36_2 : fieldPlaceA Go.Proofs.Tryz.prog 36 2 = some (2, 2) := by kernel_rfl
theorem bp_36_2 : bplace Go.Proofs.Tryz.prog 36 2 = some (2, 1) := by kernel_rfl
theorem fp_36_3 : fieldPlaceA Go.Proofs.Tryz.prog 36 3 = some (3, 33) := by kernel_rfl
theorem bp_36_3 : bplace Go.Proofs.Tryz.prog 36 3 = some (3, 1) := by kernel_rfl
theorem fp_36_4 : fieldPlaceA Go.Proofs.Tryz.prog 36 4 = some (4, 34) := by kernel_rfl
theorem bp_36_4 : bplace Go.Proofs.Tryz.prog 36 4 = some (4, 1) := by kernel_rfl
theorem sz_38 : sizeA Go.Proofs.Tryz.prog 38 = some 1 := by kernel_rfl
theorem by_38 : bytesA Go.Proofs.Tryz.prog 38 = some 8 := by kernel_rfl
theorem ag_38 : aggA Go.Proofs.Tryz.prog 38 = some false := by kernel_rfl
theorem ze_38 : zeroA Go.Proofs.Tryz.prog 38 = some AVal.nilf := by kernel_rfl
theorem un_38 : Go.Proofs.Tryz.prog.underlying 38 = some (TypeDesc.func { toList := [36, 36] } { toList := [4] } false) := by kernel_rfl
theorem sz_41 : sizeA Go.Proofs.Tryz.prog 41 = some 1 := by kernel_rfl
theorem by_41 : bytesA Go.Proofs.Tryz.prog 41 = some 24 := by kernel_rfl
theorem ag_41 : aggA Go.Proofs.Tryz.prog 41 = some false := by kernel_rfl
theorem ze_41 : zeroA Go.Proofs.Tryz.prog 41 = some (AVal.slice [] Go.Ab.Tk.full) := by kernel_rfl
theorem un_41 : Go.Proofs.Tryz.prog.underlying 41 = some (TypeDesc.slice 85) := by kernel_rfl
theorem el_41 : elemA Go.Proofs.Tryz.prog 41 = some 85 := by kernel_rfl
theorem sz_43 : sizeA Go.Proofs.Tryz.prog 43 = some 3 := by kernel_rfl
theorem by_43 : bytesA Go.Proofs.Tryz.prog 43 = some 24 := by kernel_rfl
theorem ag_43 : aggA Go.Proofs.Tryz.prog 43 = some true := by kernel_rfl
theorem ze_43 : zeroA Go.Proofs.Tryz.prog 43 = some (AVal.agg [AVal.int IntKind.i64 0, AVal.int IntKind.i64 0, AVal.int IntKind.i64 0]) := by kernel_rfl
theorem bo_43 : bok Go.Proofs.Tryz.prog 43 = true := by kernel_rfl
theorem bp_43_0 : bplace Go.Proofs.Tryz.prog 43 0 = some (0, 1) := by kernel_rfl
theorem bp_43_1 : bplace Go.Proofs.Tryz.prog 43 1 = some (1, 1) := by kernel_rfl
theorem bp_43_2 : bplace Go.Proofs.Tryz.prog 43 2 = some (2, 1) := by kernel_rfl
theorem sz_49 : sizeA Go.Proofs.Tryz.prog 49 = some 6 := by kernel_rfl
theorem by_49 : bytesA Go.Proofs.Tryz.prog 49 = some 104 := by kernel_rfl
theorem ag_49 : aggA Go.Proofs.Tryz.prog 49 = some true := by kernel_rfl
theorem ze_49 : zeroA Go.Proofs.Tryz.prog 49 = some (AVal.agg [AVal.slice [] Go.Ab.Tk.full, AVal.int IntKind.i64 0, AVal.str [], AVal.int IntKind.i64 0, AVal.slice [] Go.Ab.Tk.full, AVal.slice [] Go.Ab.Tk.full]) := by kernel_rfl
theorem fp_49_0 : fieldPlaceA Go.Proofs.Tryz.prog 49 0 = some (0, 33) := by kernel_rfl
theorem fp_49_1 : fieldPlaceA Go.Proofs.Tryz.prog 49 1 = some (1, 36) := by kernel_rfl
theorem sz_50 : sizeA Go.Proofs.Tryz.prog 50 = some 1 := by kernel_rfl
theorem by_50 : bytesA Go.Proofs.Tryz.prog 50 = some 24 := by kernel_rfl
theorem ag_50 : aggA Go.Proofs.Tryz.prog 50 = some false := by kernel_rfl
theorem ze_50 : zeroA Go.Proofs.Tryz.prog 50 = some (AVal.slice [] Go.Ab.Tk.full) := by kernel_rfl
theorem un_50 : Go.Proofs.Tryz.prog.underlying 50 = some (TypeDesc.slice 96) := by kernel_rfl
theorem el_50 : elemA Go.Proofs.Tryz.prog 50 = some 96 := by kernel_rfl
theorem sz_52 : sizeA Go.Proofs.Tryz.prog 52 = some 7 := by kernel_rfl
theorem by_52 : bytesA Go.Proofs.Tryz.prog 52 = some 128 := by kernel_rfl
theorem ag_52 : aggA Go.Proofs.Tryz.prog 52 = some true := by kernel_rfl
theorem ze_52 : zeroA Go.Proofs.Tryz.prog 52 = some (AVal.agg [AVal.slice [] Go.Ab.Tk.full, AVal.int IntKind.i64 0, AVal.str [], AVal.int IntKind.i64 0, AVal.slice [] Go.Ab.Tk.full, AVal.slice [] Go.Ab.Tk.full, AVal.slice [] Go.Ab.Tk.full]) := by kernel_rfl
theorem fp_52_0 : fieldPlaceA Go.Proofs.Tryz.prog 52 0 = some (0, 49) := by kernel_rfl
theorem fp_52_1 : fieldPlaceA Go.Proofs.Tryz.prog 52 1 = some (6, 50) := by kernel_rfl
theorem sz_53 : sizeA Go.Proofs.Tryz.prog 53 = some 1 := by kernel_rfl
theorem by_53 : bytesA Go.Proofs.Tryz.prog 53 = some 24 := by kernel_rfl
theorem ag_53 : aggA Go.Proofs.Tryz.prog 53 = some false := by kernel_rfl
theorem ze_53 : zeroA Go.Proofs.Tryz.prog 53 = some (AVal.slice [] Go.Ab.Tk.full) := by kernel_rfl
theorem un_53 : Go.Proofs.Tryz.prog.underlying 53 = some (TypeDesc.slice 52) := by kernel_rfl
theorem el_53 : elemA Go.Proofs.Tryz.prog 53 = some 52 := by kernel_rfl
theorem sz_55 : sizeA Go.Proofs.Tryz.prog 55 = some 5 := by kernel_rfl
theorem by_55 : bytesA Go.Proofs.Tryz.prog 55 = some 112 := by kernel_rfl
theorem ag_55 : aggA Go.Proofs.Tryz.prog 55 = some true := by kernel_rfl
theorem ze_55 : zeroA Go.Proofs.Tryz.prog 55 = some (AVal.agg [AVal.str [], AVal.slice [] Go.Ab.Tk.full, AVal.slice [] Go.Ab.Tk.full, AVal.slice [] Go.Ab.Tk.full, AVal.slice [] Go.Ab.Tk.full]) := by kernel_rfl
theorem fp_55_0 : fieldPlaceA Go.Proofs.Tryz.prog 55 0 = some (0, 9) := by kernel_rfl
theorem fp_55_1 : fieldPlaceA Go.Proofs.Tryz.prog 55 1 = some (1, 33) := by kernel_rfl
theorem fp_55_2 : fieldPlaceA Go.Proofs.Tryz.prog 55 2 = some (2, 33) := by kernel_rfl
theorem fp_55_3 : fieldPlaceA Go.Proofs.Tryz.prog 55 3 = some (3, 33) := by kernel_rfl
theorem fp_55_4 : fieldPlaceA Go.Proofs.Tryz.prog 55 4 = some (4, 53) := by kernel_rfl
theorem sz_57 : sizeA Go.Proofs.Tryz.prog 57 = some 1 := by kernel_rfl
theorem by_57 : bytesA Go.Proofs.Tryz.prog 57 = some 1 := by kernel_rfl
theorem ag_57 : aggA Go.Proofs.Tryz.prog 57 = some true := by kernel_rfl
theorem ze_57 : zeroA Go.Proofs.Tryz.prog 57 = some (AVal.agg [AVal.bool false]) := by kernel_rfl
theorem bo_57 : bok Go.Proofs.Tryz.prog 57 = true := by kernel_rfl
theorem fp_57_0 : fieldPlaceA Go.Proofs.Tryz.prog 57 0 = some (0, 4) := by kernel_rfl
theorem bp_57_0 : bplace Go.Proofs.Tryz.prog 57 0 = some (0, 1) := by kernel_rfl
theorem sz_59 : sizeA Go.Proofs.Tryz.prog 59 = some 1 := by kernel_rfl
theorem by_59 : bytesA Go.Proofs.Tryz.prog 59 = some 8 := by kernel_rfl
theorem ag_59 : aggA Go.Proofs.Tryz.prog 59 = some false := by kernel_rfl
theorem ze_59 : zeroA Go.Proofs.Tryz.prog 59 = some AVal.nilf := by kernel_rfl
theorem un_59 : Go.Proofs.Tryz.prog.underlying 59 = some (TypeDesc.func { toList := [36] } { toList := [] } false) := by kernel_rfl
theorem sz_62 : sizeA Go.Proofs.Tryz.prog 62 = some 1 := by kernel_rfl
theorem by_62 : bytesA Go.Proofs.Tryz.prog 62 = some 8 := by kernel_rfl
theorem ag_62 : aggA Go.Proofs.Tryz.prog 62 = some false := by kernel_rfl
theorem ze_62 : zeroA Go.Proofs.Tryz.prog 62 = some AVal.nilp := by kernel_rfl
theorem un_62 : Go.Proofs.Tryz.prog.underlying 62 = some (TypeDesc.pointer 64) := by kernel_rfl
theorem sz_64 : sizeA Go.Proofs.Tryz.prog 64 = some 1 := by kernel_rfl
theorem by_64 : bytesA Go.Proofs.Tryz.prog 64 = some 24 := by kernel_rfl
theorem ag_64 : aggA Go.Proofs.Tryz.prog 64 = some true := by kernel_rfl
theorem ze_64 : zeroA Go.Proofs.Tryz.prog 64 = some (AVal.agg [AVal.slice [] Go.Ab.Tk.full]) := by kernel_rfl
theorem bo_64 : bok Go.Proofs.Tryz.prog 64 = true := by kernel_rfl
theorem fp_64_0 : fieldPlaceA Go.Proofs.Tryz.prog 64 0 = some (0, 33) := by kernel_rfl
theorem bp_64_0 : bplace Go.Proofs.Tryz.prog 64 0 = some (0, 1) := by kernel_rfl
theorem sz_66 : sizeA Go.Proofs.Tryz.prog 66 = some 2 := by kernel_rfl
theorem by_66 : bytesA Go.Proofs.Tryz.prog 66 = some 40 := by kernel_rfl
theorem ag_66 : aggA Go.Proofs.Tryz.prog 66 = some true := by kernel_rfl
theorem ze_66 : zeroA Go.Proofs.Tryz.prog 66 = some (AVal.agg [AVal.str [], AVal.slice [] Go.Ab.Tk.full]) := by kernel_rfl
theorem fp_66_0 : fieldPlaceA Go.Proofs.Tryz.prog 66 0 = some (0, 9) := by kernel_rfl
theorem fp_66_1 : fieldPlaceA Go.Proofs.Tryz.prog 66 1 = some (1, 33) := by kernel_rfl
theorem sz_73 : sizeA Go.Proofs.Tryz.prog 73 = some 1 := by kernel_rfl
theorem by_73 : bytesA Go.Proofs.Tryz.prog 73 = some 8 := by kernel_rfl
theorem ag_73 : aggA Go.Proofs.Tryz.prog 73 = some false := by kernel_rfl
theorem ze_73 : zeroA Go.Proofs.Tryz.prog 73 = some AVal.nilf := by kernel_rfl
theorem un_73 : Go.Proofs.Tryz.prog.underlying 73 = some (TypeDesc.func { toList := [66, 66] } { toList := [4] } false) := by kernel_rfl
theorem sz_75 : sizeA Go.Proofs.Tryz.prog 75 = some 1 := by kernel_rfl
theorem by_75 : bytesA Go.Proofs.Tryz.prog 75 = some 8 := by kernel_rfl
theorem ag_75 : aggA Go.Proofs.Tryz.prog 75 = some false := by kernel_rfl
theorem ze_75 : zeroA Go.Proofs.Tryz.prog 75 = some AVal.nilf := by kernel_rfl
theorem un_75 : Go.Proofs.Tryz.prog.underlying 75 = some (TypeDesc.func { toList := [55, 55] } { toList := [4] } false) := by kernel_rfl
theorem sz_77 : sizeA Go.Proofs.Tryz.prog 77 = some 1 := by kernel_rfl
theorem by_77 : bytesA Go.Proofs.Tryz.prog 77 = some 8 := by kernel_rfl
theorem ag_77 : aggA Go.Proofs.Tryz.prog 77 = some false := by kernel_rfl
theorem ze_77 : zeroA Go.Proofs.Tryz.prog 77 = some AVal.nilf := by kernel_rfl
theorem un_77 : Go.Proofs.Tryz.prog.underlying 77 = some (TypeDesc.func { toList := [52, 52] } { toList := [4] } false) := by kernel_rfl
theorem sz_81 : sizeA Go.Proofs.Tryz.prog 81 = some 1 := by kernel_rfl
theorem by_81 : bytesA Go.Proofs.Tryz.prog 81 = some 8 := by kernel_rfl
theorem ag_81 : aggA Go.Proofs.Tryz.prog 81 = some false := by kernel_rfl
theorem ze_81 : zeroA Go.Proofs.Tryz.prog 81 = some AVal.nilp := by kernel_rfl
theorem un_81 : Go.Proofs.Tryz.prog.underlying 81 = some (TypeDesc.pointer 83) := by kernel_rfl
theorem sz_83 : sizeA Go.Proofs.Tryz.prog 83 = some 4 := by kernel_rfl
theorem by_83 : bytesA Go.Proofs.Tryz.prog 83 = some 40 := by kernel_rfl
theorem ag_83 : aggA Go.Proofs.Tryz.prog 83 = some true := by kernel_rfl
theorem ze_83 : zeroA Go.Proofs.Tryz.prog 83 = some (AVal.agg [AVal.str [], AVal.int IntKind.i64 0, AVal.int IntKind.i64 0, AVal.int IntKind.i64 0]) := by kernel_rfl
theorem bo_83 : bok Go.Proofs.Tryz.prog 83 = true := by kernel_rfl
theorem fp_83_0 : fieldPlaceA Go.Proofs.Tryz.prog 83 0 = some (0, 9) := by kernel_rfl
theorem bp_83_0 : bplace Go.Proofs.Tryz.prog 83 0 = some (0, 1) := by kernel_rfl
theorem fp_83_1 : fieldPlaceA Go.Proofs.Tryz.prog 83 1 = some (1, 3) := by kernel_rfl
theorem bp_83_1 : bplace Go.Proofs.Tryz.prog 83 1 = some (1, 1) := by kernel_rfl
theorem fp_83_2 : fieldPlaceA Go.Proofs.Tryz.prog 83 2 = some (2, 3) := by kernel_rfl
theorem bp_83_2 : bplace Go.Proofs.Tryz.prog 83 2 = some (2, 1) := by kernel_rfl
theorem fp_83_3 : fieldPlaceA Go.Proofs.Tryz.prog 83 3 = some (3, 3) := by kernel_rfl
theorem bp_83_3 : bplace Go.Proofs.Tryz.prog 83 3 = some (3, 1) := by kernel_rfl
theorem sz_85 : sizeA Go.Proofs.Tryz.prog 85 = some 5 := by kernel_rfl
theorem by_85 : bytesA Go.Proofs.Tryz.prog 85 = some 48 := by kernel_rfl
theorem ag_85 : aggA Go.Proofs.Tryz.prog 85 = some true := by kernel_rfl
theorem ze_85 : zeroA Go.Proofs.Tryz.prog 85 = some (AVal.agg [AVal.int IntKind.i64 0, AVal.str [], AVal.int IntKind.i64 0, AVal.int IntKind.i64 0, AVal.int IntKind.i64 0]) := by kernel_rfl
theorem bo_85 : bok Go.Proofs.Tryz.prog 85 = true := by kernel_rfl
theorem fp_85_0 : fieldPlaceA Go.Proofs.Tryz.prog 85 0 = some (0, 3) := by kernel_rfl
theorem bp_85_0 : bplace Go.Proofs.Tryz.prog 85 0 = some (0, 1) := by kernel_rfl
theorem fp_85_1 : fieldPlaceA Go.Proofs.Tryz.prog 85 1 = some (1, 9) := by kernel_rfl
theorem bp_85_1 : bplace Go.Proofs.Tryz.prog 85 1 = some (1, 1) := by kernel_rfl
theorem bp_85_2 : bplace Go.Proofs.Tryz.prog 85 2 = some (2, 1) := by kernel_rfl
theorem fp_85_3 : fieldPlaceA Go.Proofs.Tryz.prog 85 3 = some (3, 3) := by kernel_rfl
theorem bp_85_3 : bplace Go.Proofs.Tryz.prog 85 3 = some (3, 1) := by kernel_rfl
theorem fp_85_4 : fieldPlaceA Go.Proofs.Tryz.prog 85 4 = some (4, 3) := by kernel_rfl
theorem bp_85_4 : bplace Go.Proofs.Tryz.prog 85 4 = some (4, 1) := by kernel_rfl
theorem sz_89 : sizeA Go.Proofs.Tryz.prog 89 = some 1 := by kernel_rfl
theorem by_89 : bytesA Go.Proofs.Tryz.prog 89 = some 8 := by kernel_rfl
theorem ag_89 : aggA Go.Proofs.Tryz.prog 89 = some false := by kernel_rfl
theorem ze_89 : zeroA Go.Proofs.Tryz.prog 89 = some AVal.nilf := by kernel_rfl
theorem un_89 : Go.Proofs.Tryz.prog.underlying 89 = some (TypeDesc.func { toList := [9] } { toList := [4] } false) := by kernel_rfl
theorem sz_92 : sizeA Go.Proofs.Tryz.prog 92 = some 1 := by kernel_rfl
theorem by_92 : bytesA Go.Proofs.Tryz.prog 92 = some 8 := by kernel_rfl
theorem ag_92 : aggA Go.Proofs.Tryz.prog 92 = some false := by kernel_rfl
theorem ze_92 : zeroA Go.Proofs.Tryz.prog 92 = some AVal.nilf := by kernel_rfl
theorem un_92 : Go.Proofs.Tryz.prog.underlying 92 = some (TypeDesc.func { toList := [55] } { toList := [4] } false) := by kernel_rfl
theorem sz_93 : sizeA Go.Proofs.Tryz.prog 93 = some 1 := by kernel_rfl
theorem by_93 : bytesA Go.Proofs.Tryz.prog 93 = some 24 := by kernel_rfl
theorem ag_93 : aggA Go.Proofs.Tryz.prog 93 = some false := by kernel_rfl
theorem ze_93 : zeroA Go.Proofs.Tryz.prog 93 = some (AVal.slice [] Go.Ab.Tk.full) := by kernel_rfl
theorem un_93 : Go.Proofs.Tryz.prog.underlying 93 = some (TypeDesc.slice 49) := by kernel_rfl
theorem el_93 : elemA Go.Proofs.Tryz.prog 93 = some 49 := by kernel_rfl
theorem sz_94 : sizeA Go.Proofs.Tryz.prog 94 = some 1 := by kernel_rfl
theorem by_94 : bytesA Go.Proofs.Tryz.prog 94 = some 24 := by kernel_rfl
theorem ag_94 : aggA Go.Proofs.Tryz.prog 94 = some false := by kernel_rfl
theorem ze_94 : zeroA Go.Proofs.Tryz.prog 94 = some (AVal.slice [] Go.Ab.Tk.full) := by kernel_rfl
theorem un_94 : Go.Proofs.Tryz.prog.underlying 94 = some (TypeDesc.slice 98) := by kernel_rfl
theorem el_94 : elemA Go.Proofs.Tryz.prog 94 = some 98 := by kernel_rfl
theorem sz_96 : sizeA Go.Proofs.Tryz.prog 96 = some 3 := by kernel_rfl
theorem by_96 : bytesA Go.Proofs.Tryz.prog 96 = some 64 := by kernel_rfl
theorem ag_96 : aggA Go.Proofs.Tryz.prog 96 = some true := by kernel_rfl
theorem ze_96 : zeroA Go.Proofs.Tryz.prog 96 = some (AVal.agg [AVal.str [], AVal.slice [] Go.Ab.Tk.full, AVal.slice [] Go.Ab.Tk.full]) := by kernel_rfl
theorem fp_96_0 : fieldPlaceA Go.Proofs.Tryz.prog 96 0 = some (0, 9) := by kernel_rfl
theorem fp_96_1 : fieldPlaceA Go.Proofs.Tryz.prog 96 1 = some (1, 93) := by kernel_rfl
theorem fp_96_2 : fieldPlaceA Go.Proofs.Tryz.prog 96 2 = some (2, 94) := by kernel_rfl
theorem sz_98 : sizeA Go.Proofs.Tryz.prog 98 = some 6 := by kernel_rfl
theorem by_98 : bytesA Go.Proofs.Tryz.prog 98 = some 96 := by kernel_rfl
theorem ag_98 : aggA Go.Proofs.Tryz.prog 98 = some true := by kernel_rfl
theorem ze_98 : zeroA Go.Proofs.Tryz.prog 98 = some (AVal.agg [AVal.int IntKind.i64 0, AVal.str [], AVal.int IntKind.i64 0, AVal.slice [] Go.Ab.Tk.full, AVal.slice [] Go.Ab.Tk.full, AVal.str []]) := by kernel_rfl
theorem fp_98_0 : fieldPlaceA Go.Proofs.Tryz.prog 98 0 = some (0, 36) := by kernel_rfl
theorem fp_98_1 : fieldPlaceA Go.Proofs.Tryz.prog 98 1 = some (5, 9) := by kernel_rfl
theorem sz_113 : sizeA Go.Proofs.Tryz.prog 113 = some 1 := by kernel_rfl
theorem by_113 : bytesA Go.Proofs.Tryz.prog 113 = some 8 := by kernel_rfl
theorem ag_113 : aggA Go.Proofs.Tryz.prog 113 = some false := by kernel_rfl
theorem ze_113 : zeroA Go.Proofs.Tryz.prog 113 = some AVal.nilf := by kernel_rfl
theorem un_113 : Go.Proofs.Tryz.prog.underlying 113 = some (TypeDesc.func { toList := [5] } { toList := [4] } false) := by kernel_rfl
theorem sz_121 : sizeA Go.Proofs.Tryz.prog 121 = some 1 := by kernel_rfl
theorem by_121 : bytesA Go.Proofs.Tryz.prog 121 = some 16 := by kernel_rfl
theorem ag_121 : aggA Go.Proofs.Tryz.prog 121 = some false := by kernel_rfl
theorem ze_121 : zeroA Go.Proofs.Tryz.prog 121 = some AVal.nili := by kernel_rfl
theorem un_121 : Go.Proofs.Tryz.prog.underlying 121 = some (TypeDesc.interface { toList := [("Error", 70)] }) := by kernel_rfl
theorem sz_128 : sizeA Go.Proofs.Tryz.prog 128 = some 1 := by kernel_rfl
theorem by_128 : bytesA Go.Proofs.Tryz.prog 128 = some 8 := by kernel_rfl
theorem ag_128 : aggA Go.Proofs.Tryz.prog 128 = some false := by kernel_rfl
theorem ze_128 : zeroA Go.Proofs.Tryz.prog 128 = some AVal.nilf := by kernel_rfl
theorem un_128 : Go.Proofs.Tryz.prog.underlying 128 = some (TypeDesc.func { toList := [52] } { toList := [4] } false) := by kernel_rfl
theorem sz_133 : sizeA Go.Proofs.Tryz.prog 133 = some 1 := by kernel_rfl
theorem by_133 : bytesA Go.Proofs.Tryz.prog 133 = some 8 := by kernel_rfl
theorem ag_133 : aggA Go.Proofs.Tryz.prog 133 = some false := by kernel_rfl
theorem ze_133 : zeroA Go.Proofs.Tryz.prog 133 = some AVal.nilf := by kernel_rfl
theorem un_133 : Go.Proofs.Tryz.prog.underlying 133 = some (TypeDesc.func { toList := [49, 49] } { toList := [4] } false) := by kernel_rfl
theorem sz_135 : sizeA Go.Proofs.Tryz.prog 135 = some 1 := by kernel_rfl
theorem by_135 : bytesA Go.Proofs.Tryz.prog 135 = some 8 := by kernel_rfl
theorem ag_135 : aggA Go.Proofs.Tryz.prog 135 = some false := by kernel_rfl
theorem ze_135 : zeroA Go.Proofs.Tryz.prog 135 = some AVal.nilf := by kernel_rfl
theorem un_135 : Go.Proofs.Tryz.prog.underlying 135 = some (TypeDesc.func { toList := [96, 96] } { toList := [4] } false) := by kernel_rfl
theorem sz_143 : sizeA Go.Proofs.Tryz.prog 143 = some 18 := by kernel_rfl
theorem by_143 : bytesA Go.Proofs.Tryz.prog 143 = some 288 := by kernel_rfl
theorem ag_143 : aggA Go.Proofs.Tryz.prog 143 = some true := by kernel_rfl
theorem ze_143 : zeroA Go.Proofs.Tryz.prog 143 = some (AVal.agg [AVal.str [], AVal.str [], AVal.str [], AVal.str [], AVal.str [], AVal.str [], AVal.str [], AVal.str [], AVal.str [], AVal.str [], AVal.str [], AVal.str [], AVal.str [], AVal.str [], AVal.str [], AVal.str [], AVal.str [], AVal.str []]) := by kernel_rfl
theorem un_143 : Go.Proofs.Tryz.prog.underlying 143 = some (TypeDesc.array 18 9) := by kernel_rfl
theorem sz_155 : sizeA Go.Proofs.Tryz.prog 155 = some 1 := by kernel_rfl
theorem by_155 : bytesA Go.Proofs.Tryz.prog 155 = some 8 := by kernel_rfl
theorem ag_155 : aggA Go.Proofs.Tryz.prog 155 = some false := by kernel_rfl
theorem ze_155 : zeroA Go.Proofs.Tryz.prog 155 = some AVal.nilf := by kernel_rfl
theorem un_155 : Go.Proofs.Tryz.prog.underlying 155 = some (TypeDesc.func { toList := [96] } { toList := [4] } false) := by kernel_rfl
theorem sz_161 : sizeA Go.Proofs.Tryz.prog 161 = some 1 := by kernel_rfl
theorem by_161 : bytesA Go.Proofs.Tryz.prog 161 = some 8 := by kernel_rfl
theorem ag_161 : aggA Go.Proofs.Tryz.prog 161 = some false := by kernel_rfl
theorem ze_161 : zeroA Go.Proofs.Tryz.prog 161 = some AVal.nilf := by kernel_rfl
theorem un_161 : Go.Proofs.Tryz.prog.underlying 161 = some (TypeDesc.func { toList := [98, 98] } { toList := [4] } false) := by kernel_rfl
theorem sz_174 : sizeA Go.Proofs.Tryz.prog 174 = some 1 := by kernel_rfl
theorem by_174 : bytesA Go.Proofs.Tryz.prog 174 = some 8 := by kernel_rfl
theorem ag_174 : aggA Go.Proofs.Tryz.prog 174 = some false := by kernel_rfl
theorem ze_174 : zeroA Go.Proofs.Tryz.prog 174 = some AVal.nilf := by kernel_rfl
theorem un_174 : Go.Proofs.Tryz.prog.underlying 174 = some (TypeDesc.func { toList := [36] } { toList := [4] } false) := by kernel_rfl
theorem sz_184 : sizeA Go.Proofs.Tryz.prog 184 = some 1 := by kernel_rfl
theorem by_184 : bytesA Go.Proofs.Tryz.prog 184 = some 8 := by kernel_rfl
theorem ag_184 : aggA Go.Proofs.Tryz.prog 184 = some false := by kernel_rfl
theorem ze_184 : zeroA Go.Proofs.Tryz.prog 184 = some AVal.nilf := by kernel_rfl
theorem un_184 : Go.Proofs.Tryz.prog.underlying 184 = some (TypeDesc.func { toList := [2] } { toList := [4] } false) := by kernel_rfl
theorem sz_186 : sizeA Go.Proofs.Tryz.prog 186 = some 8 := by kernel_rfl
theorem by_186 : bytesA Go.Proofs.Tryz.prog 186 = some 64 := by kernel_rfl
theorem ag_186 : aggA Go.Proofs.Tryz.prog 186 = some true := by kernel_rfl
theorem ze_186 : zeroA Go.Proofs.Tryz.prog 186 = some (AVal.agg [AVal.nilf, AVal.nilf, AVal.nilf, AVal.int IntKind.i64 0, AVal.int IntKind.i64 0, AVal.int IntKind.i64 0, AVal.int IntKind.i64 0, AVal.bool false]) := by kernel_rfl
theorem bo_186 : bok Go.Proofs.Tryz.prog 186 = true := by kernel_rfl
theorem fp_186_0 : fieldPlaceA Go.Proofs.Tryz.prog 186 0 = some (0, 89) := by kernel_rfl
theorem bp_186_0 : bplace Go.Proofs.Tryz.prog 186 0 = some (0, 1) := by kernel_rfl
theorem fp_186_1 : fieldPlaceA Go.Proofs.Tryz.prog 186 1 = some (1, 184) := by kernel_rfl
theorem bp_186_1 : bplace Go.Proofs.Tryz.prog 186 1 = some (1, 1) := by kernel_rfl
theorem fp_186_2 : fieldPlaceA Go.Proofs.Tryz.prog 186 2 = some (2, 89) := by kernel_rfl
theorem bp_186_2 : bplace Go.Proofs.Tryz.prog 186 2 = some (2, 1) := by kernel_rfl
theorem fp_186_3 : fieldPlaceA Go.Proofs.Tryz.prog 186 3 = some (3, 3) := by kernel_rfl
theorem bp_186_3 : bplace Go.Proofs.Tryz.prog 186 3 = some (3, 1) := by kernel_rfl
theorem fp_186_4 : fieldPlaceA Go.Proofs.Tryz.prog 186 4 = some (4, 3) := by kernel_rfl
theorem bp_186_4 : bplace Go.Proofs.Tryz.prog 186 4 = some (4, 1) := by kernel_rfl
theorem fp_186_5 : fieldPlaceA Go.Proofs.Tryz.prog 186 5 = some (5, 3) := by kernel_rfl
theorem bp_186_5 : bplace Go.Proofs.Tryz.prog 186 5 = some (5, 1) := by kernel_rfl
theorem fp_186_6 : fieldPlaceA Go.Proofs.Tryz.prog 186 6 = some (6, 3) := by kernel_rfl
theorem bp_186_6 : bplace Go.Proofs.Tryz.prog 186 6 = some (6, 1) := by kernel_rfl
theorem fp_186_7 : fieldPlaceA Go.Proofs.Tryz.prog 186 7 = some (7, 4) := by kernel_rfl
theorem bp_186_7 : bplace Go.Proofs.Tryz.prog 186 7 = some (7, 1) := by kernel_rfl
end Go.Ab.Tab
