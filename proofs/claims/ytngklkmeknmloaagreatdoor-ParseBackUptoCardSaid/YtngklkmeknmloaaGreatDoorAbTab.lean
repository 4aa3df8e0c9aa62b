/- The tables of the program, looked up. -/
import Derived.Test.YtngklkmeknmloaaGreatDoorAbSim
import Derived.KernelRfl
import Derived.Test.YtngklkmeknmloaaGreatDoorProg
set_option linter.unusedSimpArgs false
set_option linter.unusedVariables false
set_option maxRecDepth 100000
set_option maxHeartbeats 4000000
open Go.Proofs
namespace Go.Ab.Tab
theorem sz_0 : qao Tryz.prog 0 = some 1 := by kernel_rfl
theorem by_0 : qay Tryz.prog 0 = some 0 := by kernel_rfl
theorem ag_0 : aggA Tryz.prog 0 = some false := by kernel_rfl
theorem ze_0 : qar Tryz.prog 0 = some (AVal.tuple []) := by kernel_rfl
theorem sz_1 : qao Tryz.prog 1 = some 1 := by kernel_rfl
theorem by_1 : qay Tryz.prog 1 = some 8 := by kernel_rfl
theorem ag_1 : aggA Tryz.prog 1 = some false := by kernel_rfl
theorem ze_1 : qar Tryz.prog 1 = some AVal.nilf := by kernel_rfl
theorem un_1 : Tryz.prog.underlying 1 = some (TypeDesc.func { toList := [] } { toList := [] } false) := by kernel_rfl
theorem sz_2 : qao Tryz.prog 2 = some 1 := by kernel_rfl
theorem by_2 : qay Tryz.prog 2 = some 8 := by kernel_rfl
theorem ag_2 : aggA Tryz.prog 2 = some false := by kernel_rfl
theorem ze_2 : qar Tryz.prog 2 = some (AVal.int IntKind.i64 0) := by kernel_rfl
theorem un_2 : Tryz.prog.underlying 2 = some (TypeDesc.int IntKind.i64) := by kernel_rfl
theorem sz_3 : qao Tryz.prog 3 = some 1 := by kernel_rfl
theorem by_3 : qay Tryz.prog 3 = some 8 := by kernel_rfl
theorem ag_3 : aggA Tryz.prog 3 = some false := by kernel_rfl
theorem ze_3 : qar Tryz.prog 3 = some (AVal.int IntKind.i64 0) := by kernel_rfl
theorem un_3 : Tryz.prog.underlying 3 = some (TypeDesc.int IntKind.i64) := by kernel_rfl
theorem sz_4 : qao Tryz.prog 4 = some 1 := by kernel_rfl
theorem by_4 : qay Tryz.prog 4 = some 1 := by kernel_rfl
theorem ag_4 : aggA Tryz.prog 4 = some false := by kernel_rfl
theorem ze_4 : qar Tryz.prog 4 = some (AVal.bool false) := by kernel_rfl
theorem un_4 : Tryz.prog.underlying 4 = some (TypeDesc.bool) := by kernel_rfl
theorem sz_5 : qao Tryz.prog 5 = some 1 := by kernel_rfl
theorem by_5 : qay Tryz.prog 5 = some 1 := by kernel_rfl
theorem ag_5 : aggA Tryz.prog 5 = some false := by kernel_rfl
theorem ze_5 : qar Tryz.prog 5 = some (AVal.int IntKind.u8 0) := by kernel_rfl
theorem un_5 : Tryz.prog.underlying 5 = some (TypeDesc.int IntKind.u8) := by kernel_rfl
theorem sz_6 : qao Tryz.prog 6 = some 1 := by kernel_rfl
theorem by_6 : qay Tryz.prog 6 = some 1 := by kernel_rfl
theorem ag_6 : aggA Tryz.prog 6 = some false := by kernel_rfl
theorem ze_6 : qar Tryz.prog 6 = some (AVal.int IntKind.u8 0) := by kernel_rfl
theorem un_6 : Tryz.prog.underlying 6 = some (TypeDesc.int IntKind.u8) := by kernel_rfl
theorem sz_7 : qao Tryz.prog 7 = some 4 := by kernel_rfl
theorem by_7 : qay Tryz.prog 7 = some 24 := by kernel_rfl
theorem ag_7 : aggA Tryz.prog 7 = some true := by kernel_rfl
theorem ze_7 : qar Tryz.prog 7 = some (AVal.agg [AVal.int IntKind.i64 0,AVal.int IntKind.i64 0,AVal.bool false,AVal.int IntKind.u8 0]) := by kernel_rfl
theorem sz_9 : qao Tryz.prog 9 = some 1 := by kernel_rfl
theorem by_9 : qay Tryz.prog 9 = some 16 := by kernel_rfl
theorem ag_9 : aggA Tryz.prog 9 = some false := by kernel_rfl
theorem ze_9 : qar Tryz.prog 9 = some (AVal.str []) := by kernel_rfl
theorem un_9 : Tryz.prog.underlying 9 = some (TypeDesc.string) := by kernel_rfl
theorem sz_11 : qao Tryz.prog 11 = some 1 := by kernel_rfl
theorem by_11 : qay Tryz.prog 11 = some 16 := by kernel_rfl
theorem ag_11 : aggA Tryz.prog 11 = some false := by kernel_rfl
theorem ze_11 : qar Tryz.prog 11 = some (AVal.str []) := by kernel_rfl
theorem un_11 : Tryz.prog.underlying 11 = some (TypeDesc.string) := by kernel_rfl
theorem sz_20 : qao Tryz.prog 20 = some 1 := by kernel_rfl
theorem by_20 : qay Tryz.prog 20 = some 16 := by kernel_rfl
theorem ag_20 : aggA Tryz.prog 20 = some false := by kernel_rfl
theorem ze_20 : qar Tryz.prog 20 = some AVal.nili := by kernel_rfl
theorem un_20 : Tryz.prog.underlying 20 = some (TypeDesc.interface { toList := [] }) := by kernel_rfl
theorem sz_23 : qao Tryz.prog 23 = some 1 := by kernel_rfl
theorem by_23 : qay Tryz.prog 23 = some 24 := by kernel_rfl
theorem ag_23 : aggA Tryz.prog 23 = some false := by kernel_rfl
theorem ze_23 : qar Tryz.prog 23 = some (AVal.slice [] Go.Ab.Tk.full) := by kernel_rfl
theorem un_23 : Tryz.prog.underlying 23 = some (TypeDesc.slice 67) := by kernel_rfl
theorem el_23 : qgq Tryz.prog 23 = some 67 := by kernel_rfl
theorem qnf : qao Tryz.prog 24 = some 1 := by kernel_rfl
theorem qng : qay Tryz.prog 24 = some 24 := by kernel_rfl
theorem qnh : aggA Tryz.prog 24 = some false := by kernel_rfl
theorem qni : qar Tryz.prog 24 = some (AVal.slice [] Go.Ab.Tk.full) := by kernel_rfl
theorem qnj : Tryz.prog.underlying 24 = some (TypeDesc.slice 60) := by kernel_rfl
theorem ql2 : qgq Tryz.prog 24 = some 60 := by kernel_rfl
theorem qj8 : qao Tryz.prog 26 = some 2 := by kernel_rfl
theorem qk9 : qay Tryz.prog 26 = some 48 := by kernel_rfl
theorem qj9 : aggA Tryz.prog 26 = some true := by kernel_rfl
theorem qi2 : qar Tryz.prog 26 = some (AVal.agg [AVal.slice [] Go.Ab.Tk.full,AVal.slice [] Go.Ab.Tk.full]) := by kernel_rfl
theorem bo_26 : bok Tryz.prog 26 = true := by kernel_rfl
theorem qtg : qai Tryz.prog 26 0 = some (0,23) := by kernel_rfl
theorem bp_26_0 : qa8 Tryz.prog 26 0 = some (0,1) := by kernel_rfl
theorem qmf : qai Tryz.prog 26 1 = some (1,24) := by kernel_rfl
theorem bp_26_1 : qa8 Tryz.prog 26 1 = some (1,1) := by kernel_rfl
theorem qka : qao Tryz.prog 27 = some 1 := by kernel_rfl
theorem qkb : qay Tryz.prog 27 = some 8 := by kernel_rfl
theorem qkc : aggA Tryz.prog 27 = some false := by kernel_rfl
theorem qkd : qar Tryz.prog 27 = some (AVal.int IntKind.i64 0) := by kernel_rfl
theorem qke : Tryz.prog.underlying 27 = some (TypeDesc.int IntKind.i64) := by kernel_rfl
theorem qla : qao Tryz.prog 29 = some 3 := by kernel_rfl
theorem qlb : qay Tryz.prog 29 = some 24 := by kernel_rfl
theorem qlc : aggA Tryz.prog 29 = some true := by kernel_rfl
theorem qi3 : qar Tryz.prog 29 = some (AVal.agg [AVal.int IntKind.i64 0,AVal.int IntKind.i64 0,AVal.int IntKind.i64 0]) := by kernel_rfl
theorem qnk : bok Tryz.prog 29 = true := by kernel_rfl
theorem qo6 : qai Tryz.prog 29 0 = some (0,27) := by kernel_rfl
theorem qmg : qa8 Tryz.prog 29 0 = some (0,1) := by kernel_rfl
theorem qmh : qa8 Tryz.prog 29 1 = some (1,1) := by kernel_rfl
theorem qmi : qa8 Tryz.prog 29 2 = some (2,1) := by kernel_rfl
theorem qnl : qao Tryz.prog 33 = some 1 := by kernel_rfl
theorem qnm : qay Tryz.prog 33 = some 8 := by kernel_rfl
theorem qnn : aggA Tryz.prog 33 = some false := by kernel_rfl
theorem qno : qar Tryz.prog 33 = some AVal.nilf := by kernel_rfl
theorem qnp : Tryz.prog.underlying 33 = some (TypeDesc.func { toList := [9] } { toList := [4] } false) := by kernel_rfl
theorem qbs : qao Tryz.prog 34 = some 1 := by kernel_rfl
theorem qbt : qay Tryz.prog 34 = some 24 := by kernel_rfl
theorem qbu : aggA Tryz.prog 34 = some false := by kernel_rfl
theorem qbv : qar Tryz.prog 34 = some (AVal.slice [] Go.Ab.Tk.full) := by kernel_rfl
theorem qbw : Tryz.prog.underlying 34 = some (TypeDesc.slice 9) := by kernel_rfl
theorem qbq : qgq Tryz.prog 34 = some 9 := by kernel_rfl
theorem qf9 : qao Tryz.prog 35 = some 1 := by kernel_rfl
theorem qga : qay Tryz.prog 35 = some 24 := by kernel_rfl
theorem qgb : aggA Tryz.prog 35 = some false := by kernel_rfl
theorem qgc : qar Tryz.prog 35 = some (AVal.slice [] Go.Ab.Tk.full) := by kernel_rfl
theorem qgd : Tryz.prog.underlying 35 = some (TypeDesc.slice 37) := by kernel_rfl
theorem qfz : qgq Tryz.prog 35 = some 37 := by kernel_rfl
theorem qb2 : qao Tryz.prog 37 = some 5 := by kernel_rfl
theorem qb3 : qay Tryz.prog 37 = some 80 := by kernel_rfl
theorem qb4 : aggA Tryz.prog 37 = some true := by kernel_rfl
theorem qbx : qar Tryz.prog 37 = some (AVal.agg [AVal.int IntKind.i64 0,AVal.str [],AVal.int IntKind.i64 0,AVal.slice [] Go.Ab.Tk.full,AVal.slice [] Go.Ab.Tk.full]) := by kernel_rfl
theorem qld : bok Tryz.prog 37 = true := by kernel_rfl
theorem qmj : qai Tryz.prog 37 0 = some (0,3) := by kernel_rfl
theorem qjq : qa8 Tryz.prog 37 0 = some (0,1) := by kernel_rfl
theorem qmk : qai Tryz.prog 37 1 = some (1,9) := by kernel_rfl
theorem qjr : qa8 Tryz.prog 37 1 = some (1,1) := by kernel_rfl
theorem qth : qai Tryz.prog 37 2 = some (2,2) := by kernel_rfl
theorem qjs : qa8 Tryz.prog 37 2 = some (2,1) := by kernel_rfl
theorem qjt : qai Tryz.prog 37 3 = some (3,34) := by kernel_rfl
theorem qju : qa8 Tryz.prog 37 3 = some (3,1) := by kernel_rfl
theorem qhr : qai Tryz.prog 37 4 = some (4,35) := by kernel_rfl
theorem qjv : qa8 Tryz.prog 37 4 = some (4,1) := by kernel_rfl
theorem sz_40 : qao Tryz.prog 40 = some 1 := by kernel_rfl
theorem by_40 : qay Tryz.prog 40 = some 8 := by kernel_rfl
theorem ag_40 : aggA Tryz.prog 40 = some false := by kernel_rfl
theorem ze_40 : qar Tryz.prog 40 = some AVal.nilf := by kernel_rfl
theorem un_40 : Tryz.prog.underlying 40 = some (TypeDesc.func { toList := [37,37] } { toList := [4] } false) := by kernel_rfl
theorem qnq : qao Tryz.prog 58 = some 1 := by kernel_rfl
theorem qnr : qay Tryz.prog 58 = some 24 := by kernel_rfl
theorem qns : aggA Tryz.prog 58 = some false := by kernel_rfl
theorem qnt : qar Tryz.prog 58 = some (AVal.slice [] Go.Ab.Tk.full) := by kernel_rfl
theorem qnu : Tryz.prog.underlying 58 = some (TypeDesc.slice 65) := by kernel_rfl
theorem ql3 : qgq Tryz.prog 58 = some 65 := by kernel_rfl
theorem qgs : qao Tryz.prog 60 = some 5 := by kernel_rfl
theorem qhw : qay Tryz.prog 60 = some 112 := by kernel_rfl
theorem qhe : aggA Tryz.prog 60 = some true := by kernel_rfl
theorem qgt : qar Tryz.prog 60 = some (AVal.agg [AVal.str [],AVal.slice [] Go.Ab.Tk.full,AVal.slice [] Go.Ab.Tk.full,AVal.slice [] Go.Ab.Tk.full,AVal.slice [] Go.Ab.Tk.full]) := by kernel_rfl
theorem bo_60 : bok Tryz.prog 60 = true := by kernel_rfl
theorem qxx : qai Tryz.prog 60 0 = some (0,9) := by kernel_rfl
theorem bp_60_0 : qa8 Tryz.prog 60 0 = some (0,1) := by kernel_rfl
theorem qti : qai Tryz.prog 60 1 = some (1,34) := by kernel_rfl
theorem bp_60_1 : qa8 Tryz.prog 60 1 = some (1,1) := by kernel_rfl
theorem qtj : qai Tryz.prog 60 2 = some (2,34) := by kernel_rfl
theorem bp_60_2 : qa8 Tryz.prog 60 2 = some (2,1) := by kernel_rfl
theorem qtk : qai Tryz.prog 60 3 = some (3,34) := by kernel_rfl
theorem bp_60_3 : qa8 Tryz.prog 60 3 = some (3,1) := by kernel_rfl
theorem qml : qai Tryz.prog 60 4 = some (4,58) := by kernel_rfl
theorem bp_60_4 : qa8 Tryz.prog 60 4 = some (4,1) := by kernel_rfl
theorem qii : qao Tryz.prog 62 = some 6 := by kernel_rfl
theorem qkf : qay Tryz.prog 62 = some 104 := by kernel_rfl
theorem qi4 : aggA Tryz.prog 62 = some true := by kernel_rfl
theorem qkg : qar Tryz.prog 62 = some (AVal.agg [AVal.slice [] Go.Ab.Tk.full,AVal.int IntKind.i64 0,AVal.str [],AVal.int IntKind.i64 0,AVal.slice [] Go.Ab.Tk.full,AVal.slice [] Go.Ab.Tk.full]) := by kernel_rfl
theorem qo7 : qai Tryz.prog 62 0 = some (0,34) := by kernel_rfl
theorem qmm : qai Tryz.prog 62 1 = some (1,37) := by kernel_rfl
theorem qqu : qao Tryz.prog 63 = some 1 := by kernel_rfl
theorem qqv : qay Tryz.prog 63 = some 24 := by kernel_rfl
theorem qqw : aggA Tryz.prog 63 = some false := by kernel_rfl
theorem qqx : qar Tryz.prog 63 = some (AVal.slice [] Go.Ab.Tk.full) := by kernel_rfl
theorem qqy : Tryz.prog.underlying 63 = some (TypeDesc.slice 71) := by kernel_rfl
theorem qnv : qgq Tryz.prog 63 = some 71 := by kernel_rfl
theorem qge : qao Tryz.prog 65 = some 7 := by kernel_rfl
theorem qhx : qay Tryz.prog 65 = some 128 := by kernel_rfl
theorem qgu : aggA Tryz.prog 65 = some true := by kernel_rfl
theorem qgv : qar Tryz.prog 65 = some (AVal.agg [AVal.slice [] Go.Ab.Tk.full,AVal.int IntKind.i64 0,AVal.str [],AVal.int IntKind.i64 0,AVal.slice [] Go.Ab.Tk.full,AVal.slice [] Go.Ab.Tk.full,AVal.slice [] Go.Ab.Tk.full]) := by kernel_rfl
theorem bo_65 : bok Tryz.prog 65 = true := by kernel_rfl
theorem qtl : qai Tryz.prog 65 0 = some (0,62) := by kernel_rfl
theorem bp_65_0 : qa8 Tryz.prog 65 0 = some (0,6) := by kernel_rfl
theorem qo8 : qai Tryz.prog 65 1 = some (6,63) := by kernel_rfl
theorem bp_65_1 : qa8 Tryz.prog 65 1 = some (6,1) := by kernel_rfl
theorem qqz : qao Tryz.prog 67 = some 2 := by kernel_rfl
theorem qtm : qay Tryz.prog 67 = some 40 := by kernel_rfl
theorem qtn : aggA Tryz.prog 67 = some true := by kernel_rfl
theorem qnw : qar Tryz.prog 67 = some (AVal.agg [AVal.str [],AVal.slice [] Go.Ab.Tk.full]) := by kernel_rfl
theorem bo_67 : bok Tryz.prog 67 = true := by kernel_rfl
theorem qxy : qai Tryz.prog 67 0 = some (0,9) := by kernel_rfl
theorem bp_67_0 : qa8 Tryz.prog 67 0 = some (0,1) := by kernel_rfl
theorem qto : qai Tryz.prog 67 1 = some (1,34) := by kernel_rfl
theorem bp_67_1 : qa8 Tryz.prog 67 1 = some (1,1) := by kernel_rfl
theorem qtp : qao Tryz.prog 68 = some 1 := by kernel_rfl
theorem qtq : qay Tryz.prog 68 = some 24 := by kernel_rfl
theorem qtr : aggA Tryz.prog 68 = some false := by kernel_rfl
theorem qts : qar Tryz.prog 68 = some (AVal.slice [] Go.Ab.Tk.full) := by kernel_rfl
theorem qtt : Tryz.prog.underlying 68 = some (TypeDesc.slice 62) := by kernel_rfl
theorem qq0 : qgq Tryz.prog 68 = some 62 := by kernel_rfl
theorem sz_69 : qao Tryz.prog 69 = some 1 := by kernel_rfl
theorem by_69 : qay Tryz.prog 69 = some 24 := by kernel_rfl
theorem ag_69 : aggA Tryz.prog 69 = some false := by kernel_rfl
theorem ze_69 : qar Tryz.prog 69 = some (AVal.slice [] Go.Ab.Tk.full) := by kernel_rfl
theorem un_69 : Tryz.prog.underlying 69 = some (TypeDesc.slice 142) := by kernel_rfl
theorem qtu : qgq Tryz.prog 69 = some 142 := by kernel_rfl
theorem qi5 : qao Tryz.prog 71 = some 3 := by kernel_rfl
theorem qkh : qay Tryz.prog 71 = some 64 := by kernel_rfl
theorem qki : aggA Tryz.prog 71 = some true := by kernel_rfl
theorem qij : qar Tryz.prog 71 = some (AVal.agg [AVal.str [],AVal.slice [] Go.Ab.Tk.full,AVal.slice [] Go.Ab.Tk.full]) := by kernel_rfl
theorem bo_71 : bok Tryz.prog 71 = true := by kernel_rfl
theorem qxz : qai Tryz.prog 71 0 = some (0,9) := by kernel_rfl
theorem bp_71_0 : qa8 Tryz.prog 71 0 = some (0,1) := by kernel_rfl
theorem qo9 : qai Tryz.prog 71 1 = some (1,68) := by kernel_rfl
theorem bp_71_1 : qa8 Tryz.prog 71 1 = some (1,1) := by kernel_rfl
theorem qpa : qai Tryz.prog 71 2 = some (2,69) := by kernel_rfl
theorem bp_71_2 : qa8 Tryz.prog 71 2 = some (2,1) := by kernel_rfl
theorem sz_73 : qao Tryz.prog 73 = some 1 := by kernel_rfl
theorem by_73 : qay Tryz.prog 73 = some 8 := by kernel_rfl
theorem ag_73 : aggA Tryz.prog 73 = some false := by kernel_rfl
theorem ze_73 : qar Tryz.prog 73 = some AVal.nilf := by kernel_rfl
theorem un_73 : Tryz.prog.underlying 73 = some (TypeDesc.func { toList := [75] } { toList := [26] } false) := by kernel_rfl
theorem qc6 : qao Tryz.prog 75 = some 1 := by kernel_rfl
theorem qc7 : qay Tryz.prog 75 = some 8 := by kernel_rfl
theorem qc8 : aggA Tryz.prog 75 = some false := by kernel_rfl
theorem qc9 : qar Tryz.prog 75 = some AVal.nilp := by kernel_rfl
theorem qda : Tryz.prog.underlying 75 = some (TypeDesc.pointer 124) := by kernel_rfl
theorem sz_77 : qao Tryz.prog 77 = some 1 := by kernel_rfl
theorem by_77 : qay Tryz.prog 77 = some 24 := by kernel_rfl
theorem ag_77 : aggA Tryz.prog 77 = some false := by kernel_rfl
theorem ze_77 : qar Tryz.prog 77 = some (AVal.slice [] Go.Ab.Tk.full) := by kernel_rfl
theorem un_77 : Tryz.prog.underlying 77 = some (TypeDesc.slice 84) := by kernel_rfl
theorem el_77 : qgq Tryz.prog 77 = some 84 := by kernel_rfl
theorem qhy : qao Tryz.prog 84 = some 5 := by kernel_rfl
theorem qhz : qay Tryz.prog 84 = some 48 := by kernel_rfl
theorem qik : aggA Tryz.prog 84 = some true := by kernel_rfl
theorem qgw : qar Tryz.prog 84 = some (AVal.agg [AVal.int IntKind.i64 0,AVal.str [],AVal.int IntKind.i64 0,AVal.int IntKind.i64 0,AVal.int IntKind.i64 0]) := by kernel_rfl
theorem qtv : bok Tryz.prog 84 = true := by kernel_rfl
theorem qkv : qai Tryz.prog 84 0 = some (0,3) := by kernel_rfl
theorem qtw : qa8 Tryz.prog 84 0 = some (0,1) := by kernel_rfl
theorem qtx : qai Tryz.prog 84 1 = some (1,9) := by kernel_rfl
theorem qty : qa8 Tryz.prog 84 1 = some (1,1) := by kernel_rfl
theorem fp_84_2 : qai Tryz.prog 84 2 = some (2,2) := by kernel_rfl
theorem qtz : qa8 Tryz.prog 84 2 = some (2,1) := by kernel_rfl
theorem fp_84_3 : qai Tryz.prog 84 3 = some (3,3) := by kernel_rfl
theorem qt0 : qa8 Tryz.prog 84 3 = some (3,1) := by kernel_rfl
theorem fp_84_4 : qai Tryz.prog 84 4 = some (4,3) := by kernel_rfl
theorem qt1 : qa8 Tryz.prog 84 4 = some (4,1) := by kernel_rfl
theorem sz_91 : qao Tryz.prog 91 = some 1 := by kernel_rfl
theorem by_91 : qay Tryz.prog 91 = some 8 := by kernel_rfl
theorem ag_91 : aggA Tryz.prog 91 = some false := by kernel_rfl
theorem ze_91 : qar Tryz.prog 91 = some AVal.nilf := by kernel_rfl
theorem un_91 : Tryz.prog.underlying 91 = some (TypeDesc.func { toList := [] } { toList := [37] } false) := by kernel_rfl
theorem sz_93 : qao Tryz.prog 93 = some 1 := by kernel_rfl
theorem by_93 : qay Tryz.prog 93 = some 8 := by kernel_rfl
theorem ag_93 : aggA Tryz.prog 93 = some false := by kernel_rfl
theorem ze_93 : qar Tryz.prog 93 = some AVal.nilf := by kernel_rfl
theorem un_93 : Tryz.prog.underlying 93 = some (TypeDesc.func { toList := [75] } { toList := [37] } false) := by kernel_rfl
theorem qi6 : qao Tryz.prog 94 = some 1 := by kernel_rfl
theorem qi7 : qay Tryz.prog 94 = some 8 := by kernel_rfl
theorem qi8 : aggA Tryz.prog 94 = some false := by kernel_rfl
theorem qi9 : qar Tryz.prog 94 = some AVal.nilp := by kernel_rfl
theorem qja : Tryz.prog.underlying 94 = some (TypeDesc.pointer 96) := by kernel_rfl
theorem sz_96 : qao Tryz.prog 96 = some 1 := by kernel_rfl
theorem by_96 : qay Tryz.prog 96 = some 24 := by kernel_rfl
theorem ag_96 : aggA Tryz.prog 96 = some true := by kernel_rfl
theorem qt2 : qar Tryz.prog 96 = some (AVal.agg [AVal.slice [] Go.Ab.Tk.full]) := by kernel_rfl
theorem bo_96 : bok Tryz.prog 96 = true := by kernel_rfl
theorem fp_96_0 : qai Tryz.prog 96 0 = some (0,34) := by kernel_rfl
theorem bp_96_0 : qa8 Tryz.prog 96 0 = some (0,1) := by kernel_rfl
theorem sz_97 : qao Tryz.prog 97 = some 1 := by kernel_rfl
theorem by_97 : qay Tryz.prog 97 = some 8 := by kernel_rfl
theorem ag_97 : aggA Tryz.prog 97 = some false := by kernel_rfl
theorem ze_97 : qar Tryz.prog 97 = some AVal.nilf := by kernel_rfl
theorem un_97 : Tryz.prog.underlying 97 = some (TypeDesc.func { toList := [37] } { toList := [] } false) := by kernel_rfl
theorem sz_98 : qao Tryz.prog 98 = some 1 := by kernel_rfl
theorem by_98 : qay Tryz.prog 98 = some 8 := by kernel_rfl
theorem ag_98 : aggA Tryz.prog 98 = some false := by kernel_rfl
theorem ze_98 : qar Tryz.prog 98 = some AVal.nilf := by kernel_rfl
theorem un_98 : Tryz.prog.underlying 98 = some (TypeDesc.func { toList := [] } { toList := [9] } false) := by kernel_rfl
theorem sz_121 : qao Tryz.prog 121 = some 1 := by kernel_rfl
theorem by_121 : qay Tryz.prog 121 = some 8 := by kernel_rfl
theorem ag_121 : aggA Tryz.prog 121 = some false := by kernel_rfl
theorem ze_121 : qar Tryz.prog 121 = some AVal.nilf := by kernel_rfl
theorem un_121 : Tryz.prog.underlying 121 = some (TypeDesc.func { toList := [37] } { toList := [4] } false) := by kernel_rfl
theorem qse : qao Tryz.prog 124 = some 2 := by kernel_rfl
theorem qsf : qay Tryz.prog 124 = some 32 := by kernel_rfl
theorem qsg : aggA Tryz.prog 124 = some true := by kernel_rfl
theorem qm4 : qar Tryz.prog 124 = some (AVal.agg [AVal.slice [] Go.Ab.Tk.full,AVal.int IntKind.i64 0]) := by kernel_rfl
theorem qwp : bok Tryz.prog 124 = true := by kernel_rfl
theorem q1b : qai Tryz.prog 124 0 = some (0,77) := by kernel_rfl
theorem q1c : qa8 Tryz.prog 124 0 = some (0,1) := by kernel_rfl
theorem fp_124_1 : qai Tryz.prog 124 1 = some (1,3) := by kernel_rfl
theorem q1d : qa8 Tryz.prog 124 1 = some (1,1) := by kernel_rfl
theorem qfs : qao Tryz.prog 126 = some 1 := by kernel_rfl
theorem qft : qay Tryz.prog 126 = some 1 := by kernel_rfl
theorem qfu : aggA Tryz.prog 126 = some true := by kernel_rfl
theorem qe2 : qar Tryz.prog 126 = some (AVal.agg [AVal.bool false]) := by kernel_rfl
theorem bo_126 : bok Tryz.prog 126 = true := by kernel_rfl
theorem qu5 : qai Tryz.prog 126 0 = some (0,4) := by kernel_rfl
theorem bp_126_0 : qa8 Tryz.prog 126 0 = some (0,1) := by kernel_rfl
theorem qpb : qao Tryz.prog 142 = some 6 := by kernel_rfl
theorem qpc : qay Tryz.prog 142 = some 96 := by kernel_rfl
theorem qsh : aggA Tryz.prog 142 = some true := by kernel_rfl
theorem qlm : qar Tryz.prog 142 = some (AVal.agg [AVal.int IntKind.i64 0,AVal.str [],AVal.int IntKind.i64 0,AVal.slice [] Go.Ab.Tk.full,AVal.slice [] Go.Ab.Tk.full,AVal.str []]) := by kernel_rfl
theorem bo_142 : bok Tryz.prog 142 = true := by kernel_rfl
theorem qq1 : qai Tryz.prog 142 0 = some (0,37) := by kernel_rfl
theorem bp_142_0 : qa8 Tryz.prog 142 0 = some (0,5) := by kernel_rfl
theorem qu6 : qai Tryz.prog 142 1 = some (5,9) := by kernel_rfl
theorem bp_142_1 : qa8 Tryz.prog 142 1 = some (5,1) := by kernel_rfl
theorem sz_168 : qao Tryz.prog 168 = some 1 := by kernel_rfl
theorem by_168 : qay Tryz.prog 168 = some 8 := by kernel_rfl
theorem ag_168 : aggA Tryz.prog 168 = some false := by kernel_rfl
theorem ze_168 : qar Tryz.prog 168 = some AVal.nilf := by kernel_rfl
theorem un_168 : Tryz.prog.underlying 168 = some (TypeDesc.func { toList := [65] } { toList := [4] } false) := by kernel_rfl
theorem sz_171 : qao Tryz.prog 171 = some 1 := by kernel_rfl
theorem by_171 : qay Tryz.prog 171 = some 8 := by kernel_rfl
theorem ag_171 : aggA Tryz.prog 171 = some false := by kernel_rfl
theorem ze_171 : qar Tryz.prog 171 = some AVal.nilp := by kernel_rfl
theorem un_171 : Tryz.prog.underlying 171 = some (TypeDesc.pointer 173) := by kernel_rfl
theorem qwq : qao Tryz.prog 173 = some 4 := by kernel_rfl
theorem qwr : qay Tryz.prog 173 = some 40 := by kernel_rfl
theorem qws : aggA Tryz.prog 173 = some true := by kernel_rfl
theorem qpd : qar Tryz.prog 173 = some (AVal.agg [AVal.str [],AVal.int IntKind.i64 0,AVal.int IntKind.i64 0,AVal.int IntKind.i64 0]) := by kernel_rfl
theorem bo_173 : bok Tryz.prog 173 = true := by kernel_rfl
theorem q1e : qai Tryz.prog 173 0 = some (0,9) := by kernel_rfl
theorem bp_173_0 : qa8 Tryz.prog 173 0 = some (0,1) := by kernel_rfl
theorem qu7 : qai Tryz.prog 173 1 = some (1,3) := by kernel_rfl
theorem bp_173_1 : qa8 Tryz.prog 173 1 = some (1,1) := by kernel_rfl
theorem qu8 : qai Tryz.prog 173 2 = some (2,3) := by kernel_rfl
theorem bp_173_2 : qa8 Tryz.prog 173 2 = some (2,1) := by kernel_rfl
theorem qu9 : qai Tryz.prog 173 3 = some (3,3) := by kernel_rfl
theorem bp_173_3 : qa8 Tryz.prog 173 3 = some (3,1) := by kernel_rfl
theorem sz_183 : qao Tryz.prog 183 = some 1 := by kernel_rfl
theorem by_183 : qay Tryz.prog 183 = some 8 := by kernel_rfl
theorem ag_183 : aggA Tryz.prog 183 = some false := by kernel_rfl
theorem ze_183 : qar Tryz.prog 183 = some AVal.nilf := by kernel_rfl
theorem un_183 : Tryz.prog.underlying 183 = some (TypeDesc.func { toList := [60] } { toList := [4] } false) := by kernel_rfl
theorem qpe : qao Tryz.prog 184 = some 1 := by kernel_rfl
theorem qpf : qay Tryz.prog 184 = some 8 := by kernel_rfl
theorem qpg : aggA Tryz.prog 184 = some false := by kernel_rfl
theorem qph : qar Tryz.prog 184 = some AVal.nilf := by kernel_rfl
theorem qpi : Tryz.prog.underlying 184 = some (TypeDesc.func { toList := [5] } { toList := [4] } false) := by kernel_rfl
theorem sz_195 : qao Tryz.prog 195 = some 1 := by kernel_rfl
theorem by_195 : qay Tryz.prog 195 = some 16 := by kernel_rfl
theorem ag_195 : aggA Tryz.prog 195 = some false := by kernel_rfl
theorem ze_195 : qar Tryz.prog 195 = some AVal.nili := by kernel_rfl
theorem un_195 : Tryz.prog.underlying 195 = some (TypeDesc.interface { toList := [("Error",98)] }) := by kernel_rfl
theorem sz_213 : qao Tryz.prog 213 = some 1 := by kernel_rfl
theorem by_213 : qay Tryz.prog 213 = some 8 := by kernel_rfl
theorem ag_213 : aggA Tryz.prog 213 = some false := by kernel_rfl
theorem ze_213 : qar Tryz.prog 213 = some AVal.nilf := by kernel_rfl
theorem un_213 : Tryz.prog.underlying 213 = some (TypeDesc.func { toList := [71] } { toList := [4] } false) := by kernel_rfl
theorem sz_237 : qao Tryz.prog 237 = some 18 := by kernel_rfl
theorem by_237 : qay Tryz.prog 237 = some 288 := by kernel_rfl
theorem ag_237 : aggA Tryz.prog 237 = some true := by kernel_rfl
theorem ze_237 : qar Tryz.prog 237 = some (AVal.agg [AVal.str [],AVal.str [],AVal.str [],AVal.str [],AVal.str [],AVal.str [],AVal.str [],AVal.str [],AVal.str [],AVal.str [],AVal.str [],AVal.str [],AVal.str [],AVal.str [],AVal.str [],AVal.str [],AVal.str [],AVal.str []]) := by kernel_rfl
theorem un_237 : Tryz.prog.underlying 237 = some (TypeDesc.array 18 9) := by kernel_rfl
theorem sz_272 : qao Tryz.prog 272 = some 1 := by kernel_rfl
theorem by_272 : qay Tryz.prog 272 = some 8 := by kernel_rfl
theorem ag_272 : aggA Tryz.prog 272 = some false := by kernel_rfl
theorem ze_272 : qar Tryz.prog 272 = some AVal.nilf := by kernel_rfl
theorem un_272 : Tryz.prog.underlying 272 = some (TypeDesc.func { toList := [2] } { toList := [4] } false) := by kernel_rfl
theorem sz_274 : qao Tryz.prog 274 = some 8 := by kernel_rfl
theorem by_274 : qay Tryz.prog 274 = some 64 := by kernel_rfl
theorem ag_274 : aggA Tryz.prog 274 = some true := by kernel_rfl
theorem qsi : qar Tryz.prog 274 = some (AVal.agg [AVal.nilf,AVal.nilf,AVal.nilf,AVal.int IntKind.i64 0,AVal.int IntKind.i64 0,AVal.int IntKind.i64 0,AVal.int IntKind.i64 0,AVal.bool false]) := by kernel_rfl
theorem bo_274 : bok Tryz.prog 274 = true := by kernel_rfl
theorem fp_274_0 : qai Tryz.prog 274 0 = some (0,33) := by kernel_rfl
theorem bp_274_0 : qa8 Tryz.prog 274 0 = some (0,1) := by kernel_rfl
theorem fp_274_1 : qai Tryz.prog 274 1 = some (1,272) := by kernel_rfl
theorem bp_274_1 : qa8 Tryz.prog 274 1 = some (1,1) := by kernel_rfl
theorem fp_274_2 : qai Tryz.prog 274 2 = some (2,33) := by kernel_rfl
theorem bp_274_2 : qa8 Tryz.prog 274 2 = some (2,1) := by kernel_rfl
theorem fp_274_3 : qai Tryz.prog 274 3 = some (3,3) := by kernel_rfl
theorem bp_274_3 : qa8 Tryz.prog 274 3 = some (3,1) := by kernel_rfl
theorem fp_274_4 : qai Tryz.prog 274 4 = some (4,3) := by kernel_rfl
theorem bp_274_4 : qa8 Tryz.prog 274 4 = some (4,1) := by kernel_rfl
theorem fp_274_5 : qai Tryz.prog 274 5 = some (5,3) := by kernel_rfl
theorem bp_274_5 : qa8 Tryz.prog 274 5 = some (5,1) := by kernel_rfl
theorem fp_274_6 : qai Tryz.prog 274 6 = some (6,3) := by kernel_rfl
theorem bp_274_6 : qa8 Tryz.prog 274 6 = some (6,1) := by kernel_rfl
theorem fp_274_7 : qai Tryz.prog 274 7 = some (7,4) := by kernel_rfl
theorem bp_274_7 : qa8 Tryz.prog 274 7 = some (7,1) := by kernel_rfl
theorem sz_287 : qao Tryz.prog 287 = some 1 := by kernel_rfl
theorem by_287 : qay Tryz.prog 287 = some 24 := by kernel_rfl
theorem ag_287 : aggA Tryz.prog 287 = some false := by kernel_rfl
theorem ze_287 : qar Tryz.prog 287 = some (AVal.slice [] Go.Ab.Tk.full) := by kernel_rfl
theorem un_287 : Tryz.prog.underlying 287 = some (TypeDesc.slice 290) := by kernel_rfl
theorem el_287 : qgq Tryz.prog 287 = some 290 := by kernel_rfl
theorem qsj : qao Tryz.prog 290 = some 6 := by kernel_rfl
theorem qwt : qay Tryz.prog 290 = some 96 := by kernel_rfl
theorem qwu : aggA Tryz.prog 290 = some true := by kernel_rfl
theorem qpj : qar Tryz.prog 290 = some (AVal.agg [AVal.str [],AVal.int IntKind.i64 0,AVal.str [],AVal.int IntKind.i64 0,AVal.slice [] Go.Ab.Tk.full,AVal.slice [] Go.Ab.Tk.full]) := by kernel_rfl
theorem bo_290 : bok Tryz.prog 290 = true := by kernel_rfl
theorem fp_290_0 : qai Tryz.prog 290 0 = some (0,9) := by kernel_rfl
theorem bp_290_0 : qa8 Tryz.prog 290 0 = some (0,1) := by kernel_rfl
theorem fp_290_1 : qai Tryz.prog 290 1 = some (1,37) := by kernel_rfl
theorem bp_290_1 : qa8 Tryz.prog 290 1 = some (1,5) := by kernel_rfl
theorem sz_291 : qao Tryz.prog 291 = some 1 := by kernel_rfl
theorem by_291 : qay Tryz.prog 291 = some 8 := by kernel_rfl
theorem ag_291 : aggA Tryz.prog 291 = some false := by kernel_rfl
theorem ze_291 : qar Tryz.prog 291 = some AVal.nilf := by kernel_rfl
theorem un_291 : Tryz.prog.underlying 291 = some (TypeDesc.func { toList := [] } { toList := [290] } false) := by kernel_rfl
end Go.Ab.Tab
