/- The tables of the program, looked up. -/
import Derived.Test.YtngklkmeknmloaaGreatDoorProg
import Derived.Test.YtngklkmeknmloaaGreatDoorAbSim
import Derived.KernelRfl
set_option linter.unusedSimpArgs false
set_option linter.unusedVariables false
set_option maxRecDepth 100000
set_option maxHeartbeats 4000000
open Go.Proofs
namespace Go.Ab.Tab
theorem sz_0:qaq Tryz.prog 0=some 1:=by kernel_rfl
theorem by_0:qa2 Tryz.prog 0=some 0:=by kernel_rfl
theorem ag_0:aggA Tryz.prog 0=some false:=by kernel_rfl
theorem ze_0:qat Tryz.prog 0=some (AVal.tuple []):=by kernel_rfl
theorem sz_1:qaq Tryz.prog 1=some 1:=by kernel_rfl
theorem by_1:qa2 Tryz.prog 1=some 8:=by kernel_rfl
theorem ag_1:aggA Tryz.prog 1=some false:=by kernel_rfl
theorem ze_1:qat Tryz.prog 1=some AVal.nilf:=by kernel_rfl
theorem un_1:Tryz.prog.underlying 1=some (TypeDesc.func { toList:=[] } { toList:=[] } false):=by kernel_rfl
theorem sz_2:qaq Tryz.prog 2=some 1:=by kernel_rfl
theorem by_2:qa2 Tryz.prog 2=some 8:=by kernel_rfl
theorem ag_2:aggA Tryz.prog 2=some false:=by kernel_rfl
theorem ze_2:qat Tryz.prog 2=some (AVal.int IntKind.i64 0):=by kernel_rfl
theorem un_2:Tryz.prog.underlying 2=some (TypeDesc.int IntKind.i64):=by kernel_rfl
theorem sz_3:qaq Tryz.prog 3=some 1:=by kernel_rfl
theorem by_3:qa2 Tryz.prog 3=some 8:=by kernel_rfl
theorem ag_3:aggA Tryz.prog 3=some false:=by kernel_rfl
theorem ze_3:qat Tryz.prog 3=some (AVal.int IntKind.i64 0):=by kernel_rfl
theorem un_3:Tryz.prog.underlying 3=some (TypeDesc.int IntKind.i64):=by kernel_rfl
theorem sz_4:qaq Tryz.prog 4=some 1:=by kernel_rfl
theorem by_4:qa2 Tryz.prog 4=some 1:=by kernel_rfl
theorem ag_4:aggA Tryz.prog 4=some false:=by kernel_rfl
theorem ze_4:qat Tryz.prog 4=some (AVal.bool false):=by kernel_rfl
theorem un_4:Tryz.prog.underlying 4=some (TypeDesc.bool):=by kernel_rfl
theorem sz_5:qaq Tryz.prog 5=some 1:=by kernel_rfl
theorem by_5:qa2 Tryz.prog 5=some 1:=by kernel_rfl
theorem ag_5:aggA Tryz.prog 5=some false:=by kernel_rfl
theorem ze_5:qat Tryz.prog 5=some (AVal.int IntKind.u8 0):=by kernel_rfl
theorem un_5:Tryz.prog.underlying 5=some (TypeDesc.int IntKind.u8):=by kernel_rfl
theorem sz_6:qaq Tryz.prog 6=some 1:=by kernel_rfl
theorem by_6:qa2 Tryz.prog 6=some 1:=by kernel_rfl
theorem ag_6:aggA Tryz.prog 6=some false:=by kernel_rfl
theorem ze_6:qat Tryz.prog 6=some (AVal.int IntKind.u8 0):=by kernel_rfl
theorem un_6:Tryz.prog.underlying 6=some (TypeDesc.int IntKind.u8):=by kernel_rfl
theorem sz_7:qaq Tryz.prog 7=some 4:=by kernel_rfl
theorem by_7:qa2 Tryz.prog 7=some 24:=by kernel_rfl
theorem ag_7:aggA Tryz.prog 7=some true:=by kernel_rfl
theorem ze_7:qat Tryz.prog 7=some (AVal.agg [AVal.int IntKind.i64 0,AVal.int IntKind.i64 0,AVal.bool false,AVal.int IntKind.u8 0]):=by kernel_rfl
theorem sz_9:qaq Tryz.prog 9=some 1:=by kernel_rfl
theorem by_9:qa2 Tryz.prog 9=some 16:=by kernel_rfl
theorem ag_9:aggA Tryz.prog 9=some false:=by kernel_rfl
theorem ze_9:qat Tryz.prog 9=some (AVal.str []):=by kernel_rfl
theorem un_9:Tryz.prog.underlying 9=some (TypeDesc.string):=by kernel_rfl
theorem sz_11:qaq Tryz.prog 11=some 1:=by kernel_rfl
theorem by_11:qa2 Tryz.prog 11=some 16:=by kernel_rfl
theorem ag_11:aggA Tryz.prog 11=some false:=by kernel_rfl
theorem ze_11:qat Tryz.prog 11=some (AVal.str []):=by kernel_rfl
theorem un_11:Tryz.prog.underlying 11=some (TypeDesc.string):=by kernel_rfl
theorem sz_20:qaq Tryz.prog 20=some 1:=by kernel_rfl
theorem by_20:qa2 Tryz.prog 20=some 16:=by kernel_rfl
theorem ag_20:aggA Tryz.prog 20=some false:=by kernel_rfl
theorem ze_20:qat Tryz.prog 20=some AVal.nili:=by kernel_rfl
theorem un_20:Tryz.prog.underlying 20=some (TypeDesc.interface { toList:=[] }):=by kernel_rfl
theorem sz_23:qaq Tryz.prog 23=some 1:=by kernel_rfl
theorem by_23:qa2 Tryz.prog 23=some 24:=by kernel_rfl
theorem ag_23:aggA Tryz.prog 23=some false:=by kernel_rfl
theorem ze_23:qat Tryz.prog 23=some (AVal.slice [] Go.Ab.Tk.full):=by kernel_rfl
theorem un_23:Tryz.prog.underlying 23=some (TypeDesc.slice 67):=by kernel_rfl
theorem el_23:qg8 Tryz.prog 23=some 67:=by kernel_rfl
theorem qoc:qaq Tryz.prog 24=some 1:=by kernel_rfl
theorem qod:qa2 Tryz.prog 24=some 24:=by kernel_rfl
theorem qoe:aggA Tryz.prog 24=some false:=by kernel_rfl
theorem qof:qat Tryz.prog 24=some (AVal.slice [] Go.Ab.Tk.full):=by kernel_rfl
theorem qog:Tryz.prog.underlying 24=some (TypeDesc.slice 60):=by kernel_rfl
theorem qmx:qg8 Tryz.prog 24=some 60:=by kernel_rfl
theorem qlv:qaq Tryz.prog 26=some 2:=by kernel_rfl
theorem qmy:qa2 Tryz.prog 26=some 48:=by kernel_rfl
theorem qlw:aggA Tryz.prog 26=some true:=by kernel_rfl
theorem qkk:qat Tryz.prog 26=some (AVal.agg [AVal.slice [] Go.Ab.Tk.full,AVal.slice [] Go.Ab.Tk.full]):=by kernel_rfl
theorem bo_26:bok Tryz.prog 26=true:=by kernel_rfl
theorem qtv:qal Tryz.prog 26 0=some (0,23):=by kernel_rfl
theorem bp_26_0:qbf Tryz.prog 26 0=some (0,1):=by kernel_rfl
theorem qnc:qal Tryz.prog 26 1=some (1,24):=by kernel_rfl
theorem bp_26_1:qbf Tryz.prog 26 1=some (1,1):=by kernel_rfl
theorem qlx:qaq Tryz.prog 27=some 1:=by kernel_rfl
theorem qly:qa2 Tryz.prog 27=some 8:=by kernel_rfl
theorem qlz:aggA Tryz.prog 27=some false:=by kernel_rfl
theorem ql0:qat Tryz.prog 27=some (AVal.int IntKind.i64 0):=by kernel_rfl
theorem ql1:Tryz.prog.underlying 27=some (TypeDesc.int IntKind.i64):=by kernel_rfl
theorem qkl:qaq Tryz.prog 29=some 3:=by kernel_rfl
theorem qkm:qa2 Tryz.prog 29=some 24:=by kernel_rfl
theorem qkn:aggA Tryz.prog 29=some true:=by kernel_rfl
theorem qi2:qat Tryz.prog 29=some (AVal.agg [AVal.int IntKind.i64 0,AVal.int IntKind.i64 0,AVal.int IntKind.i64 0]):=by kernel_rfl
theorem qmz:bok Tryz.prog 29=true:=by kernel_rfl
theorem qnd:qal Tryz.prog 29 0=some (0,27):=by kernel_rfl
theorem qld:qbf Tryz.prog 29 0=some (0,1):=by kernel_rfl
theorem qle:qbf Tryz.prog 29 1=some (1,1):=by kernel_rfl
theorem qlf:qbf Tryz.prog 29 2=some (2,1):=by kernel_rfl
theorem qoh:qaq Tryz.prog 33=some 1:=by kernel_rfl
theorem qoi:qa2 Tryz.prog 33=some 8:=by kernel_rfl
theorem qoj:aggA Tryz.prog 33=some false:=by kernel_rfl
theorem qok:qat Tryz.prog 33=some AVal.nilf:=by kernel_rfl
theorem qol:Tryz.prog.underlying 33=some (TypeDesc.func { toList:=[9] } { toList:=[4] } false):=by kernel_rfl
theorem qb9:qaq Tryz.prog 34=some 1:=by kernel_rfl
theorem qca:qa2 Tryz.prog 34=some 24:=by kernel_rfl
theorem qcb:aggA Tryz.prog 34=some false:=by kernel_rfl
theorem qcc:qat Tryz.prog 34=some (AVal.slice [] Go.Ab.Tk.full):=by kernel_rfl
theorem qcd:Tryz.prog.underlying 34=some (TypeDesc.slice 9):=by kernel_rfl
theorem qb6:qg8 Tryz.prog 34=some 9:=by kernel_rfl
theorem qgr:qaq Tryz.prog 35=some 1:=by kernel_rfl
theorem qgs:qa2 Tryz.prog 35=some 24:=by kernel_rfl
theorem qgt:aggA Tryz.prog 35=some false:=by kernel_rfl
theorem qgu:qat Tryz.prog 35=some (AVal.slice [] Go.Ab.Tk.full):=by kernel_rfl
theorem qgv:Tryz.prog.underlying 35=some (TypeDesc.slice 37):=by kernel_rfl
theorem qgh:qg8 Tryz.prog 35=some 37:=by kernel_rfl
theorem qce:qaq Tryz.prog 37=some 5:=by kernel_rfl
theorem qck:qa2 Tryz.prog 37=some 80:=by kernel_rfl
theorem qcl:aggA Tryz.prog 37=some true:=by kernel_rfl
theorem qb4:qat Tryz.prog 37=some (AVal.agg [AVal.int IntKind.i64 0,AVal.str [],AVal.int IntKind.i64 0,AVal.slice [] Go.Ab.Tk.full,AVal.slice [] Go.Ab.Tk.full]):=by kernel_rfl
theorem ql2:bok Tryz.prog 37=true:=by kernel_rfl
theorem qne:qal Tryz.prog 37 0=some (0,3):=by kernel_rfl
theorem qj5:qbf Tryz.prog 37 0=some (0,1):=by kernel_rfl
theorem qnf:qal Tryz.prog 37 1=some (1,9):=by kernel_rfl
theorem qj6:qbf Tryz.prog 37 1=some (1,1):=by kernel_rfl
theorem qtw:qal Tryz.prog 37 2=some (2,2):=by kernel_rfl
theorem qj7:qbf Tryz.prog 37 2=some (2,1):=by kernel_rfl
theorem qj8:qal Tryz.prog 37 3=some (3,34):=by kernel_rfl
theorem qj9:qbf Tryz.prog 37 3=some (3,1):=by kernel_rfl
theorem qh6:qal Tryz.prog 37 4=some (4,35):=by kernel_rfl
theorem qka:qbf Tryz.prog 37 4=some (4,1):=by kernel_rfl
theorem sz_40:qaq Tryz.prog 40=some 1:=by kernel_rfl
theorem by_40:qa2 Tryz.prog 40=some 8:=by kernel_rfl
theorem ag_40:aggA Tryz.prog 40=some false:=by kernel_rfl
theorem ze_40:qat Tryz.prog 40=some AVal.nilf:=by kernel_rfl
theorem un_40:Tryz.prog.underlying 40=some (TypeDesc.func { toList:=[37,37] } { toList:=[4] } false):=by kernel_rfl
theorem qq5:qaq Tryz.prog 58=some 1:=by kernel_rfl
theorem qq6:qa2 Tryz.prog 58=some 24:=by kernel_rfl
theorem qq7:aggA Tryz.prog 58=some false:=by kernel_rfl
theorem qq8:qat Tryz.prog 58=some (AVal.slice [] Go.Ab.Tk.full):=by kernel_rfl
theorem qq9:Tryz.prog.underlying 58=some (TypeDesc.slice 65):=by kernel_rfl
theorem qom:qg8 Tryz.prog 58=some 65:=by kernel_rfl
theorem qho:qaq Tryz.prog 60=some 5:=by kernel_rfl
theorem qi3:qa2 Tryz.prog 60=some 112:=by kernel_rfl
theorem qia:aggA Tryz.prog 60=some true:=by kernel_rfl
theorem qhp:qat Tryz.prog 60=some (AVal.agg [AVal.str [],AVal.slice [] Go.Ab.Tk.full,AVal.slice [] Go.Ab.Tk.full,AVal.slice [] Go.Ab.Tk.full,AVal.slice [] Go.Ab.Tk.full]):=by kernel_rfl
theorem bo_60:bok Tryz.prog 60=true:=by kernel_rfl
theorem fp_60_0:qal Tryz.prog 60 0=some (0,9):=by kernel_rfl
theorem bp_60_0:qbf Tryz.prog 60 0=some (0,1):=by kernel_rfl
theorem qyc:qal Tryz.prog 60 1=some (1,34):=by kernel_rfl
theorem bp_60_1:qbf Tryz.prog 60 1=some (1,1):=by kernel_rfl
theorem qyd:qal Tryz.prog 60 2=some (2,34):=by kernel_rfl
theorem bp_60_2:qbf Tryz.prog 60 2=some (2,1):=by kernel_rfl
theorem qye:qal Tryz.prog 60 3=some (3,34):=by kernel_rfl
theorem bp_60_3:qbf Tryz.prog 60 3=some (3,1):=by kernel_rfl
theorem qpl:qal Tryz.prog 60 4=some (4,58):=by kernel_rfl
theorem bp_60_4:qbf Tryz.prog 60 4=some (4,1):=by kernel_rfl
theorem qko:qaq Tryz.prog 62=some 6:=by kernel_rfl
theorem qm0:qa2 Tryz.prog 62=some 104:=by kernel_rfl
theorem ql3:aggA Tryz.prog 62=some true:=by kernel_rfl
theorem qm1:qat Tryz.prog 62=some (AVal.agg [AVal.slice [] Go.Ab.Tk.full,AVal.int IntKind.i64 0,AVal.str [],AVal.int IntKind.i64 0,AVal.slice [] Go.Ab.Tk.full,AVal.slice [] Go.Ab.Tk.full]):=by kernel_rfl
theorem qtx:qal Tryz.prog 62 0=some (0,34):=by kernel_rfl
theorem qpm:qal Tryz.prog 62 1=some (1,37):=by kernel_rfl
theorem qty:qaq Tryz.prog 63=some 1:=by kernel_rfl
theorem qtz:qa2 Tryz.prog 63=some 24:=by kernel_rfl
theorem qt0:aggA Tryz.prog 63=some false:=by kernel_rfl
theorem qt1:qat Tryz.prog 63=some (AVal.slice [] Go.Ab.Tk.full):=by kernel_rfl
theorem qt2:Tryz.prog.underlying 63=some (TypeDesc.slice 71):=by kernel_rfl
theorem qra:qg8 Tryz.prog 63=some 71:=by kernel_rfl
theorem qhq:qaq Tryz.prog 65=some 7:=by kernel_rfl
theorem qjo:qa2 Tryz.prog 65=some 128:=by kernel_rfl
theorem qib:aggA Tryz.prog 65=some true:=by kernel_rfl
theorem qic:qat Tryz.prog 65=some (AVal.agg [AVal.slice [] Go.Ab.Tk.full,AVal.int IntKind.i64 0,AVal.str [],AVal.int IntKind.i64 0,AVal.slice [] Go.Ab.Tk.full,AVal.slice [] Go.Ab.Tk.full,AVal.slice [] Go.Ab.Tk.full]):=by kernel_rfl
theorem bo_65:bok Tryz.prog 65=true:=by kernel_rfl
theorem qyf:qal Tryz.prog 65 0=some (0,62):=by kernel_rfl
theorem bp_65_0:qbf Tryz.prog 65 0=some (0,6):=by kernel_rfl
theorem qt3:qal Tryz.prog 65 1=some (6,63):=by kernel_rfl
theorem bp_65_1:qbf Tryz.prog 65 1=some (6,1):=by kernel_rfl
theorem qrb:qaq Tryz.prog 67=some 2:=by kernel_rfl
theorem qt4:qa2 Tryz.prog 67=some 40:=by kernel_rfl
theorem qt5:aggA Tryz.prog 67=some true:=by kernel_rfl
theorem qon:qat Tryz.prog 67=some (AVal.agg [AVal.str [],AVal.slice [] Go.Ab.Tk.full]):=by kernel_rfl
theorem bo_67:bok Tryz.prog 67=true:=by kernel_rfl
theorem fp_67_0:qal Tryz.prog 67 0=some (0,9):=by kernel_rfl
theorem bp_67_0:qbf Tryz.prog 67 0=some (0,1):=by kernel_rfl
theorem qyg:qal Tryz.prog 67 1=some (1,34):=by kernel_rfl
theorem bp_67_1:qbf Tryz.prog 67 1=some (1,1):=by kernel_rfl
theorem sz_68:qaq Tryz.prog 68=some 1:=by kernel_rfl
theorem by_68:qa2 Tryz.prog 68=some 24:=by kernel_rfl
theorem ag_68:aggA Tryz.prog 68=some false:=by kernel_rfl
theorem ze_68:qat Tryz.prog 68=some (AVal.slice [] Go.Ab.Tk.full):=by kernel_rfl
theorem un_68:Tryz.prog.underlying 68=some (TypeDesc.slice 62):=by kernel_rfl
theorem qt6:qg8 Tryz.prog 68=some 62:=by kernel_rfl
theorem sz_69:qaq Tryz.prog 69=some 1:=by kernel_rfl
theorem by_69:qa2 Tryz.prog 69=some 24:=by kernel_rfl
theorem ag_69:aggA Tryz.prog 69=some false:=by kernel_rfl
theorem ze_69:qat Tryz.prog 69=some (AVal.slice [] Go.Ab.Tk.full):=by kernel_rfl
theorem un_69:Tryz.prog.underlying 69=some (TypeDesc.slice 142):=by kernel_rfl
theorem el_69:qg8 Tryz.prog 69=some 142:=by kernel_rfl
theorem qkp:qaq Tryz.prog 71=some 3:=by kernel_rfl
theorem ql4:qa2 Tryz.prog 71=some 64:=by kernel_rfl
theorem ql5:aggA Tryz.prog 71=some true:=by kernel_rfl
theorem qjp:qat Tryz.prog 71=some (AVal.agg [AVal.str [],AVal.slice [] Go.Ab.Tk.full,AVal.slice [] Go.Ab.Tk.full]):=by kernel_rfl
theorem bo_71:bok Tryz.prog 71=true:=by kernel_rfl
theorem fp_71_0:qal Tryz.prog 71 0=some (0,9):=by kernel_rfl
theorem bp_71_0:qbf Tryz.prog 71 0=some (0,1):=by kernel_rfl
theorem qt7:qal Tryz.prog 71 1=some (1,68):=by kernel_rfl
theorem bp_71_1:qbf Tryz.prog 71 1=some (1,1):=by kernel_rfl
theorem qt8:qal Tryz.prog 71 2=some (2,69):=by kernel_rfl
theorem bp_71_2:qbf Tryz.prog 71 2=some (2,1):=by kernel_rfl
theorem sz_73:qaq Tryz.prog 73=some 1:=by kernel_rfl
theorem by_73:qa2 Tryz.prog 73=some 8:=by kernel_rfl
theorem ag_73:aggA Tryz.prog 73=some false:=by kernel_rfl
theorem ze_73:qat Tryz.prog 73=some AVal.nilf:=by kernel_rfl
theorem un_73:Tryz.prog.underlying 73=some (TypeDesc.func { toList:=[75] } { toList:=[26] } false):=by kernel_rfl
theorem qdl:qaq Tryz.prog 75=some 1:=by kernel_rfl
theorem qdm:qa2 Tryz.prog 75=some 8:=by kernel_rfl
theorem qdn:aggA Tryz.prog 75=some false:=by kernel_rfl
theorem qdo:qat Tryz.prog 75=some AVal.nilp:=by kernel_rfl
theorem qdp:Tryz.prog.underlying 75=some (TypeDesc.pointer 124):=by kernel_rfl
theorem sz_77:qaq Tryz.prog 77=some 1:=by kernel_rfl
theorem by_77:qa2 Tryz.prog 77=some 24:=by kernel_rfl
theorem ag_77:aggA Tryz.prog 77=some false:=by kernel_rfl
theorem ze_77:qat Tryz.prog 77=some (AVal.slice [] Go.Ab.Tk.full):=by kernel_rfl
theorem un_77:Tryz.prog.underlying 77=some (TypeDesc.slice 84):=by kernel_rfl
theorem el_77:qg8 Tryz.prog 77=some 84:=by kernel_rfl
theorem qhr:qaq Tryz.prog 84=some 5:=by kernel_rfl
theorem qhs:qa2 Tryz.prog 84=some 48:=by kernel_rfl
theorem qid:aggA Tryz.prog 84=some true:=by kernel_rfl
theorem qgw:qat Tryz.prog 84=some (AVal.agg [AVal.int IntKind.i64 0,AVal.str [],AVal.int IntKind.i64 0,AVal.int IntKind.i64 0,AVal.int IntKind.i64 0]):=by kernel_rfl
theorem qt9:bok Tryz.prog 84=true:=by kernel_rfl
theorem qlg:qal Tryz.prog 84 0=some (0,3):=by kernel_rfl
theorem qua:qbf Tryz.prog 84 0=some (0,1):=by kernel_rfl
theorem qub:qal Tryz.prog 84 1=some (1,9):=by kernel_rfl
theorem quc:qbf Tryz.prog 84 1=some (1,1):=by kernel_rfl
theorem fp_84_2:qal Tryz.prog 84 2=some (2,2):=by kernel_rfl
theorem qud:qbf Tryz.prog 84 2=some (2,1):=by kernel_rfl
theorem fp_84_3:qal Tryz.prog 84 3=some (3,3):=by kernel_rfl
theorem que:qbf Tryz.prog 84 3=some (3,1):=by kernel_rfl
theorem fp_84_4:qal Tryz.prog 84 4=some (4,3):=by kernel_rfl
theorem quf:qbf Tryz.prog 84 4=some (4,1):=by kernel_rfl
theorem sz_91:qaq Tryz.prog 91=some 1:=by kernel_rfl
theorem by_91:qa2 Tryz.prog 91=some 8:=by kernel_rfl
theorem ag_91:aggA Tryz.prog 91=some false:=by kernel_rfl
theorem ze_91:qat Tryz.prog 91=some AVal.nilf:=by kernel_rfl
theorem un_91:Tryz.prog.underlying 91=some (TypeDesc.func { toList:=[] } { toList:=[37] } false):=by kernel_rfl
theorem sz_93:qaq Tryz.prog 93=some 1:=by kernel_rfl
theorem by_93:qa2 Tryz.prog 93=some 8:=by kernel_rfl
theorem ag_93:aggA Tryz.prog 93=some false:=by kernel_rfl
theorem ze_93:qat Tryz.prog 93=some AVal.nilf:=by kernel_rfl
theorem un_93:Tryz.prog.underlying 93=some (TypeDesc.func { toList:=[75] } { toList:=[37] } false):=by kernel_rfl
theorem qrc:qaq Tryz.prog 94=some 1:=by kernel_rfl
theorem qrd:qa2 Tryz.prog 94=some 8:=by kernel_rfl
theorem qre:aggA Tryz.prog 94=some false:=by kernel_rfl
theorem qrf:qat Tryz.prog 94=some AVal.nilp:=by kernel_rfl
theorem qrg:Tryz.prog.underlying 94=some (TypeDesc.pointer 96):=by kernel_rfl
theorem sz_96:qaq Tryz.prog 96=some 1:=by kernel_rfl
theorem by_96:qa2 Tryz.prog 96=some 24:=by kernel_rfl
theorem ag_96:aggA Tryz.prog 96=some true:=by kernel_rfl
theorem ze_96:qat Tryz.prog 96=some (AVal.agg [AVal.slice [] Go.Ab.Tk.full]):=by kernel_rfl
theorem bo_96:bok Tryz.prog 96=true:=by kernel_rfl
theorem fp_96_0:qal Tryz.prog 96 0=some (0,34):=by kernel_rfl
theorem bp_96_0:qbf Tryz.prog 96 0=some (0,1):=by kernel_rfl
theorem sz_97:qaq Tryz.prog 97=some 1:=by kernel_rfl
theorem by_97:qa2 Tryz.prog 97=some 8:=by kernel_rfl
theorem ag_97:aggA Tryz.prog 97=some false:=by kernel_rfl
theorem ze_97:qat Tryz.prog 97=some AVal.nilf:=by kernel_rfl
theorem un_97:Tryz.prog.underlying 97=some (TypeDesc.func { toList:=[37] } { toList:=[] } false):=by kernel_rfl
theorem sz_98:qaq Tryz.prog 98=some 1:=by kernel_rfl
theorem by_98:qa2 Tryz.prog 98=some 8:=by kernel_rfl
theorem ag_98:aggA Tryz.prog 98=some false:=by kernel_rfl
theorem ze_98:qat Tryz.prog 98=some AVal.nilf:=by kernel_rfl
theorem un_98:Tryz.prog.underlying 98=some (TypeDesc.func { toList:=[] } { toList:=[9] } false):=by kernel_rfl
theorem sz_121:qaq Tryz.prog 121=some 1:=by kernel_rfl
theorem by_121:qa2 Tryz.prog 121=some 8:=by kernel_rfl
theorem ag_121:aggA Tryz.prog 121=some false:=by kernel_rfl
theorem ze_121:qat Tryz.prog 121=some AVal.nilf:=by kernel_rfl
theorem un_121:Tryz.prog.underlying 121=some (TypeDesc.func { toList:=[37] } { toList:=[4] } false):=by kernel_rfl
theorem qsw:qaq Tryz.prog 124=some 2:=by kernel_rfl
theorem qsx:qa2 Tryz.prog 124=some 32:=by kernel_rfl
theorem qsy:aggA Tryz.prog 124=some true:=by kernel_rfl
theorem qnx:qat Tryz.prog 124=some (AVal.agg [AVal.slice [] Go.Ab.Tk.full,AVal.int IntKind.i64 0]):=by kernel_rfl
theorem qw5:bok Tryz.prog 124=true:=by kernel_rfl
theorem q1e:qal Tryz.prog 124 0=some (0,77):=by kernel_rfl
theorem q1f:qbf Tryz.prog 124 0=some (0,1):=by kernel_rfl
theorem fp_124_1:qal Tryz.prog 124 1=some (1,3):=by kernel_rfl
theorem q1g:qbf Tryz.prog 124 1=some (1,1):=by kernel_rfl
theorem qf7:qaq Tryz.prog 126=some 1:=by kernel_rfl
theorem qf8:qa2 Tryz.prog 126=some 1:=by kernel_rfl
theorem qf9:aggA Tryz.prog 126=some true:=by kernel_rfl
theorem qfn:qat Tryz.prog 126=some (AVal.agg [AVal.bool false]):=by kernel_rfl
theorem bo_126:bok Tryz.prog 126=true:=by kernel_rfl
theorem qvi:qal Tryz.prog 126 0=some (0,4):=by kernel_rfl
theorem bp_126_0:qbf Tryz.prog 126 0=some (0,1):=by kernel_rfl
theorem qsz:qaq Tryz.prog 142=some 6:=by kernel_rfl
theorem qs0:qa2 Tryz.prog 142=some 96:=by kernel_rfl
theorem qw6:aggA Tryz.prog 142=some true:=by kernel_rfl
theorem qny:qat Tryz.prog 142=some (AVal.agg [AVal.int IntKind.i64 0,AVal.str [],AVal.int IntKind.i64 0,AVal.slice [] Go.Ab.Tk.full,AVal.slice [] Go.Ab.Tk.full,AVal.str []]):=by kernel_rfl
theorem bo_142:bok Tryz.prog 142=true:=by kernel_rfl
theorem qvj:qal Tryz.prog 142 0=some (0,37):=by kernel_rfl
theorem bp_142_0:qbf Tryz.prog 142 0=some (0,5):=by kernel_rfl
theorem q1h:qal Tryz.prog 142 1=some (5,9):=by kernel_rfl
theorem bp_142_1:qbf Tryz.prog 142 1=some (5,1):=by kernel_rfl
theorem sz_168:qaq Tryz.prog 168=some 1:=by kernel_rfl
theorem by_168:qa2 Tryz.prog 168=some 8:=by kernel_rfl
theorem ag_168:aggA Tryz.prog 168=some false:=by kernel_rfl
theorem ze_168:qat Tryz.prog 168=some AVal.nilf:=by kernel_rfl
theorem un_168:Tryz.prog.underlying 168=some (TypeDesc.func { toList:=[65] } { toList:=[4] } false):=by kernel_rfl
theorem sz_171:qaq Tryz.prog 171=some 1:=by kernel_rfl
theorem by_171:qa2 Tryz.prog 171=some 8:=by kernel_rfl
theorem ag_171:aggA Tryz.prog 171=some false:=by kernel_rfl
theorem ze_171:qat Tryz.prog 171=some AVal.nilp:=by kernel_rfl
theorem un_171:Tryz.prog.underlying 171=some (TypeDesc.pointer 173):=by kernel_rfl
theorem qw7:qaq Tryz.prog 173=some 4:=by kernel_rfl
theorem qw8:qa2 Tryz.prog 173=some 40:=by kernel_rfl
theorem qw9:aggA Tryz.prog 173=some true:=by kernel_rfl
theorem qpn:qat Tryz.prog 173=some (AVal.agg [AVal.str [],AVal.int IntKind.i64 0,AVal.int IntKind.i64 0,AVal.int IntKind.i64 0]):=by kernel_rfl
theorem bo_173:bok Tryz.prog 173=true:=by kernel_rfl
theorem q1i:qal Tryz.prog 173 0=some (0,9):=by kernel_rfl
theorem bp_173_0:qbf Tryz.prog 173 0=some (0,1):=by kernel_rfl
theorem qvk:qal Tryz.prog 173 1=some (1,3):=by kernel_rfl
theorem bp_173_1:qbf Tryz.prog 173 1=some (1,1):=by kernel_rfl
theorem qvl:qal Tryz.prog 173 2=some (2,3):=by kernel_rfl
theorem bp_173_2:qbf Tryz.prog 173 2=some (2,1):=by kernel_rfl
theorem qvm:qal Tryz.prog 173 3=some (3,3):=by kernel_rfl
theorem bp_173_3:qbf Tryz.prog 173 3=some (3,1):=by kernel_rfl
theorem sz_183:qaq Tryz.prog 183=some 1:=by kernel_rfl
theorem by_183:qa2 Tryz.prog 183=some 8:=by kernel_rfl
theorem ag_183:aggA Tryz.prog 183=some false:=by kernel_rfl
theorem ze_183:qat Tryz.prog 183=some AVal.nilf:=by kernel_rfl
theorem un_183:Tryz.prog.underlying 183=some (TypeDesc.func { toList:=[60] } { toList:=[4] } false):=by kernel_rfl
theorem qpo:qaq Tryz.prog 184=some 1:=by kernel_rfl
theorem qpp:qa2 Tryz.prog 184=some 8:=by kernel_rfl
theorem qpq:aggA Tryz.prog 184=some false:=by kernel_rfl
theorem qpr:qat Tryz.prog 184=some AVal.nilf:=by kernel_rfl
theorem qps:Tryz.prog.underlying 184=some (TypeDesc.func { toList:=[5] } { toList:=[4] } false):=by kernel_rfl
theorem sz_195:qaq Tryz.prog 195=some 1:=by kernel_rfl
theorem by_195:qa2 Tryz.prog 195=some 16:=by kernel_rfl
theorem ag_195:aggA Tryz.prog 195=some false:=by kernel_rfl
theorem ze_195:qat Tryz.prog 195=some AVal.nili:=by kernel_rfl
theorem un_195:Tryz.prog.underlying 195=some (TypeDesc.interface { toList:=[("Error",98)] }):=by kernel_rfl
theorem sz_213:qaq Tryz.prog 213=some 1:=by kernel_rfl
theorem by_213:qa2 Tryz.prog 213=some 8:=by kernel_rfl
theorem ag_213:aggA Tryz.prog 213=some false:=by kernel_rfl
theorem ze_213:qat Tryz.prog 213=some AVal.nilf:=by kernel_rfl
theorem un_213:Tryz.prog.underlying 213=some (TypeDesc.func { toList:=[71] } { toList:=[4] } false):=by kernel_rfl
theorem sz_237:qaq Tryz.prog 237=some 18:=by kernel_rfl
theorem by_237:qa2 Tryz.prog 237=some 288:=by kernel_rfl
theorem ag_237:aggA Tryz.prog 237=some true:=by kernel_rfl
theorem ze_237:qat Tryz.prog 237=some (AVal.agg [AVal.str [],AVal.str [],AVal.str [],AVal.str [],AVal.str [],AVal.str [],AVal.str [],AVal.str [],AVal.str [],AVal.str [],AVal.str [],AVal.str [],AVal.str [],AVal.str [],AVal.str [],AVal.str [],AVal.str [],AVal.str []]):=by kernel_rfl
theorem un_237:Tryz.prog.underlying 237=some (TypeDesc.array 18 9):=by kernel_rfl
theorem sz_272:qaq Tryz.prog 272=some 1:=by kernel_rfl
theorem by_272:qa2 Tryz.prog 272=some 8:=by kernel_rfl
theorem ag_272:aggA Tryz.prog 272=some false:=by kernel_rfl
theorem ze_272:qat Tryz.prog 272=some AVal.nilf:=by kernel_rfl
theorem un_272:Tryz.prog.underlying 272=some (TypeDesc.func { toList:=[2] } { toList:=[4] } false):=by kernel_rfl
theorem sz_274:qaq Tryz.prog 274=some 8:=by kernel_rfl
theorem by_274:qa2 Tryz.prog 274=some 64:=by kernel_rfl
theorem ag_274:aggA Tryz.prog 274=some true:=by kernel_rfl
theorem qs1:qat Tryz.prog 274=some (AVal.agg [AVal.nilf,AVal.nilf,AVal.nilf,AVal.int IntKind.i64 0,AVal.int IntKind.i64 0,AVal.int IntKind.i64 0,AVal.int IntKind.i64 0,AVal.bool false]):=by kernel_rfl
theorem bo_274:bok Tryz.prog 274=true:=by kernel_rfl
theorem fp_274_0:qal Tryz.prog 274 0=some (0,33):=by kernel_rfl
theorem bp_274_0:qbf Tryz.prog 274 0=some (0,1):=by kernel_rfl
theorem fp_274_1:qal Tryz.prog 274 1=some (1,272):=by kernel_rfl
theorem bp_274_1:qbf Tryz.prog 274 1=some (1,1):=by kernel_rfl
theorem fp_274_2:qal Tryz.prog 274 2=some (2,33):=by kernel_rfl
theorem bp_274_2:qbf Tryz.prog 274 2=some (2,1):=by kernel_rfl
theorem fp_274_3:qal Tryz.prog 274 3=some (3,3):=by kernel_rfl
theorem bp_274_3:qbf Tryz.prog 274 3=some (3,1):=by kernel_rfl
theorem fp_274_4:qal Tryz.prog 274 4=some (4,3):=by kernel_rfl
theorem bp_274_4:qbf Tryz.prog 274 4=some (4,1):=by kernel_rfl
theorem fp_274_5:qal Tryz.prog 274 5=some (5,3):=by kernel_rfl
theorem bp_274_5:qbf Tryz.prog 274 5=some (5,1):=by kernel_rfl
theorem fp_274_6:qal Tryz.prog 274 6=some (6,3):=by kernel_rfl
theorem bp_274_6:qbf Tryz.prog 274 6=some (6,1):=by kernel_rfl
theorem fp_274_7:qal Tryz.prog 274 7=some (7,4):=by kernel_rfl
theorem bp_274_7:qbf Tryz.prog 274 7=some (7,1):=by kernel_rfl
theorem sz_287:qaq Tryz.prog 287=some 1:=by kernel_rfl
theorem by_287:qa2 Tryz.prog 287=some 24:=by kernel_rfl
theorem ag_287:aggA Tryz.prog 287=some false:=by kernel_rfl
theorem ze_287:qat Tryz.prog 287=some (AVal.slice [] Go.Ab.Tk.full):=by kernel_rfl
theorem un_287:Tryz.prog.underlying 287=some (TypeDesc.slice 290):=by kernel_rfl
theorem el_287:qg8 Tryz.prog 287=some 290:=by kernel_rfl
theorem qs2:qaq Tryz.prog 290=some 6:=by kernel_rfl
theorem qxa:qa2 Tryz.prog 290=some 96:=by kernel_rfl
theorem qxb:aggA Tryz.prog 290=some true:=by kernel_rfl
theorem qpt:qat Tryz.prog 290=some (AVal.agg [AVal.str [],AVal.int IntKind.i64 0,AVal.str [],AVal.int IntKind.i64 0,AVal.slice [] Go.Ab.Tk.full,AVal.slice [] Go.Ab.Tk.full]):=by kernel_rfl
theorem bo_290:bok Tryz.prog 290=true:=by kernel_rfl
theorem fp_290_0:qal Tryz.prog 290 0=some (0,9):=by kernel_rfl
theorem bp_290_0:qbf Tryz.prog 290 0=some (0,1):=by kernel_rfl
theorem fp_290_1:qal Tryz.prog 290 1=some (1,37):=by kernel_rfl
theorem bp_290_1:qbf Tryz.prog 290 1=some (1,5):=by kernel_rfl
theorem sz_291:qaq Tryz.prog 291=some 1:=by kernel_rfl
theorem by_291:qa2 Tryz.prog 291=some 8:=by kernel_rfl
theorem ag_291:aggA Tryz.prog 291=some false:=by kernel_rfl
theorem ze_291:qat Tryz.prog 291=some AVal.nilf:=by kernel_rfl
theorem un_291:Tryz.prog.underlying 291=some (TypeDesc.func { toList:=[] } { toList:=[290] } false):=by kernel_rfl
end Go.Ab.Tab
