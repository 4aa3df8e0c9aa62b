/- The tables of the program, looked up. -/
import Derived.Test.YtngklkmeknmloaaGreatDoorProg
import Derived.Test.YtngklkmeknmloaaGreatDoorAbSim
import Derived.KernelRfl
set_option linter.unusedSimpArgs false
set_option linter.unusedVariables false
set_option maxRecDepth 100000
set_option maxHeartbeats 4000000
open Go.Proofs
namespace Go.Ab.Tab
theorem sz_0:qas Tryz.prog 0=some 1:=by kernel_rfl
theorem by_0:qa4 Tryz.prog 0=some 0:=by kernel_rfl
theorem ag_0:aggA Tryz.prog 0=some false:=by kernel_rfl
theorem ze_0:qaz Tryz.prog 0=some (AVal.tuple []):=by kernel_rfl
theorem sz_1:qas Tryz.prog 1=some 1:=by kernel_rfl
theorem by_1:qa4 Tryz.prog 1=some 8:=by kernel_rfl
theorem ag_1:aggA Tryz.prog 1=some false:=by kernel_rfl
theorem ze_1:qaz Tryz.prog 1=some AVal.nilf:=by kernel_rfl
theorem un_1:Tryz.prog.underlying 1=some (TypeDesc.func { toList:=[] } { toList:=[] } false):=by kernel_rfl
theorem sz_2:qas Tryz.prog 2=some 1:=by kernel_rfl
theorem by_2:qa4 Tryz.prog 2=some 8:=by kernel_rfl
theorem ag_2:aggA Tryz.prog 2=some false:=by kernel_rfl
theorem ze_2:qaz Tryz.prog 2=some (AVal.int IntKind.i64 0):=by kernel_rfl
theorem un_2:Tryz.prog.underlying 2=some (TypeDesc.int IntKind.i64):=by kernel_rfl
theorem sz_3:qas Tryz.prog 3=some 1:=by kernel_rfl
theorem by_3:qa4 Tryz.prog 3=some 8:=by kernel_rfl
theorem ag_3:aggA Tryz.prog 3=some false:=by kernel_rfl
theorem ze_3:qaz Tryz.prog 3=some (AVal.int IntKind.i64 0):=by kernel_rfl
theorem un_3:Tryz.prog.underlying 3=some (TypeDesc.int IntKind.i64):=by kernel_rfl
theorem sz_4:qas Tryz.prog 4=some 1:=by kernel_rfl
theorem by_4:qa4 Tryz.prog 4=some 1:=by kernel_rfl
theorem ag_4:aggA Tryz.prog 4=some false:=by kernel_rfl
theorem ze_4:qaz Tryz.prog 4=some (AVal.bool false):=by kernel_rfl
theorem un_4:Tryz.prog.underlying 4=some (TypeDesc.bool):=by kernel_rfl
theorem sz_5:qas Tryz.prog 5=some 1:=by kernel_rfl
theorem by_5:qa4 Tryz.prog 5=some 1:=by kernel_rfl
theorem ag_5:aggA Tryz.prog 5=some false:=by kernel_rfl
theorem ze_5:qaz Tryz.prog 5=some (AVal.int IntKind.u8 0):=by kernel_rfl
theorem un_5:Tryz.prog.underlying 5=some (TypeDesc.int IntKind.u8):=by kernel_rfl
theorem sz_6:qas Tryz.prog 6=some 1:=by kernel_rfl
theorem by_6:qa4 Tryz.prog 6=some 1:=by kernel_rfl
theorem ag_6:aggA Tryz.prog 6=some false:=by kernel_rfl
theorem ze_6:qaz Tryz.prog 6=some (AVal.int IntKind.u8 0):=by kernel_rfl
theorem un_6:Tryz.prog.underlying 6=some (TypeDesc.int IntKind.u8):=by kernel_rfl
theorem sz_7:qas Tryz.prog 7=some 4:=by kernel_rfl
theorem by_7:qa4 Tryz.prog 7=some 24:=by kernel_rfl
theorem ag_7:aggA Tryz.prog 7=some true:=by kernel_rfl
theorem ze_7:qaz Tryz.prog 7=some (AVal.agg [AVal.int IntKind.i64 0,AVal.int IntKind.i64 0,AVal.bool false,AVal.int IntKind.u8 0]):=by kernel_rfl
theorem sz_9:qas Tryz.prog 9=some 1:=by kernel_rfl
theorem by_9:qa4 Tryz.prog 9=some 16:=by kernel_rfl
theorem ag_9:aggA Tryz.prog 9=some false:=by kernel_rfl
theorem ze_9:qaz Tryz.prog 9=some (AVal.str []):=by kernel_rfl
theorem un_9:Tryz.prog.underlying 9=some (TypeDesc.string):=by kernel_rfl
theorem sz_11:qas Tryz.prog 11=some 1:=by kernel_rfl
theorem by_11:qa4 Tryz.prog 11=some 16:=by kernel_rfl
theorem ag_11:aggA Tryz.prog 11=some false:=by kernel_rfl
theorem ze_11:qaz Tryz.prog 11=some (AVal.str []):=by kernel_rfl
theorem un_11:Tryz.prog.underlying 11=some (TypeDesc.string):=by kernel_rfl
theorem sz_20:qas Tryz.prog 20=some 1:=by kernel_rfl
theorem by_20:qa4 Tryz.prog 20=some 16:=by kernel_rfl
theorem ag_20:aggA Tryz.prog 20=some false:=by kernel_rfl
theorem ze_20:qaz Tryz.prog 20=some AVal.nili:=by kernel_rfl
theorem un_20:Tryz.prog.underlying 20=some (TypeDesc.interface { toList:=[] }):=by kernel_rfl
theorem sz_23:qas Tryz.prog 23=some 1:=by kernel_rfl
theorem by_23:qa4 Tryz.prog 23=some 24:=by kernel_rfl
theorem ag_23:aggA Tryz.prog 23=some false:=by kernel_rfl
theorem ze_23:qaz Tryz.prog 23=some (AVal.slice [] Go.Ab.Tk.full):=by kernel_rfl
theorem un_23:Tryz.prog.underlying 23=some (TypeDesc.slice 67):=by kernel_rfl
theorem qup:qhr Tryz.prog 23=some 67:=by kernel_rfl
theorem qnj:qas Tryz.prog 24=some 1:=by kernel_rfl
theorem qnk:qa4 Tryz.prog 24=some 24:=by kernel_rfl
theorem qnl:aggA Tryz.prog 24=some false:=by kernel_rfl
theorem qnm:qaz Tryz.prog 24=some (AVal.slice [] Go.Ab.Tk.full):=by kernel_rfl
theorem qnn:Tryz.prog.underlying 24=some (TypeDesc.slice 60):=by kernel_rfl
theorem qmq:qhr Tryz.prog 24=some 60:=by kernel_rfl
theorem qlb:qas Tryz.prog 26=some 2:=by kernel_rfl
theorem qmr:qa4 Tryz.prog 26=some 48:=by kernel_rfl
theorem qlc:aggA Tryz.prog 26=some true:=by kernel_rfl
theorem qj9:qaz Tryz.prog 26=some (AVal.agg [AVal.slice [] Go.Ab.Tk.full,AVal.slice [] Go.Ab.Tk.full]):=by kernel_rfl
theorem bo_26:bok Tryz.prog 26=true:=by kernel_rfl
theorem qqc:qam Tryz.prog 26 0=some (0,23):=by kernel_rfl
theorem bp_26_0:qbh Tryz.prog 26 0=some (0,1):=by kernel_rfl
theorem ql7:qam Tryz.prog 26 1=some (1,24):=by kernel_rfl
theorem bp_26_1:qbh Tryz.prog 26 1=some (1,1):=by kernel_rfl
theorem qld:qas Tryz.prog 27=some 1:=by kernel_rfl
theorem qle:qa4 Tryz.prog 27=some 8:=by kernel_rfl
theorem qlf:aggA Tryz.prog 27=some false:=by kernel_rfl
theorem qlg:qaz Tryz.prog 27=some (AVal.int IntKind.i64 0):=by kernel_rfl
theorem qlh:Tryz.prog.underlying 27=some (TypeDesc.int IntKind.i64):=by kernel_rfl
theorem qli:qas Tryz.prog 29=some 3:=by kernel_rfl
theorem qlj:qa4 Tryz.prog 29=some 24:=by kernel_rfl
theorem qlk:aggA Tryz.prog 29=some true:=by kernel_rfl
theorem qjk:qaz Tryz.prog 29=some (AVal.agg [AVal.int IntKind.i64 0,AVal.int IntKind.i64 0,AVal.int IntKind.i64 0]):=by kernel_rfl
theorem qno:bok Tryz.prog 29=true:=by kernel_rfl
theorem qn3:qam Tryz.prog 29 0=some (0,27):=by kernel_rfl
theorem ql8:qbh Tryz.prog 29 0=some (0,1):=by kernel_rfl
theorem ql9:qbh Tryz.prog 29 1=some (1,1):=by kernel_rfl
theorem qma:qbh Tryz.prog 29 2=some (2,1):=by kernel_rfl
theorem qoy:qas Tryz.prog 33=some 1:=by kernel_rfl
theorem qoz:qa4 Tryz.prog 33=some 8:=by kernel_rfl
theorem qo0:aggA Tryz.prog 33=some false:=by kernel_rfl
theorem qo1:qaz Tryz.prog 33=some AVal.nilf:=by kernel_rfl
theorem qo2:Tryz.prog.underlying 33=some (TypeDesc.func { toList:=[9] } { toList:=[4] } false):=by kernel_rfl
theorem qb3:qas Tryz.prog 34=some 1:=by kernel_rfl
theorem qb4:qa4 Tryz.prog 34=some 24:=by kernel_rfl
theorem qb5:aggA Tryz.prog 34=some false:=by kernel_rfl
theorem qb6:qaz Tryz.prog 34=some (AVal.slice [] Go.Ab.Tk.full):=by kernel_rfl
theorem qb7:Tryz.prog.underlying 34=some (TypeDesc.slice 9):=by kernel_rfl
theorem qb2:qhr Tryz.prog 34=some 9:=by kernel_rfl
theorem qg4:qas Tryz.prog 35=some 1:=by kernel_rfl
theorem qg5:qa4 Tryz.prog 35=some 24:=by kernel_rfl
theorem qg6:aggA Tryz.prog 35=some false:=by kernel_rfl
theorem qg7:qaz Tryz.prog 35=some (AVal.slice [] Go.Ab.Tk.full):=by kernel_rfl
theorem qg8:Tryz.prog.underlying 35=some (TypeDesc.slice 37):=by kernel_rfl
theorem qgv:qhr Tryz.prog 35=some 37:=by kernel_rfl
theorem qch:qas Tryz.prog 37=some 5:=by kernel_rfl
theorem qck:qa4 Tryz.prog 37=some 80:=by kernel_rfl
theorem qcl:aggA Tryz.prog 37=some true:=by kernel_rfl
theorem qca:qaz Tryz.prog 37=some (AVal.agg [AVal.int IntKind.i64 0,AVal.str [],AVal.int IntKind.i64 0,AVal.slice [] Go.Ab.Tk.full,AVal.slice [] Go.Ab.Tk.full]):=by kernel_rfl
theorem qms:bok Tryz.prog 37=true:=by kernel_rfl
theorem qn4:qam Tryz.prog 37 0=some (0,3):=by kernel_rfl
theorem qku:qbh Tryz.prog 37 0=some (0,1):=by kernel_rfl
theorem qn5:qam Tryz.prog 37 1=some (1,9):=by kernel_rfl
theorem qkv:qbh Tryz.prog 37 1=some (1,1):=by kernel_rfl
theorem quq:qam Tryz.prog 37 2=some (2,2):=by kernel_rfl
theorem qkw:qbh Tryz.prog 37 2=some (2,1):=by kernel_rfl
theorem qkx:qam Tryz.prog 37 3=some (3,34):=by kernel_rfl
theorem qky:qbh Tryz.prog 37 3=some (3,1):=by kernel_rfl
theorem qir:qam Tryz.prog 37 4=some (4,35):=by kernel_rfl
theorem qkz:qbh Tryz.prog 37 4=some (4,1):=by kernel_rfl
theorem sz_40:qas Tryz.prog 40=some 1:=by kernel_rfl
theorem by_40:qa4 Tryz.prog 40=some 8:=by kernel_rfl
theorem ag_40:aggA Tryz.prog 40=some false:=by kernel_rfl
theorem ze_40:qaz Tryz.prog 40=some AVal.nilf:=by kernel_rfl
theorem un_40:Tryz.prog.underlying 40=some (TypeDesc.func { toList:=[37,37] } { toList:=[4] } false):=by kernel_rfl
theorem qo3:qas Tryz.prog 58=some 1:=by kernel_rfl
theorem qo4:qa4 Tryz.prog 58=some 24:=by kernel_rfl
theorem qo5:aggA Tryz.prog 58=some false:=by kernel_rfl
theorem qo6:qaz Tryz.prog 58=some (AVal.slice [] Go.Ab.Tk.full):=by kernel_rfl
theorem qo7:Tryz.prog.underlying 58=some (TypeDesc.slice 65):=by kernel_rfl
theorem qnp:qhr Tryz.prog 58=some 65:=by kernel_rfl
theorem qg9:qas Tryz.prog 60=some 5:=by kernel_rfl
theorem qic:qa4 Tryz.prog 60=some 112:=by kernel_rfl
theorem qhu:aggA Tryz.prog 60=some true:=by kernel_rfl
theorem qha:qaz Tryz.prog 60=some (AVal.agg [AVal.str [],AVal.slice [] Go.Ab.Tk.full,AVal.slice [] Go.Ab.Tk.full,AVal.slice [] Go.Ab.Tk.full,AVal.slice [] Go.Ab.Tk.full]):=by kernel_rfl
theorem bo_60:bok Tryz.prog 60=true:=by kernel_rfl
theorem qza:qam Tryz.prog 60 0=some (0,9):=by kernel_rfl
theorem bp_60_0:qbh Tryz.prog 60 0=some (0,1):=by kernel_rfl
theorem qur:qam Tryz.prog 60 1=some (1,34):=by kernel_rfl
theorem bp_60_1:qbh Tryz.prog 60 1=some (1,1):=by kernel_rfl
theorem qus:qam Tryz.prog 60 2=some (2,34):=by kernel_rfl
theorem bp_60_2:qbh Tryz.prog 60 2=some (2,1):=by kernel_rfl
theorem qut:qam Tryz.prog 60 3=some (3,34):=by kernel_rfl
theorem bp_60_3:qbh Tryz.prog 60 3=some (3,1):=by kernel_rfl
theorem qn6:qam Tryz.prog 60 4=some (4,58):=by kernel_rfl
theorem bp_60_4:qbh Tryz.prog 60 4=some (4,1):=by kernel_rfl
theorem qjl:qas Tryz.prog 62=some 6:=by kernel_rfl
theorem qll:qa4 Tryz.prog 62=some 104:=by kernel_rfl
theorem qka:aggA Tryz.prog 62=some true:=by kernel_rfl
theorem qlm:qaz Tryz.prog 62=some (AVal.agg [AVal.slice [] Go.Ab.Tk.full,AVal.int IntKind.i64 0,AVal.str [],AVal.int IntKind.i64 0,AVal.slice [] Go.Ab.Tk.full,AVal.slice [] Go.Ab.Tk.full]):=by kernel_rfl
theorem qqd:qam Tryz.prog 62 0=some (0,34):=by kernel_rfl
theorem qn7:qam Tryz.prog 62 1=some (1,37):=by kernel_rfl
theorem qrx:qas Tryz.prog 63=some 1:=by kernel_rfl
theorem qry:qa4 Tryz.prog 63=some 24:=by kernel_rfl
theorem qrz:aggA Tryz.prog 63=some false:=by kernel_rfl
theorem qr0:qaz Tryz.prog 63=some (AVal.slice [] Go.Ab.Tk.full):=by kernel_rfl
theorem qr1:Tryz.prog.underlying 63=some (TypeDesc.slice 71):=by kernel_rfl
theorem qo8:qhr Tryz.prog 63=some 71:=by kernel_rfl
theorem qhb:qas Tryz.prog 65=some 7:=by kernel_rfl
theorem qiu:qa4 Tryz.prog 65=some 128:=by kernel_rfl
theorem qhv:aggA Tryz.prog 65=some true:=by kernel_rfl
theorem qhw:qaz Tryz.prog 65=some (AVal.agg [AVal.slice [] Go.Ab.Tk.full,AVal.int IntKind.i64 0,AVal.str [],AVal.int IntKind.i64 0,AVal.slice [] Go.Ab.Tk.full,AVal.slice [] Go.Ab.Tk.full,AVal.slice [] Go.Ab.Tk.full]):=by kernel_rfl
theorem bo_65:bok Tryz.prog 65=true:=by kernel_rfl
theorem quu:qam Tryz.prog 65 0=some (0,62):=by kernel_rfl
theorem bp_65_0:qbh Tryz.prog 65 0=some (0,6):=by kernel_rfl
theorem qqe:qam Tryz.prog 65 1=some (6,63):=by kernel_rfl
theorem bp_65_1:qbh Tryz.prog 65 1=some (6,1):=by kernel_rfl
theorem qo9:qas Tryz.prog 67=some 2:=by kernel_rfl
theorem qr2:qa4 Tryz.prog 67=some 40:=by kernel_rfl
theorem qr3:aggA Tryz.prog 67=some true:=by kernel_rfl
theorem qnq:qaz Tryz.prog 67=some (AVal.agg [AVal.str [],AVal.slice [] Go.Ab.Tk.full]):=by kernel_rfl
theorem bo_67:bok Tryz.prog 67=true:=by kernel_rfl
theorem qzb:qam Tryz.prog 67 0=some (0,9):=by kernel_rfl
theorem bp_67_0:qbh Tryz.prog 67 0=some (0,1):=by kernel_rfl
theorem quv:qam Tryz.prog 67 1=some (1,34):=by kernel_rfl
theorem bp_67_1:qbh Tryz.prog 67 1=some (1,1):=by kernel_rfl
theorem quw:qas Tryz.prog 68=some 1:=by kernel_rfl
theorem qux:qa4 Tryz.prog 68=some 24:=by kernel_rfl
theorem quy:aggA Tryz.prog 68=some false:=by kernel_rfl
theorem quz:qaz Tryz.prog 68=some (AVal.slice [] Go.Ab.Tk.full):=by kernel_rfl
theorem qu0:Tryz.prog.underlying 68=some (TypeDesc.slice 62):=by kernel_rfl
theorem qr4:qhr Tryz.prog 68=some 62:=by kernel_rfl
theorem sz_69:qas Tryz.prog 69=some 1:=by kernel_rfl
theorem by_69:qa4 Tryz.prog 69=some 24:=by kernel_rfl
theorem ag_69:aggA Tryz.prog 69=some false:=by kernel_rfl
theorem ze_69:qaz Tryz.prog 69=some (AVal.slice [] Go.Ab.Tk.full):=by kernel_rfl
theorem un_69:Tryz.prog.underlying 69=some (TypeDesc.slice 142):=by kernel_rfl
theorem qu1:qhr Tryz.prog 69=some 142:=by kernel_rfl
theorem qkb:qas Tryz.prog 71=some 3:=by kernel_rfl
theorem qln:qa4 Tryz.prog 71=some 64:=by kernel_rfl
theorem qlo:aggA Tryz.prog 71=some true:=by kernel_rfl
theorem qjm:qaz Tryz.prog 71=some (AVal.agg [AVal.str [],AVal.slice [] Go.Ab.Tk.full,AVal.slice [] Go.Ab.Tk.full]):=by kernel_rfl
theorem bo_71:bok Tryz.prog 71=true:=by kernel_rfl
theorem qzc:qam Tryz.prog 71 0=some (0,9):=by kernel_rfl
theorem bp_71_0:qbh Tryz.prog 71 0=some (0,1):=by kernel_rfl
theorem qqf:qam Tryz.prog 71 1=some (1,68):=by kernel_rfl
theorem bp_71_1:qbh Tryz.prog 71 1=some (1,1):=by kernel_rfl
theorem qqg:qam Tryz.prog 71 2=some (2,69):=by kernel_rfl
theorem bp_71_2:qbh Tryz.prog 71 2=some (2,1):=by kernel_rfl
theorem sz_73:qas Tryz.prog 73=some 1:=by kernel_rfl
theorem by_73:qa4 Tryz.prog 73=some 8:=by kernel_rfl
theorem ag_73:aggA Tryz.prog 73=some false:=by kernel_rfl
theorem ze_73:qaz Tryz.prog 73=some AVal.nilf:=by kernel_rfl
theorem un_73:Tryz.prog.underlying 73=some (TypeDesc.func { toList:=[75] } { toList:=[26] } false):=by kernel_rfl
theorem qdp:qas Tryz.prog 75=some 1:=by kernel_rfl
theorem qdq:qa4 Tryz.prog 75=some 8:=by kernel_rfl
theorem qdr:aggA Tryz.prog 75=some false:=by kernel_rfl
theorem qds:qaz Tryz.prog 75=some AVal.nilp:=by kernel_rfl
theorem qdt:Tryz.prog.underlying 75=some (TypeDesc.pointer 124):=by kernel_rfl
theorem sz_77:qas Tryz.prog 77=some 1:=by kernel_rfl
theorem by_77:qa4 Tryz.prog 77=some 24:=by kernel_rfl
theorem ag_77:aggA Tryz.prog 77=some false:=by kernel_rfl
theorem ze_77:qaz Tryz.prog 77=some (AVal.slice [] Go.Ab.Tk.full):=by kernel_rfl
theorem un_77:Tryz.prog.underlying 77=some (TypeDesc.slice 84):=by kernel_rfl
theorem el_77:qhr Tryz.prog 77=some 84:=by kernel_rfl
theorem qid:qas Tryz.prog 84=some 5:=by kernel_rfl
theorem qie:qa4 Tryz.prog 84=some 48:=by kernel_rfl
theorem qiv:aggA Tryz.prog 84=some true:=by kernel_rfl
theorem qhc:qaz Tryz.prog 84=some (AVal.agg [AVal.int IntKind.i64 0,AVal.str [],AVal.int IntKind.i64 0,AVal.int IntKind.i64 0,AVal.int IntKind.i64 0]):=by kernel_rfl
theorem qu2:bok Tryz.prog 84=true:=by kernel_rfl
theorem qmb:qam Tryz.prog 84 0=some (0,3):=by kernel_rfl
theorem qu3:qbh Tryz.prog 84 0=some (0,1):=by kernel_rfl
theorem qu4:qam Tryz.prog 84 1=some (1,9):=by kernel_rfl
theorem qu5:qbh Tryz.prog 84 1=some (1,1):=by kernel_rfl
theorem fp_84_2:qam Tryz.prog 84 2=some (2,2):=by kernel_rfl
theorem qu6:qbh Tryz.prog 84 2=some (2,1):=by kernel_rfl
theorem fp_84_3:qam Tryz.prog 84 3=some (3,3):=by kernel_rfl
theorem qu7:qbh Tryz.prog 84 3=some (3,1):=by kernel_rfl
theorem fp_84_4:qam Tryz.prog 84 4=some (4,3):=by kernel_rfl
theorem qu8:qbh Tryz.prog 84 4=some (4,1):=by kernel_rfl
theorem sz_91:qas Tryz.prog 91=some 1:=by kernel_rfl
theorem by_91:qa4 Tryz.prog 91=some 8:=by kernel_rfl
theorem ag_91:aggA Tryz.prog 91=some false:=by kernel_rfl
theorem ze_91:qaz Tryz.prog 91=some AVal.nilf:=by kernel_rfl
theorem un_91:Tryz.prog.underlying 91=some (TypeDesc.func { toList:=[] } { toList:=[37] } false):=by kernel_rfl
theorem sz_93:qas Tryz.prog 93=some 1:=by kernel_rfl
theorem by_93:qa4 Tryz.prog 93=some 8:=by kernel_rfl
theorem ag_93:aggA Tryz.prog 93=some false:=by kernel_rfl
theorem ze_93:qaz Tryz.prog 93=some AVal.nilf:=by kernel_rfl
theorem un_93:Tryz.prog.underlying 93=some (TypeDesc.func { toList:=[75] } { toList:=[37] } false):=by kernel_rfl
theorem qkc:qas Tryz.prog 94=some 1:=by kernel_rfl
theorem qkd:qa4 Tryz.prog 94=some 8:=by kernel_rfl
theorem qke:aggA Tryz.prog 94=some false:=by kernel_rfl
theorem qkf:qaz Tryz.prog 94=some AVal.nilp:=by kernel_rfl
theorem qkg:Tryz.prog.underlying 94=some (TypeDesc.pointer 96):=by kernel_rfl
theorem sz_96:qas Tryz.prog 96=some 1:=by kernel_rfl
theorem by_96:qa4 Tryz.prog 96=some 24:=by kernel_rfl
theorem ag_96:aggA Tryz.prog 96=some true:=by kernel_rfl
theorem qu9:qaz Tryz.prog 96=some (AVal.agg [AVal.slice [] Go.Ab.Tk.full]):=by kernel_rfl
theorem bo_96:bok Tryz.prog 96=true:=by kernel_rfl
theorem fp_96_0:qam Tryz.prog 96 0=some (0,34):=by kernel_rfl
theorem bp_96_0:qbh Tryz.prog 96 0=some (0,1):=by kernel_rfl
theorem sz_97:qas Tryz.prog 97=some 1:=by kernel_rfl
theorem by_97:qa4 Tryz.prog 97=some 8:=by kernel_rfl
theorem ag_97:aggA Tryz.prog 97=some false:=by kernel_rfl
theorem ze_97:qaz Tryz.prog 97=some AVal.nilf:=by kernel_rfl
theorem un_97:Tryz.prog.underlying 97=some (TypeDesc.func { toList:=[37] } { toList:=[] } false):=by kernel_rfl
theorem sz_98:qas Tryz.prog 98=some 1:=by kernel_rfl
theorem by_98:qa4 Tryz.prog 98=some 8:=by kernel_rfl
theorem ag_98:aggA Tryz.prog 98=some false:=by kernel_rfl
theorem ze_98:qaz Tryz.prog 98=some AVal.nilf:=by kernel_rfl
theorem un_98:Tryz.prog.underlying 98=some (TypeDesc.func { toList:=[] } { toList:=[9] } false):=by kernel_rfl
theorem sz_121:qas Tryz.prog 121=some 1:=by kernel_rfl
theorem by_121:qa4 Tryz.prog 121=some 8:=by kernel_rfl
theorem ag_121:aggA Tryz.prog 121=some false:=by kernel_rfl
theorem ze_121:qaz Tryz.prog 121=some AVal.nilf:=by kernel_rfl
theorem un_121:Tryz.prog.underlying 121=some (TypeDesc.func { toList:=[37] } { toList:=[4] } false):=by kernel_rfl
theorem qtm:qas Tryz.prog 124=some 2:=by kernel_rfl
theorem qtn:qa4 Tryz.prog 124=some 32:=by kernel_rfl
theorem qto:aggA Tryz.prog 124=some true:=by kernel_rfl
theorem qom:qaz Tryz.prog 124=some (AVal.agg [AVal.slice [] Go.Ab.Tk.full,AVal.int IntKind.i64 0]):=by kernel_rfl
theorem qx1:bok Tryz.prog 124=true:=by kernel_rfl
theorem q2w:qam Tryz.prog 124 0=some (0,77):=by kernel_rfl
theorem q2x:qbh Tryz.prog 124 0=some (0,1):=by kernel_rfl
theorem fp_124_1:qam Tryz.prog 124 1=some (1,3):=by kernel_rfl
theorem q2y:qbh Tryz.prog 124 1=some (1,1):=by kernel_rfl
theorem qgn:qas Tryz.prog 126=some 1:=by kernel_rfl
theorem qgo:qa4 Tryz.prog 126=some 1:=by kernel_rfl
theorem qgp:aggA Tryz.prog 126=some true:=by kernel_rfl
theorem qfz:qaz Tryz.prog 126=some (AVal.agg [AVal.bool false]):=by kernel_rfl
theorem bo_126:bok Tryz.prog 126=true:=by kernel_rfl
theorem qwg:qam Tryz.prog 126 0=some (0,4):=by kernel_rfl
theorem bp_126_0:qbh Tryz.prog 126 0=some (0,1):=by kernel_rfl
theorem qqh:qas Tryz.prog 142=some 6:=by kernel_rfl
theorem qqi:qa4 Tryz.prog 142=some 96:=by kernel_rfl
theorem qtp:aggA Tryz.prog 142=some true:=by kernel_rfl
theorem qm3:qaz Tryz.prog 142=some (AVal.agg [AVal.int IntKind.i64 0,AVal.str [],AVal.int IntKind.i64 0,AVal.slice [] Go.Ab.Tk.full,AVal.slice [] Go.Ab.Tk.full,AVal.str []]):=by kernel_rfl
theorem bo_142:bok Tryz.prog 142=true:=by kernel_rfl
theorem qr5:qam Tryz.prog 142 0=some (0,37):=by kernel_rfl
theorem bp_142_0:qbh Tryz.prog 142 0=some (0,5):=by kernel_rfl
theorem qwh:qam Tryz.prog 142 1=some (5,9):=by kernel_rfl
theorem bp_142_1:qbh Tryz.prog 142 1=some (5,1):=by kernel_rfl
theorem sz_168:qas Tryz.prog 168=some 1:=by kernel_rfl
theorem by_168:qa4 Tryz.prog 168=some 8:=by kernel_rfl
theorem ag_168:aggA Tryz.prog 168=some false:=by kernel_rfl
theorem ze_168:qaz Tryz.prog 168=some AVal.nilf:=by kernel_rfl
theorem un_168:Tryz.prog.underlying 168=some (TypeDesc.func { toList:=[65] } { toList:=[4] } false):=by kernel_rfl
theorem sz_171:qas Tryz.prog 171=some 1:=by kernel_rfl
theorem by_171:qa4 Tryz.prog 171=some 8:=by kernel_rfl
theorem ag_171:aggA Tryz.prog 171=some false:=by kernel_rfl
theorem ze_171:qaz Tryz.prog 171=some AVal.nilp:=by kernel_rfl
theorem un_171:Tryz.prog.underlying 171=some (TypeDesc.pointer 173):=by kernel_rfl
theorem qx2:qas Tryz.prog 173=some 4:=by kernel_rfl
theorem qx3:qa4 Tryz.prog 173=some 40:=by kernel_rfl
theorem qx4:aggA Tryz.prog 173=some true:=by kernel_rfl
theorem qqj:qaz Tryz.prog 173=some (AVal.agg [AVal.str [],AVal.int IntKind.i64 0,AVal.int IntKind.i64 0,AVal.int IntKind.i64 0]):=by kernel_rfl
theorem bo_173:bok Tryz.prog 173=true:=by kernel_rfl
theorem q2z:qam Tryz.prog 173 0=some (0,9):=by kernel_rfl
theorem bp_173_0:qbh Tryz.prog 173 0=some (0,1):=by kernel_rfl
theorem qwi:qam Tryz.prog 173 1=some (1,3):=by kernel_rfl
theorem bp_173_1:qbh Tryz.prog 173 1=some (1,1):=by kernel_rfl
theorem qwj:qam Tryz.prog 173 2=some (2,3):=by kernel_rfl
theorem bp_173_2:qbh Tryz.prog 173 2=some (2,1):=by kernel_rfl
theorem qwk:qam Tryz.prog 173 3=some (3,3):=by kernel_rfl
theorem bp_173_3:qbh Tryz.prog 173 3=some (3,1):=by kernel_rfl
theorem sz_183:qas Tryz.prog 183=some 1:=by kernel_rfl
theorem by_183:qa4 Tryz.prog 183=some 8:=by kernel_rfl
theorem ag_183:aggA Tryz.prog 183=some false:=by kernel_rfl
theorem ze_183:qaz Tryz.prog 183=some AVal.nilf:=by kernel_rfl
theorem un_183:Tryz.prog.underlying 183=some (TypeDesc.func { toList:=[60] } { toList:=[4] } false):=by kernel_rfl
theorem qqk:qas Tryz.prog 184=some 1:=by kernel_rfl
theorem qql:qa4 Tryz.prog 184=some 8:=by kernel_rfl
theorem qqm:aggA Tryz.prog 184=some false:=by kernel_rfl
theorem qqn:qaz Tryz.prog 184=some AVal.nilf:=by kernel_rfl
theorem qqo:Tryz.prog.underlying 184=some (TypeDesc.func { toList:=[5] } { toList:=[4] } false):=by kernel_rfl
theorem sz_195:qas Tryz.prog 195=some 1:=by kernel_rfl
theorem by_195:qa4 Tryz.prog 195=some 16:=by kernel_rfl
theorem ag_195:aggA Tryz.prog 195=some false:=by kernel_rfl
theorem ze_195:qaz Tryz.prog 195=some AVal.nili:=by kernel_rfl
theorem un_195:Tryz.prog.underlying 195=some (TypeDesc.interface { toList:=[("Error",98)] }):=by kernel_rfl
theorem sz_213:qas Tryz.prog 213=some 1:=by kernel_rfl
theorem by_213:qa4 Tryz.prog 213=some 8:=by kernel_rfl
theorem ag_213:aggA Tryz.prog 213=some false:=by kernel_rfl
theorem ze_213:qaz Tryz.prog 213=some AVal.nilf:=by kernel_rfl
theorem un_213:Tryz.prog.underlying 213=some (TypeDesc.func { toList:=[71] } { toList:=[4] } false):=by kernel_rfl
theorem sz_237:qas Tryz.prog 237=some 18:=by kernel_rfl
theorem by_237:qa4 Tryz.prog 237=some 288:=by kernel_rfl
theorem ag_237:aggA Tryz.prog 237=some true:=by kernel_rfl
theorem ze_237:qaz Tryz.prog 237=some (AVal.agg [AVal.str [],AVal.str [],AVal.str [],AVal.str [],AVal.str [],AVal.str [],AVal.str [],AVal.str [],AVal.str [],AVal.str [],AVal.str [],AVal.str [],AVal.str [],AVal.str [],AVal.str [],AVal.str [],AVal.str [],AVal.str []]):=by kernel_rfl
theorem un_237:Tryz.prog.underlying 237=some (TypeDesc.array 18 9):=by kernel_rfl
theorem sz_272:qas Tryz.prog 272=some 1:=by kernel_rfl
theorem by_272:qa4 Tryz.prog 272=some 8:=by kernel_rfl
theorem ag_272:aggA Tryz.prog 272=some false:=by kernel_rfl
theorem ze_272:qaz Tryz.prog 272=some AVal.nilf:=by kernel_rfl
theorem un_272:Tryz.prog.underlying 272=some (TypeDesc.func { toList:=[2] } { toList:=[4] } false):=by kernel_rfl
theorem sz_274:qas Tryz.prog 274=some 8:=by kernel_rfl
theorem by_274:qa4 Tryz.prog 274=some 64:=by kernel_rfl
theorem ag_274:aggA Tryz.prog 274=some true:=by kernel_rfl
theorem qtq:qaz Tryz.prog 274=some (AVal.agg [AVal.nilf,AVal.nilf,AVal.nilf,AVal.int IntKind.i64 0,AVal.int IntKind.i64 0,AVal.int IntKind.i64 0,AVal.int IntKind.i64 0,AVal.bool false]):=by kernel_rfl
theorem bo_274:bok Tryz.prog 274=true:=by kernel_rfl
theorem fp_274_0:qam Tryz.prog 274 0=some (0,33):=by kernel_rfl
theorem bp_274_0:qbh Tryz.prog 274 0=some (0,1):=by kernel_rfl
theorem fp_274_1:qam Tryz.prog 274 1=some (1,272):=by kernel_rfl
theorem bp_274_1:qbh Tryz.prog 274 1=some (1,1):=by kernel_rfl
theorem fp_274_2:qam Tryz.prog 274 2=some (2,33):=by kernel_rfl
theorem bp_274_2:qbh Tryz.prog 274 2=some (2,1):=by kernel_rfl
theorem fp_274_3:qam Tryz.prog 274 3=some (3,3):=by kernel_rfl
theorem bp_274_3:qbh Tryz.prog 274 3=some (3,1):=by kernel_rfl
theorem fp_274_4:qam Tryz.prog 274 4=some (4,3):=by kernel_rfl
theorem bp_274_4:qbh Tryz.prog 274 4=some (4,1):=by kernel_rfl
theorem fp_274_5:qam Tryz.prog 274 5=some (5,3):=by kernel_rfl
theorem bp_274_5:qbh Tryz.prog 274 5=some (5,1):=by kernel_rfl
theorem fp_274_6:qam Tryz.prog 274 6=some (6,3):=by kernel_rfl
theorem bp_274_6:qbh Tryz.prog 274 6=some (6,1):=by kernel_rfl
theorem fp_274_7:qam Tryz.prog 274 7=some (7,4):=by kernel_rfl
theorem bp_274_7:qbh Tryz.prog 274 7=some (7,1):=by kernel_rfl
theorem sz_287:qas Tryz.prog 287=some 1:=by kernel_rfl
theorem by_287:qa4 Tryz.prog 287=some 24:=by kernel_rfl
theorem ag_287:aggA Tryz.prog 287=some false:=by kernel_rfl
theorem ze_287:qaz Tryz.prog 287=some (AVal.slice [] Go.Ab.Tk.full):=by kernel_rfl
theorem un_287:Tryz.prog.underlying 287=some (TypeDesc.slice 290):=by kernel_rfl
theorem el_287:qhr Tryz.prog 287=some 290:=by kernel_rfl
theorem qtr:qas Tryz.prog 290=some 6:=by kernel_rfl
theorem qx5:qa4 Tryz.prog 290=some 96:=by kernel_rfl
theorem qx6:aggA Tryz.prog 290=some true:=by kernel_rfl
theorem qqp:qaz Tryz.prog 290=some (AVal.agg [AVal.str [],AVal.int IntKind.i64 0,AVal.str [],AVal.int IntKind.i64 0,AVal.slice [] Go.Ab.Tk.full,AVal.slice [] Go.Ab.Tk.full]):=by kernel_rfl
theorem bo_290:bok Tryz.prog 290=true:=by kernel_rfl
theorem fp_290_0:qam Tryz.prog 290 0=some (0,9):=by kernel_rfl
theorem bp_290_0:qbh Tryz.prog 290 0=some (0,1):=by kernel_rfl
theorem fp_290_1:qam Tryz.prog 290 1=some (1,37):=by kernel_rfl
theorem bp_290_1:qbh Tryz.prog 290 1=some (1,5):=by kernel_rfl
theorem sz_291:qas Tryz.prog 291=some 1:=by kernel_rfl
theorem by_291:qa4 Tryz.prog 291=some 8:=by kernel_rfl
theorem ag_291:aggA Tryz.prog 291=some false:=by kernel_rfl
theorem ze_291:qaz Tryz.prog 291=some AVal.nilf:=by kernel_rfl
theorem un_291:Tryz.prog.underlying 291=some (TypeDesc.func { toList:=[] } { toList:=[290] } false):=by kernel_rfl
end Go.Ab.Tab
