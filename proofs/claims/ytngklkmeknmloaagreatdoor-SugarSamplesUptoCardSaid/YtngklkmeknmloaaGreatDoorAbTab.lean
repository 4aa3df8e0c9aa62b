/- The tables' facts, for each function together. -/
import Derived.Test.YtngklkmeknmloaaGreatDoorAbSim
import Derived.KernelRfl
import Derived.Test.YtngklkmeknmloaaGreatDoorProg
import Derived.Test.YtngklkmeknmloaaGreatDoorAbEqs
set_option linter.unusedSimpArgs false
set_option linter.unusedVariables false
set_option maxRecDepth 100000
set_option maxHeartbeats 4000000
open Go.Proofs
namespace Go.Ab.Tab
theorem sz_0:qai Tryz.prog 0=some 1:=by kernel_rfl
theorem by_0:qaz Tryz.prog 0=some 0:=by kernel_rfl
theorem ag_0:aggA Tryz.prog 0=some false:=by kernel_rfl
theorem ze_0:qal Tryz.prog 0=some (AVal.tuple []):=by kernel_rfl
theorem sz_1:qai Tryz.prog 1=some 1:=by kernel_rfl
theorem by_1:qaz Tryz.prog 1=some 8:=by kernel_rfl
theorem ag_1:aggA Tryz.prog 1=some false:=by kernel_rfl
theorem ze_1:qal Tryz.prog 1=some AVal.nilf:=by kernel_rfl
theorem un_1:Tryz.prog.underlying 1=some (TypeDesc.func { toList:=[] } { toList:=[] } false):=by kernel_rfl
theorem sz_2:qai Tryz.prog 2=some 1:=by kernel_rfl
theorem by_2:qaz Tryz.prog 2=some 8:=by kernel_rfl
theorem ag_2:aggA Tryz.prog 2=some false:=by kernel_rfl
theorem ze_2:qal Tryz.prog 2=some (AVal.int IntKind.i64 0):=by kernel_rfl
theorem un_2:Tryz.prog.underlying 2=some (TypeDesc.int IntKind.i64):=by kernel_rfl
theorem sz_3:qai Tryz.prog 3=some 1:=by kernel_rfl
theorem by_3:qaz Tryz.prog 3=some 8:=by kernel_rfl
theorem ag_3:aggA Tryz.prog 3=some false:=by kernel_rfl
theorem ze_3:qal Tryz.prog 3=some (AVal.int IntKind.i64 0):=by kernel_rfl
theorem un_3:Tryz.prog.underlying 3=some (TypeDesc.int IntKind.i64):=by kernel_rfl
theorem sz_4:qai Tryz.prog 4=some 1:=by kernel_rfl
theorem by_4:qaz Tryz.prog 4=some 1:=by kernel_rfl
theorem ag_4:aggA Tryz.prog 4=some false:=by kernel_rfl
theorem ze_4:qal Tryz.prog 4=some (AVal.bool false):=by kernel_rfl
theorem un_4:Tryz.prog.underlying 4=some (TypeDesc.bool):=by kernel_rfl
theorem sz_5:qai Tryz.prog 5=some 1:=by kernel_rfl
theorem by_5:qaz Tryz.prog 5=some 1:=by kernel_rfl
theorem ag_5:aggA Tryz.prog 5=some false:=by kernel_rfl
theorem ze_5:qal Tryz.prog 5=some (AVal.int IntKind.u8 0):=by kernel_rfl
theorem un_5:Tryz.prog.underlying 5=some (TypeDesc.int IntKind.u8):=by kernel_rfl
theorem sz_9:qai Tryz.prog 9=some 1:=by kernel_rfl
theorem by_9:qaz Tryz.prog 9=some 16:=by kernel_rfl
theorem ag_9:aggA Tryz.prog 9=some false:=by kernel_rfl
theorem ze_9:qal Tryz.prog 9=some (AVal.str []):=by kernel_rfl
theorem un_9:Tryz.prog.underlying 9=some (TypeDesc.string):=by kernel_rfl
theorem sz_24:qai Tryz.prog 24=some 1:=by kernel_rfl
theorem by_24:qaz Tryz.prog 24=some 24:=by kernel_rfl
theorem ag_24:aggA Tryz.prog 24=some false:=by kernel_rfl
theorem ze_24:qal Tryz.prog 24=some (AVal.slice [] Go.Ab.Tk.full):=by kernel_rfl
theorem un_24:Tryz.prog.underlying 24=some (TypeDesc.slice 60):=by kernel_rfl
theorem el_24:qcl Tryz.prog 24=some 60:=by kernel_rfl
theorem sz_26:qai Tryz.prog 26=some 2:=by kernel_rfl
theorem by_26:qaz Tryz.prog 26=some 48:=by kernel_rfl
theorem ag_26:aggA Tryz.prog 26=some true:=by kernel_rfl
theorem ze_26:qal Tryz.prog 26=some (AVal.agg [AVal.slice [] Go.Ab.Tk.full,AVal.slice [] Go.Ab.Tk.full]):=by kernel_rfl
theorem fp_26_1:qam Tryz.prog 26 1=some (1,24):=by kernel_rfl
theorem sz_29:qai Tryz.prog 29=some 3:=by kernel_rfl
theorem by_29:qaz Tryz.prog 29=some 24:=by kernel_rfl
theorem ag_29:aggA Tryz.prog 29=some true:=by kernel_rfl
theorem ze_29:qal Tryz.prog 29=some (AVal.agg [AVal.int IntKind.i64 0,AVal.int IntKind.i64 0,AVal.int IntKind.i64 0]):=by kernel_rfl
theorem bo_29:bok Tryz.prog 29=true:=by kernel_rfl
theorem bp_29_0:qbj Tryz.prog 29 0=some (0,1):=by kernel_rfl
theorem bp_29_1:qbj Tryz.prog 29 1=some (1,1):=by kernel_rfl
theorem bp_29_2:qbj Tryz.prog 29 2=some (2,1):=by kernel_rfl
theorem qhe:qai Tryz.prog 34=some 1:=by kernel_rfl
theorem qhf:qaz Tryz.prog 34=some 24:=by kernel_rfl
theorem qhg:aggA Tryz.prog 34=some false:=by kernel_rfl
theorem qhh:qal Tryz.prog 34=some (AVal.slice [] Go.Ab.Tk.full):=by kernel_rfl
theorem qhi:Tryz.prog.underlying 34=some (TypeDesc.slice 9):=by kernel_rfl
theorem qf9:qcl Tryz.prog 34=some 9:=by kernel_rfl
theorem qk9:qai Tryz.prog 35=some 1:=by kernel_rfl
theorem qla:qaz Tryz.prog 35=some 24:=by kernel_rfl
theorem qlb:aggA Tryz.prog 35=some false:=by kernel_rfl
theorem qlc:qal Tryz.prog 35=some (AVal.slice [] Go.Ab.Tk.full):=by kernel_rfl
theorem qld:Tryz.prog.underlying 35=some (TypeDesc.slice 37):=by kernel_rfl
theorem qi2:qcl Tryz.prog 35=some 37:=by kernel_rfl
theorem qfq:qai Tryz.prog 37=some 5:=by kernel_rfl
theorem qfr:qaz Tryz.prog 37=some 80:=by kernel_rfl
theorem qga:aggA Tryz.prog 37=some true:=by kernel_rfl
theorem qej:qal Tryz.prog 37=some (AVal.agg [AVal.int IntKind.i64 0,AVal.str [],AVal.int IntKind.i64 0,AVal.slice [] Go.Ab.Tk.full,AVal.slice [] Go.Ab.Tk.full]):=by kernel_rfl
theorem bo_37:bok Tryz.prog 37=true:=by kernel_rfl
theorem qle:qam Tryz.prog 37 0=some (0,3):=by kernel_rfl
theorem bp_37_0:qbj Tryz.prog 37 0=some (0,1):=by kernel_rfl
theorem fp_37_1:qam Tryz.prog 37 1=some (1,9):=by kernel_rfl
theorem bp_37_1:qbj Tryz.prog 37 1=some (1,1):=by kernel_rfl
theorem fp_37_2:qam Tryz.prog 37 2=some (2,2):=by kernel_rfl
theorem bp_37_2:qbj Tryz.prog 37 2=some (2,1):=by kernel_rfl
theorem qlf:qam Tryz.prog 37 3=some (3,34):=by kernel_rfl
theorem bp_37_3:qbj Tryz.prog 37 3=some (3,1):=by kernel_rfl
theorem qgi:qam Tryz.prog 37 4=some (4,35):=by kernel_rfl
theorem bp_37_4:qbj Tryz.prog 37 4=some (4,1):=by kernel_rfl
theorem sz_58:qai Tryz.prog 58=some 1:=by kernel_rfl
theorem by_58:qaz Tryz.prog 58=some 24:=by kernel_rfl
theorem ag_58:aggA Tryz.prog 58=some false:=by kernel_rfl
theorem ze_58:qal Tryz.prog 58=some (AVal.slice [] Go.Ab.Tk.full):=by kernel_rfl
theorem un_58:Tryz.prog.underlying 58=some (TypeDesc.slice 65):=by kernel_rfl
theorem el_58:qcl Tryz.prog 58=some 65:=by kernel_rfl
theorem sz_60:qai Tryz.prog 60=some 5:=by kernel_rfl
theorem by_60:qaz Tryz.prog 60=some 112:=by kernel_rfl
theorem ag_60:aggA Tryz.prog 60=some true:=by kernel_rfl
theorem ze_60:qal Tryz.prog 60=some (AVal.agg [AVal.str [],AVal.slice [] Go.Ab.Tk.full,AVal.slice [] Go.Ab.Tk.full,AVal.slice [] Go.Ab.Tk.full,AVal.slice [] Go.Ab.Tk.full]):=by kernel_rfl
theorem fp_60_4:qam Tryz.prog 60 4=some (4,58):=by kernel_rfl
theorem sz_62:qai Tryz.prog 62=some 6:=by kernel_rfl
theorem by_62:qaz Tryz.prog 62=some 104:=by kernel_rfl
theorem ag_62:aggA Tryz.prog 62=some true:=by kernel_rfl
theorem ze_62:qal Tryz.prog 62=some (AVal.agg [AVal.slice [] Go.Ab.Tk.full,AVal.int IntKind.i64 0,AVal.str [],AVal.int IntKind.i64 0,AVal.slice [] Go.Ab.Tk.full,AVal.slice [] Go.Ab.Tk.full]):=by kernel_rfl
theorem fp_62_1:qam Tryz.prog 62 1=some (1,37):=by kernel_rfl
theorem sz_65:qai Tryz.prog 65=some 7:=by kernel_rfl
theorem by_65:qaz Tryz.prog 65=some 128:=by kernel_rfl
theorem ag_65:aggA Tryz.prog 65=some true:=by kernel_rfl
theorem ze_65:qal Tryz.prog 65=some (AVal.agg [AVal.slice [] Go.Ab.Tk.full,AVal.int IntKind.i64 0,AVal.str [],AVal.int IntKind.i64 0,AVal.slice [] Go.Ab.Tk.full,AVal.slice [] Go.Ab.Tk.full,AVal.slice [] Go.Ab.Tk.full]):=by kernel_rfl
theorem fp_65_0:qam Tryz.prog 65 0=some (0,62):=by kernel_rfl
theorem sz_77:qai Tryz.prog 77=some 1:=by kernel_rfl
theorem by_77:qaz Tryz.prog 77=some 24:=by kernel_rfl
theorem ag_77:aggA Tryz.prog 77=some false:=by kernel_rfl
theorem ze_77:qal Tryz.prog 77=some (AVal.slice [] Go.Ab.Tk.full):=by kernel_rfl
theorem un_77:Tryz.prog.underlying 77=some (TypeDesc.slice 84):=by kernel_rfl
theorem el_77:qcl Tryz.prog 77=some 84:=by kernel_rfl
theorem qlg:qai Tryz.prog 84=some 5:=by kernel_rfl
theorem qlh:qaz Tryz.prog 84=some 48:=by kernel_rfl
theorem ag_84:aggA Tryz.prog 84=some true:=by kernel_rfl
theorem qhj:qal Tryz.prog 84=some (AVal.agg [AVal.int IntKind.i64 0,AVal.str [],AVal.int IntKind.i64 0,AVal.int IntKind.i64 0,AVal.int IntKind.i64 0]):=by kernel_rfl
theorem qli:bok Tryz.prog 84=true:=by kernel_rfl
theorem fp_84_0:qam Tryz.prog 84 0=some (0,3):=by kernel_rfl
theorem qlj:qbj Tryz.prog 84 0=some (0,1):=by kernel_rfl
theorem fp_84_1:qam Tryz.prog 84 1=some (1,9):=by kernel_rfl
theorem qlk:qbj Tryz.prog 84 1=some (1,1):=by kernel_rfl
theorem qll:qbj Tryz.prog 84 2=some (2,1):=by kernel_rfl
theorem fp_84_3:qam Tryz.prog 84 3=some (3,3):=by kernel_rfl
theorem qlm:qbj Tryz.prog 84 3=some (3,1):=by kernel_rfl
theorem fp_84_4:qam Tryz.prog 84 4=some (4,3):=by kernel_rfl
theorem qln:qbj Tryz.prog 84 4=some (4,1):=by kernel_rfl
theorem sz_108:qai Tryz.prog 108=some 1:=by kernel_rfl
theorem by_108:qaz Tryz.prog 108=some 8:=by kernel_rfl
theorem ag_108:aggA Tryz.prog 108=some false:=by kernel_rfl
theorem ze_108:qal Tryz.prog 108=some AVal.nilf:=by kernel_rfl
theorem un_108:Tryz.prog.underlying 108=some (TypeDesc.func { toList:=[37] } { toList:=[37] } false):=by kernel_rfl
theorem sz_171:qai Tryz.prog 171=some 1:=by kernel_rfl
theorem by_171:qaz Tryz.prog 171=some 8:=by kernel_rfl
theorem ag_171:aggA Tryz.prog 171=some false:=by kernel_rfl
theorem ze_171:qal Tryz.prog 171=some AVal.nilp:=by kernel_rfl
theorem un_171:Tryz.prog.underlying 171=some (TypeDesc.pointer 173):=by kernel_rfl
theorem qno:qai Tryz.prog 173=some 4:=by kernel_rfl
theorem qnp:qaz Tryz.prog 173=some 40:=by kernel_rfl
theorem qnq:aggA Tryz.prog 173=some true:=by kernel_rfl
theorem qh4:qal Tryz.prog 173=some (AVal.agg [AVal.str [],AVal.int IntKind.i64 0,AVal.int IntKind.i64 0,AVal.int IntKind.i64 0]):=by kernel_rfl
theorem bo_173:bok Tryz.prog 173=true:=by kernel_rfl
theorem qqs:qam Tryz.prog 173 0=some (0,9):=by kernel_rfl
theorem bp_173_0:qbj Tryz.prog 173 0=some (0,1):=by kernel_rfl
theorem qmo:qam Tryz.prog 173 1=some (1,3):=by kernel_rfl
theorem bp_173_1:qbj Tryz.prog 173 1=some (1,1):=by kernel_rfl
theorem qmp:qam Tryz.prog 173 2=some (2,3):=by kernel_rfl
theorem bp_173_2:qbj Tryz.prog 173 2=some (2,1):=by kernel_rfl
theorem qmq:qam Tryz.prog 173 3=some (3,3):=by kernel_rfl
theorem bp_173_3:qbj Tryz.prog 173 3=some (3,1):=by kernel_rfl
theorem sz_184:qai Tryz.prog 184=some 1:=by kernel_rfl
theorem by_184:qaz Tryz.prog 184=some 8:=by kernel_rfl
theorem ag_184:aggA Tryz.prog 184=some false:=by kernel_rfl
theorem ze_184:qal Tryz.prog 184=some AVal.nilf:=by kernel_rfl
theorem un_184:Tryz.prog.underlying 184=some (TypeDesc.func { toList:=[5] } { toList:=[4] } false):=by kernel_rfl
theorem sz_195:qai Tryz.prog 195=some 1:=by kernel_rfl
theorem by_195:qaz Tryz.prog 195=some 16:=by kernel_rfl
theorem ag_195:aggA Tryz.prog 195=some false:=by kernel_rfl
theorem ze_195:qal Tryz.prog 195=some AVal.nili:=by kernel_rfl
theorem un_195:Tryz.prog.underlying 195=some (TypeDesc.interface { toList:=[("Error",98)] }):=by kernel_rfl
theorem sz_237:qai Tryz.prog 237=some 18:=by kernel_rfl
theorem by_237:qaz Tryz.prog 237=some 288:=by kernel_rfl
theorem ag_237:aggA Tryz.prog 237=some true:=by kernel_rfl
theorem ze_237:qal Tryz.prog 237=some (AVal.agg [AVal.str [],AVal.str [],AVal.str [],AVal.str [],AVal.str [],AVal.str [],AVal.str [],AVal.str [],AVal.str [],AVal.str [],AVal.str [],AVal.str [],AVal.str [],AVal.str [],AVal.str [],AVal.str [],AVal.str [],AVal.str []]):=by kernel_rfl
theorem un_237:Tryz.prog.underlying 237=some (TypeDesc.array 18 9):=by kernel_rfl
end Go.Ab.Tab
namespace Go.Ab.Tab
variable {cmp:List TypeId} {call:Call} {dst:Option Tmp} {ty:TypeId} {pos:String} {after:Array Edge} {gd:Option (Nat×Bool)} {ts:List AVal} {h:qaa}
theorem bd_173 (ps:Array (Nat×Operand)):type_of% (qdz Tryz.prog cmp call dst ty pos after gd ts h 173 ps _ qh4 bo_173):=qdz Tryz.prog cmp call dst ty pos after gd ts h 173 ps _ qh4 bo_173
theorem bd_29 (ps:Array (Nat×Operand)):type_of% (qdz Tryz.prog cmp call dst ty pos after gd ts h 29 ps _ ze_29 bo_29):=qdz Tryz.prog cmp call dst ty pos after gd ts h 29 ps _ ze_29 bo_29
theorem bd_37 (ps:Array (Nat×Operand)):type_of% (qdz Tryz.prog cmp call dst ty pos after gd ts h 37 ps _ qej bo_37):=qdz Tryz.prog cmp call dst ty pos after gd ts h 37 ps _ qej bo_37
theorem bd_84 (ps:Array (Nat×Operand)):type_of% (qdz Tryz.prog cmp call dst ty pos after gd ts h 84 ps _ qhj qli):=qdz Tryz.prog cmp call dst ty pos after gd ts h 84 ps _ qhj qli
theorem ao_34:qfp Tryz.prog 34 9 1:=⟨qf9,sz_9,0,_,_,rfl,by_9,ze_9,rfl⟩
theorem qe7:qfp Tryz.prog 35 37 5:=⟨qi2,qfq,4,_,_,rfl,qfr,qej,rfl⟩
theorem an_35 {h:qaa}:type_of% (@qk6 Tryz.prog 35 h _ _ qe7):=@qk6 Tryz.prog 35 h _ _ qe7
theorem af_35 {h:qaa}:type_of% (@qg0 Tryz.prog 35 h _ _ qe7):=@qg0 Tryz.prog 35 h _ _ qe7
theorem aw_35 {h:qaa}:type_of% (@qh3 Tryz.prog 35 h _ _ qe7):=@qh3 Tryz.prog 35 h _ _ qe7
theorem qfs:qfp Tryz.prog 77 84 5:=⟨el_77,qlg,4,_,_,rfl,qlh,qhj,rfl⟩
theorem an_77 {h:qaa}:type_of% (@qk6 Tryz.prog 77 h _ _ qfs):=@qk6 Tryz.prog 77 h _ _ qfs
theorem af_77 {h:qaa}:type_of% (@qg0 Tryz.prog 77 h _ _ qfs):=@qg0 Tryz.prog 77 h _ _ qfs
theorem aw_77 {h:qaa}:type_of% (@qh3 Tryz.prog 77 h _ _ qfs):=@qh3 Tryz.prog 77 h _ _ qfs
abbrev fx_11:=Ji (Ji (Ji (Ji @ag_3 @qga) (Ji @ag_4 @ag_9)) (Ji (Ji @by_3 @qfr) (Ji @by_4 (Ji @by_9 @sz_3)))) (Ji (Ji (Ji @qfq @sz_4) (Ji @sz_9 (Ji @un_3 @un_4))) (Ji (Ji @un_9 @ze_3) (Ji @qej (Ji @ze_4 @ze_9))))
theorem bs_34_1 (o0:Operand):opA Tryz.prog cmp call ⟨dst,.buildSlice 34 1 #[(0,o0)],ty,pos,after,gd⟩ ts h=bnd (qao ts [o0]) rowV:=bs1 ao_34 _ (by rw[ze_9];rfl) cmp call dst ty pos after gd ts h 1 _ (by decide) rfl rfl
abbrev qgb:=Ji (Ji (Ji (Ji (Ji @ag_0 (Ji @ag_1 @ag_2)) (Ji @ag_3 (Ji @qhg @qlb))) (Ji (Ji @qga (Ji @ag_4 @ag_9)) (Ji @by_0 (Ji @by_1 @by_2)))) (Ji (Ji (Ji @by_3 (Ji @qhf @qla)) (Ji @qfr (Ji @by_4 @by_9))) (Ji (Ji @qf9 (Ji @qi2 @qle)) (Ji (Ji @fp_37_1 @fp_37_2) (Ji @qlf @qgi))))) (Ji (Ji (Ji (Ji @sz_0 (Ji @sz_1 @sz_2)) (Ji @sz_3 (Ji @qhe @qk9))) (Ji (Ji @qfq (Ji @sz_4 @sz_9)) (Ji @un_1 (Ji @un_2 @un_3)))) (Ji (Ji (Ji @qhi (Ji @qld @un_4)) (Ji @un_9 (Ji @ze_0 @ze_1))) (Ji (Ji @ze_2 (Ji @ze_3 @qhh)) (Ji (Ji @qlc @qej) (Ji @ze_4 @ze_9)))))
abbrev fx_25:=Ji (Ji (Ji (Ji @ag_3 @qlb) (Ji @qga (Ji @ag_4 @by_3))) (Ji (Ji @qla @qfr) (Ji @by_4 (Ji @qi2 @qgi)))) (Ji (Ji (Ji @sz_3 @qk9) (Ji @qfq (Ji @sz_4 @un_3))) (Ji (Ji @qld (Ji @un_4 @ze_3)) (Ji @qlc (Ji @qej @ze_4))))
abbrev fx_28:=Ji (Ji (Ji (Ji (Ji (Ji @ag_0 @ag_1) (Ji @ag_24 @ag_26)) (Ji (Ji @ag_29 @ag_3) (Ji @qga @ag_4))) (Ji (Ji (Ji @ag_58 @ag_60) (Ji @ag_62 @ag_65)) (Ji (Ji @ag_9 @bo_29) (Ji @bp_29_0 (Ji @bp_29_1 @bp_29_2))))) (Ji (Ji (Ji (Ji @by_0 @by_1) (Ji @by_24 @by_26)) (Ji (Ji @by_29 @by_3) (Ji @qfr @by_4))) (Ji (Ji (Ji @by_58 @by_60) (Ji @by_62 @by_65)) (Ji (Ji @by_9 @el_24) (Ji @el_58 (Ji @fp_26_1 @fp_60_4)))))) (Ji (Ji (Ji (Ji (Ji @fp_62_1 @fp_65_0) (Ji @sz_0 @sz_1)) (Ji (Ji @sz_24 @sz_26) (Ji @sz_29 @sz_3))) (Ji (Ji (Ji @qfq @sz_4) (Ji @sz_58 @sz_60)) (Ji (Ji @sz_62 @sz_65) (Ji @sz_9 (Ji @un_1 @un_24))))) (Ji (Ji (Ji (Ji @un_3 @un_4) (Ji @un_58 @un_9)) (Ji (Ji @ze_0 @ze_1) (Ji @ze_24 (Ji @ze_26 @ze_29)))) (Ji (Ji (Ji @ze_3 @qej) (Ji @ze_4 @ze_58)) (Ji (Ji @ze_60 @ze_62) (Ji @ze_65 (Ji @ze_9 @bd_29))))))
theorem qob (t0:Tmp):type_of% (qk7 qe7 cmp call dst ty pos after gd ts h 1 #[(0,.tmp t0)] (by decide) rfl):=qk7 qe7 cmp call dst ty pos after gd ts h 1 #[(0,.tmp t0)] (by decide) rfl
abbrev fx_31:=Ji (Ji (Ji (Ji (Ji @ag_0 (Ji @ag_1 @ag_108)) (Ji (Ji @ag_3 @qhg) (Ji @qlb @qga))) (Ji (Ji (Ji @ag_4 @ag_9) (Ji @bo_37 @bp_37_0)) (Ji (Ji @bp_37_1 @bp_37_2) (Ji @bp_37_3 @bp_37_4)))) (Ji (Ji (Ji @by_0 (Ji @by_1 @by_108)) (Ji (Ji @by_3 @qhf) (Ji @qla @qfr))) (Ji (Ji (Ji @by_4 @by_9) (Ji @qf9 @qi2)) (Ji (Ji @qle @qlf) (Ji @qgi @sz_0))))) (Ji (Ji (Ji (Ji @sz_1 (Ji @sz_108 @sz_3)) (Ji (Ji @qhe @qk9) (Ji @qfq @sz_4))) (Ji (Ji (Ji @sz_9 @un_1) (Ji @un_108 @un_3)) (Ji (Ji @qhi @qld) (Ji @un_4 @un_9)))) (Ji (Ji (Ji @ze_0 (Ji @ze_1 @ze_108)) (Ji (Ji @ze_3 @qhh) (Ji @qlc @qej))) (Ji (Ji (Ji @ze_4 @ze_9) (Ji @af_35 @an_35)) (Ji (Ji @aw_35 @bd_37) (Ji @bs_34_1 @qob)))))
abbrev fx_32:=Ji (Ji (Ji (Ji (Ji @ag_0 (Ji @ag_1 @ag_2)) (Ji (Ji @ag_3 @qhg) (Ji @qlb @qga))) (Ji (Ji (Ji @ag_4 @ag_9) (Ji @bo_37 @bp_37_0)) (Ji (Ji @bp_37_1 @bp_37_2) (Ji @bp_37_3 @bp_37_4)))) (Ji (Ji (Ji (Ji @by_0 @by_1) (Ji @by_2 @by_3)) (Ji (Ji @qhf @qla) (Ji @qfr @by_4))) (Ji (Ji (Ji @by_9 @qf9) (Ji @qi2 @qle)) (Ji (Ji @fp_37_1 @fp_37_2) (Ji @qlf @qgi))))) (Ji (Ji (Ji (Ji @sz_0 (Ji @sz_1 @sz_2)) (Ji (Ji @sz_3 @qhe) (Ji @qk9 @qfq))) (Ji (Ji (Ji @sz_4 @sz_9) (Ji @un_1 @un_2)) (Ji (Ji @un_3 @qhi) (Ji @qld @un_4)))) (Ji (Ji (Ji (Ji @un_9 @ze_0) (Ji @ze_1 @ze_2)) (Ji (Ji @ze_3 @qhh) (Ji @qlc @qej))) (Ji (Ji (Ji @ze_4 @ze_9) (Ji @af_35 @an_35)) (Ji (Ji @aw_35 @bd_37) (Ji @bs_34_1 @qob)))))
abbrev fx_33:=Ji (Ji (Ji (Ji @ag_0 (Ji @ag_3 @qlb)) (Ji @qga (Ji @ag_4 @by_0))) (Ji (Ji @by_3 (Ji @qla @qfr)) (Ji (Ji @by_4 @qi2) (Ji @qle @qgi)))) (Ji (Ji (Ji @sz_0 (Ji @sz_3 @qk9)) (Ji @qfq (Ji @sz_4 @un_3))) (Ji (Ji @qld (Ji @un_4 @ze_0)) (Ji (Ji @ze_3 @qlc) (Ji @qej @ze_4))))
theorem bs_77_1 (t0:Tmp):type_of% (qk7 qfs cmp call dst ty pos after gd ts h 1 #[(0,.tmp t0)] (by decide) rfl):=qk7 qfs cmp call dst ty pos after gd ts h 1 #[(0,.tmp t0)] (by decide) rfl
abbrev fx_46:=Ji (Ji (Ji (Ji @ag_3 @qhg) (Ji @ag_9 @by_3)) (Ji (Ji @qhf @by_9) (Ji @qf9 @sz_3))) (Ji (Ji (Ji @qhe @sz_9) (Ji @un_3 @qhi)) (Ji (Ji @un_9 @ze_3) (Ji @qhh @ze_9)))
abbrev fx_67:=Ji (Ji (Ji (Ji (Ji @ag_1 @ag_108) (Ji @ag_3 (Ji @qhg @qlb))) (Ji (Ji @qga (Ji @ag_4 @ag_9)) (Ji @by_1 (Ji @by_108 @by_3)))) (Ji (Ji (Ji @qhf (Ji @qla @qfr)) (Ji @by_4 (Ji @by_9 @qf9))) (Ji (Ji @qi2 (Ji @qlf @qgi)) (Ji @sz_1 (Ji @sz_108 @sz_3))))) (Ji (Ji (Ji (Ji @qhe (Ji @qk9 @qfq)) (Ji @sz_4 (Ji @sz_9 @un_1))) (Ji (Ji @un_108 (Ji @un_3 @qhi)) (Ji @qld (Ji @un_4 @un_9)))) (Ji (Ji (Ji @ze_1 (Ji @ze_108 @ze_3)) (Ji @qhh (Ji @qlc @qej))) (Ji (Ji @ze_4 (Ji @ze_9 @af_35)) (Ji @an_35 (Ji @aw_35 @qob)))))
abbrev fx_68:=Ji (Ji @qga @qfr) (Ji @qfq @qej)
abbrev fx_73:=Ji (Ji (Ji (Ji (Ji (Ji @ag_0 @ag_1) (Ji @ag_171 @qnq)) (Ji (Ji @ag_2 @ag_29) (Ji @ag_3 (Ji @ag_4 @ag_77)))) (Ji (Ji (Ji @ag_84 @ag_9) (Ji @bo_173 (Ji @bo_29 @qli))) (Ji (Ji @bp_173_0 @bp_173_1) (Ji @bp_173_2 (Ji @bp_173_3 @bp_29_0))))) (Ji (Ji (Ji (Ji @bp_29_1 @bp_29_2) (Ji @qlj (Ji @qlk @qll))) (Ji (Ji @qlm @qln) (Ji @by_0 (Ji @by_1 @by_171)))) (Ji (Ji (Ji @qnp @by_2) (Ji @by_29 (Ji @by_3 @by_4))) (Ji (Ji @by_77 @qlh) (Ji @by_9 (Ji @el_77 @qmo)))))) (Ji (Ji (Ji (Ji (Ji @qmp @qmq) (Ji @fp_84_1 @sz_0)) (Ji (Ji @sz_1 @sz_171) (Ji @qno (Ji @sz_2 @sz_29)))) (Ji (Ji (Ji @sz_3 @sz_4) (Ji @sz_77 (Ji @qlg @sz_9))) (Ji (Ji @un_1 @un_171) (Ji @un_2 (Ji @un_3 @un_4))))) (Ji (Ji (Ji (Ji @un_77 @un_9) (Ji @ze_0 (Ji @ze_1 @ze_171))) (Ji (Ji @qh4 @ze_2) (Ji @ze_29 (Ji @ze_3 @ze_4)))) (Ji (Ji (Ji @ze_77 @qhj) (Ji @ze_9 (Ji @af_77 @an_77))) (Ji (Ji @aw_77 @bd_173) (Ji @bd_29 (Ji @bd_84 @bs_77_1))))))
abbrev qke:=Ji (Ji (Ji (Ji @ag_171 @ag_184) (Ji @ag_3 (Ji @ag_9 @by_171))) (Ji (Ji @by_184 @by_3) (Ji @by_9 (Ji @sz_171 @sz_184)))) (Ji (Ji (Ji @sz_3 @sz_9) (Ji @un_171 (Ji @un_184 @un_3))) (Ji (Ji @un_9 @ze_171) (Ji @ze_184 (Ji @ze_3 @ze_9))))
abbrev qnr:=Ji (Ji (Ji (Ji (Ji @ag_0 (Ji @ag_1 @ag_171)) (Ji @qnq (Ji @ag_2 @ag_3))) (Ji (Ji @ag_4 (Ji @ag_5 @ag_84)) (Ji @ag_9 (Ji @by_0 @by_1)))) (Ji (Ji (Ji @by_171 (Ji @qnp @by_2)) (Ji @by_3 (Ji @by_4 @by_5))) (Ji (Ji @qlh (Ji @by_9 @qmp)) (Ji (Ji @qmq @fp_84_3) (Ji @fp_84_4 @sz_0))))) (Ji (Ji (Ji (Ji @sz_1 (Ji @sz_171 @qno)) (Ji @sz_2 (Ji @sz_3 @sz_4))) (Ji (Ji @sz_5 (Ji @qlg @sz_9)) (Ji (Ji @un_1 @un_171) (Ji @un_2 @un_3)))) (Ji (Ji (Ji @un_4 (Ji @un_5 @un_9)) (Ji @ze_0 (Ji @ze_1 @ze_171))) (Ji (Ji @qh4 (Ji @ze_2 @ze_3)) (Ji (Ji @ze_4 @ze_5) (Ji @qhj @ze_9)))))
abbrev qns:=Ji (Ji (Ji (Ji (Ji @ag_0 @ag_1) (Ji @qnq @ag_2)) (Ji (Ji @ag_3 @ag_5) (Ji @ag_9 (Ji @by_0 @by_1)))) (Ji (Ji (Ji @qnp @by_2) (Ji @by_3 @by_5)) (Ji (Ji @by_9 @qqs) (Ji @qmo (Ji @qmp @qmq))))) (Ji (Ji (Ji (Ji @sz_0 @sz_1) (Ji @qno @sz_2)) (Ji (Ji @sz_3 @sz_5) (Ji @sz_9 (Ji @un_1 @un_2)))) (Ji (Ji (Ji @un_3 @un_5) (Ji @un_9 (Ji @ze_0 @ze_1))) (Ji (Ji @qh4 @ze_2) (Ji @ze_3 (Ji @ze_5 @ze_9)))))
abbrev fx_186:=Ji (Ji (Ji (Ji @ag_0 (Ji @ag_1 @qnq)) (Ji @ag_3 (Ji @ag_9 @by_0))) (Ji (Ji @by_1 (Ji @qnp @by_3)) (Ji @by_9 (Ji @qqs @qmo)))) (Ji (Ji (Ji @sz_0 (Ji @sz_1 @qno)) (Ji @sz_3 (Ji @sz_9 @un_1))) (Ji (Ji @un_3 (Ji @un_9 @ze_0)) (Ji (Ji @ze_1 @qh4) (Ji @ze_3 @ze_9))))
abbrev qnt:=Ji (Ji (Ji (Ji @ag_3 @ag_4) (Ji @ag_5 (Ji @ag_9 @by_3))) (Ji (Ji @by_4 @by_5) (Ji @by_9 (Ji @sz_3 @sz_4)))) (Ji (Ji (Ji @sz_5 @sz_9) (Ji @un_3 (Ji @un_4 @un_5))) (Ji (Ji @un_9 @ze_3) (Ji @ze_4 (Ji @ze_5 @ze_9))))
abbrev qkf:=Ji (Ji @ag_5 @by_5) (Ji @sz_5 (Ji @un_5 @ze_5))
abbrev fx_189:=Ji (Ji @ag_9 @by_9) (Ji @sz_9 (Ji @un_9 @ze_9))
abbrev fx_190:=Ji (Ji @ag_5 @by_5) (Ji @sz_5 (Ji @un_5 @ze_5))
abbrev qh5:=Ji (Ji (Ji (Ji @ag_237 (Ji @ag_3 @ag_84)) (Ji @ag_9 (Ji @qli @qlj))) (Ji (Ji @qlk (Ji @qll @qlm)) (Ji (Ji @qln @by_237) (Ji @by_3 @qlh)))) (Ji (Ji (Ji @by_9 (Ji @sz_237 @sz_3)) (Ji @qlg (Ji @sz_9 @un_237))) (Ji (Ji @un_3 (Ji @un_9 @ze_237)) (Ji (Ji @ze_3 @qhj) (Ji @ze_9 @bd_84))))
abbrev fx_192:=Ji (Ji @ag_5 @by_5) (Ji @sz_5 (Ji @un_5 @ze_5))
abbrev qkg:=Ji (Ji (Ji (Ji (Ji @ag_0 @ag_1) (Ji @ag_184 (Ji @ag_195 @ag_3))) (Ji (Ji @ag_5 (Ji @ag_84 @ag_9)) (Ji @qli (Ji @qlj @qlk)))) (Ji (Ji (Ji @qll @qlm) (Ji @qln (Ji @by_0 @by_1))) (Ji (Ji @by_184 (Ji @by_195 @by_3)) (Ji @by_5 (Ji @qlh @by_9))))) (Ji (Ji (Ji (Ji @sz_0 @sz_1) (Ji @sz_184 (Ji @sz_195 @sz_3))) (Ji (Ji @sz_5 (Ji @qlg @sz_9)) (Ji @un_1 (Ji @un_184 @un_195)))) (Ji (Ji (Ji @un_3 (Ji @un_5 @un_9)) (Ji @ze_0 (Ji @ze_1 @ze_184))) (Ji (Ji @ze_195 (Ji @ze_3 @ze_5)) (Ji @qhj (Ji @ze_9 @bd_84)))))
abbrev fx_194:=Ji (Ji @ag_5 @by_5) (Ji @sz_5 (Ji @un_5 @ze_5))
abbrev fx_195:=Ji (Ji @ag_5 @by_5) (Ji @sz_5 (Ji @un_5 @ze_5))
abbrev fx_196:=Ji (Ji (Ji (Ji (Ji @ag_0 @ag_184) (Ji @ag_3 @ag_5)) (Ji (Ji @ag_84 @ag_9) (Ji @qli (Ji @qlj @qlk)))) (Ji (Ji (Ji @qll @qlm) (Ji @qln @by_0)) (Ji (Ji @by_184 @by_3) (Ji @by_5 (Ji @qlh @by_9))))) (Ji (Ji (Ji (Ji @fp_84_0 @sz_0) (Ji @sz_184 @sz_3)) (Ji (Ji @sz_5 @qlg) (Ji @sz_9 (Ji @un_184 @un_3)))) (Ji (Ji (Ji @un_5 @un_9) (Ji @ze_0 @ze_184)) (Ji (Ji @ze_3 @ze_5) (Ji @qhj (Ji @ze_9 @bd_84)))))
abbrev fx_230:=Ji (Ji (Ji (Ji @ag_3 @qhg) (Ji @ag_9 @by_3)) (Ji (Ji @qhf @by_9) (Ji @qf9 @sz_3))) (Ji (Ji (Ji @qhe @sz_9) (Ji @un_3 @qhi)) (Ji (Ji @un_9 @ze_3) (Ji @qhh @ze_9)))
abbrev fx_234:=Ji (Ji (Ji @ag_3 @ag_9) (Ji @by_3 (Ji @by_9 @sz_3))) (Ji (Ji @sz_9 @un_3) (Ji @un_9 (Ji @ze_3 @ze_9)))
abbrev fx_237:=Ji (Ji @ag_5 @by_5) (Ji @sz_5 (Ji @un_5 @ze_5))
abbrev fx_238:=Ji (Ji (Ji @qhg @ag_9) (Ji @qhf (Ji @by_9 @qf9))) (Ji (Ji @qhe (Ji @sz_9 @qhi)) (Ji @un_9 (Ji @qhh @ze_9)))
abbrev fx_260:=Ji (Ji (Ji (Ji @ag_3 @qhg) (Ji @ag_9 @by_3)) (Ji (Ji @qhf @by_9) (Ji @qf9 @sz_3))) (Ji (Ji (Ji @qhe @sz_9) (Ji @un_3 @qhi)) (Ji (Ji @un_9 @ze_3) (Ji @qhh @ze_9)))
end Go.Ab.Tab
