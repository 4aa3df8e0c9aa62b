/- The tables' facts, for each function together. -/
import Derived.Test.YtlfollkhlephmaaGreatDoorAbSim
import Derived.Test.YtlfollkhlephmaaGreatDoorProg
import Derived.KernelRfl
import Derived.Test.YtlfollkhlephmaaGreatDoorAbEqs
set_option linter.unusedSimpArgs false
set_option linter.unusedVariables false
set_option maxRecDepth 100000
set_option maxHeartbeats 4000000
open Go.Proofs
namespace Go.Ab.Tab
theorem sz_0:qah Tryz.prog 0=some 1:=by kernel_rfl
theorem by_0:qbj Tryz.prog 0=some 0:=by kernel_rfl
theorem ag_0:aggA Tryz.prog 0=some false:=by kernel_rfl
theorem ze_0:qap Tryz.prog 0=some (AVal.tuple []):=by kernel_rfl
theorem sz_1:qah Tryz.prog 1=some 1:=by kernel_rfl
theorem by_1:qbj Tryz.prog 1=some 8:=by kernel_rfl
theorem ag_1:aggA Tryz.prog 1=some false:=by kernel_rfl
theorem ze_1:qap Tryz.prog 1=some AVal.nilf:=by kernel_rfl
theorem un_1:Tryz.prog.underlying 1=some (TypeDesc.func { toList:=[] } { toList:=[] } false):=by kernel_rfl
theorem sz_3:qah Tryz.prog 3=some 1:=by kernel_rfl
theorem by_3:qbj Tryz.prog 3=some 8:=by kernel_rfl
theorem ag_3:aggA Tryz.prog 3=some false:=by kernel_rfl
theorem ze_3:qap Tryz.prog 3=some (AVal.int IntKind.i64 0):=by kernel_rfl
theorem un_3:Tryz.prog.underlying 3=some (TypeDesc.int IntKind.i64):=by kernel_rfl
theorem sz_9:qah Tryz.prog 9=some 1:=by kernel_rfl
theorem by_9:qbj Tryz.prog 9=some 16:=by kernel_rfl
theorem ag_9:aggA Tryz.prog 9=some false:=by kernel_rfl
theorem ze_9:qap Tryz.prog 9=some (AVal.str []):=by kernel_rfl
theorem un_9:Tryz.prog.underlying 9=some (TypeDesc.string):=by kernel_rfl
theorem sz_22:qah Tryz.prog 22=some 1:=by kernel_rfl
theorem by_22:qbj Tryz.prog 22=some 8:=by kernel_rfl
theorem ag_22:aggA Tryz.prog 22=some false:=by kernel_rfl
theorem ze_22:qap Tryz.prog 22=some (AVal.int IntKind.i64 0):=by kernel_rfl
theorem un_22:Tryz.prog.underlying 22=some (TypeDesc.int IntKind.i64):=by kernel_rfl
theorem sz_23:qah Tryz.prog 23=some 1:=by kernel_rfl
theorem by_23:qbj Tryz.prog 23=some 24:=by kernel_rfl
theorem ag_23:aggA Tryz.prog 23=some false:=by kernel_rfl
theorem ze_23:qap Tryz.prog 23=some (AVal.slice [] Go.Ab.Tk.full):=by kernel_rfl
theorem un_23:Tryz.prog.underlying 23=some (TypeDesc.slice 22):=by kernel_rfl
theorem el_23:qc2 Tryz.prog 23=some 22:=by kernel_rfl
theorem sz_39:qah Tryz.prog 39=some 2:=by kernel_rfl
theorem by_39:qbj Tryz.prog 39=some 48:=by kernel_rfl
theorem ag_39:aggA Tryz.prog 39=some true:=by kernel_rfl
theorem ze_39:qap Tryz.prog 39=some (AVal.agg [AVal.slice [] Go.Ab.Tk.full,AVal.slice [] Go.Ab.Tk.full]):=by kernel_rfl
theorem sz_42:qah Tryz.prog 42=some 3:=by kernel_rfl
theorem by_42:qbj Tryz.prog 42=some 24:=by kernel_rfl
theorem ag_42:aggA Tryz.prog 42=some true:=by kernel_rfl
theorem ze_42:qap Tryz.prog 42=some (AVal.agg [AVal.int IntKind.i64 0,AVal.int IntKind.i64 0,AVal.int IntKind.i64 0]):=by kernel_rfl
theorem bo_42:bok Tryz.prog 42=true:=by kernel_rfl
theorem bp_42_0:qfd Tryz.prog 42 0=some (0,1):=by kernel_rfl
theorem bp_42_1:qfd Tryz.prog 42 1=some (1,1):=by kernel_rfl
theorem bp_42_2:qfd Tryz.prog 42 2=some (2,1):=by kernel_rfl
theorem sz_45:qah Tryz.prog 45=some 1:=by kernel_rfl
theorem by_45:qbj Tryz.prog 45=some 24:=by kernel_rfl
theorem ag_45:aggA Tryz.prog 45=some false:=by kernel_rfl
theorem ze_45:qap Tryz.prog 45=some (AVal.slice [] Go.Ab.Tk.full):=by kernel_rfl
theorem un_45:Tryz.prog.underlying 45=some (TypeDesc.slice 54):=by kernel_rfl
theorem el_45:qc2 Tryz.prog 45=some 54:=by kernel_rfl
theorem sz_51:qah Tryz.prog 51=some 3:=by kernel_rfl
theorem by_51:qbj Tryz.prog 51=some 72:=by kernel_rfl
theorem ag_51:aggA Tryz.prog 51=some true:=by kernel_rfl
theorem ze_51:qap Tryz.prog 51=some (AVal.agg [AVal.slice [] Go.Ab.Tk.full,AVal.slice [] Go.Ab.Tk.full,AVal.slice [] Go.Ab.Tk.full]):=by kernel_rfl
theorem sz_54:qah Tryz.prog 54=some 4:=by kernel_rfl
theorem by_54:qbj Tryz.prog 54=some 96:=by kernel_rfl
theorem ag_54:aggA Tryz.prog 54=some true:=by kernel_rfl
theorem ze_54:qap Tryz.prog 54=some (AVal.agg [AVal.slice [] Go.Ab.Tk.full,AVal.slice [] Go.Ab.Tk.full,AVal.slice [] Go.Ab.Tk.full,AVal.slice [] Go.Ab.Tk.full]):=by kernel_rfl
theorem fp_54_0:qa4 Tryz.prog 54 0=some (0,51):=by kernel_rfl
end Go.Ab.Tab
namespace Go.Ab.Tab
variable {cmp:List TypeId} {call:Call} {dst:Option Tmp} {ty:TypeId} {pos:String} {after:Array Edge} {gd:Option (Nat×Bool)} {ts:List AVal} {h:qaa}
theorem bd_42 (ps:Array (Nat×Operand)):type_of% (qnu Tryz.prog cmp call dst ty pos after gd ts h 42 ps _ ze_42 bo_42):=qnu Tryz.prog cmp call dst ty pos after gd ts h 42 ps _ ze_42 bo_42
abbrev fx_3:=Ji (Ji (Ji @ag_22 @ag_23) (Ji @by_22 (Ji @by_23 @el_23))) (Ji (Ji @sz_22 (Ji @sz_23 @un_22)) (Ji @un_23 (Ji @ze_22 @ze_23)))
abbrev fx_6:=Ji (Ji (Ji (Ji (Ji @ag_0 (Ji @ag_1 @ag_22)) (Ji @ag_3 (Ji @ag_39 @ag_42))) (Ji (Ji @ag_45 (Ji @ag_51 @ag_54)) (Ji (Ji @ag_9 @bo_42) (Ji @bp_42_0 @bp_42_1)))) (Ji (Ji (Ji @bp_42_2 (Ji @by_0 @by_1)) (Ji @by_22 (Ji @by_3 @by_39))) (Ji (Ji @by_42 (Ji @by_45 @by_51)) (Ji (Ji @by_54 @by_9) (Ji @el_45 @fp_54_0))))) (Ji (Ji (Ji (Ji @sz_0 (Ji @sz_1 @sz_22)) (Ji @sz_3 (Ji @sz_39 @sz_42))) (Ji (Ji @sz_45 (Ji @sz_51 @sz_54)) (Ji (Ji @sz_9 @un_1) (Ji @un_22 @un_3)))) (Ji (Ji (Ji @un_45 (Ji @un_9 @ze_0)) (Ji @ze_1 (Ji @ze_22 @ze_3))) (Ji (Ji @ze_39 (Ji @ze_42 @ze_45)) (Ji (Ji @ze_51 @ze_54) (Ji @ze_9 @bd_42)))))
abbrev fx_7:=Ji (Ji (Ji (Ji @ag_22 @ag_23) (Ji @ag_3 @by_22)) (Ji (Ji @by_23 @by_3) (Ji @el_23 @sz_22))) (Ji (Ji (Ji @sz_23 @sz_3) (Ji @un_22 @un_23)) (Ji (Ji @un_3 @ze_22) (Ji @ze_23 @ze_3)))
abbrev fx_8:=Ji (Ji (Ji (Ji @ag_22 @ag_23) (Ji @ag_3 @by_22)) (Ji (Ji @by_23 @by_3) (Ji @el_23 @sz_22))) (Ji (Ji (Ji @sz_23 @sz_3) (Ji @un_22 @un_23)) (Ji (Ji @un_3 @ze_22) (Ji @ze_23 @ze_3)))
end Go.Ab.Tab
