/- Which programs may be. -/
import Derived.Test.YtngklkmeknmloaaGreatDoorAbEffB
import Derived.Test.YtngklkmeknmloaaGreatDoorAbOf
import Derived.Test.YtngklkmeknmloaaGreatDoorAbReadT
set_option linter.unusedSimpArgs false
set_option linter.unusedVariables false
set_option maxRecDepth 100000
set_option maxHeartbeats 4000000
namespace Go.Ab
open Go Go.Ab.Tab
theorem PItem.get_names (x:PItem):x.cells[0]? =some (qah x.eq.names):=by unfold PItem.cells PEq.cells;rfl
theorem PItem.sub_e (x:PItem):List.take 5 (List.drop 1 x.cells)=x.eq.e.cells:=by
 unfold PItem.cells PEq.cells;exact x.eq.e.takeA _
end Go.Ab
namespace Go.Ab
open Go Go.Ab.Tab
theorem PExpr.Rng.n {e:PExpr} (h:e.Rng):qft e.n:=by cases h;assumption
theorem PExpr.Rng.kids {e:PExpr} (h:e.Rng):∀k∈e.kids,k.Rng:=by cases h;assumption
end Go.Ab
