/- The reference: the same items, the same programs. -/
import Derived.Test.YtngklkmeknmloaaGreatDoorAbTypes
import Derived.Test.YtngklkmeknmloaaGreatDoorAbEach
set_option linter.unusedSimpArgs false
set_option linter.unusedVariables false
set_option maxRecDepth 100000
set_option maxHeartbeats 4000000
namespace Go.Ab
open Go Go.Ab.Tab
end Go.Ab
namespace Go.Ab
open Go Go.Ab.Tab
end Go.Ab
