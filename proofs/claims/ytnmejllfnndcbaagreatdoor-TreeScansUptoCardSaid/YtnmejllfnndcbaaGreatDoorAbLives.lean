/- The layer's own trial run is true. -/
import Derived.Test.YtnmejllfnndcbaaGreatDoorAbBase
set_option linter.unusedSimpArgs false
set_option linter.unusedVariables false
namespace Go.Ab
set_option maxRecDepth 100000
theorem lives0 : evN PP cmp0 ext0 100 10 [] [] = some (.ret (.bool true) .same) := by kernel_rfl
theorem lives_ret : Ret C 10 [] (.bool true) := Ret.mk rfl rfl (C_of lives0)
end Go.Ab
