/- Sizes, depths and texts of any expressions are what the reference says. -/
import Derived.Test.YtnmejllfnndcbaaGreatDoorAbRShow
import Derived.Test.YtnmejllfnndcbaaGreatDoorAbSize
set_option linter.unusedSimpArgs false
set_option linter.unusedVariables false
namespace Go.Ab
open Go Go.Ab.Tab
set_option maxRecDepth 100000
set_option maxHeartbeats 4000000
set_option linter.unusedSimpArgs false
theorem treeSizes_c (hlive : Ret C 10 [] (.bool true)) (a b : PExpr) (sa : a.Small) (sb : b.Small) (ra : a.Rng) (ba : a.bulk ≤ 1048576) :
    C 7 [.agg a.cells, .agg b.cells] [] = some (.ret (.bool true) .same) := by
  have c1 := size_c a sa
  have c2 := rsize_c a sa
  have c3 := depth_c a sa
  have c4 := rdepth_c a sa
  have c5 := show_c a sa ra ba
  have c6 := rshow_c a sa ra ba
  have c7 := sameExpr_c a b sa
  have c8 := rsameExpr_c a b sa sb
  have c9 : Ret C 23 [.agg a.cells, .agg a.cells] (.bool true) := by
    have := sameExpr_c a a sa
    rw [(same_iff a a).2 rfl] at this
    exact this
  rw [C_fn rfl Go.Proofs.Tryz.func7 rfl (by kernel_rfl) (m := 38) rfl]; simp only [sims, core, pe, Nat.reduceAdd, Int.reduceBEq, Int.reduceBNe, Int.reduceLT, Int.reduceLE, Go.Proofs.Tryz.f7, fx_7, hlive _, c1 _, c2 _, c3 _, c4 _, c5 _, c6 _, c7 _, c8 _, c9 _]
end Go.Ab
