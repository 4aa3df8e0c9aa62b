/- How long a program's text may be. -/
import Derived.Test.YtngklkmeknmloaaGreatDoorAbShow
set_option linter.unusedSimpArgs false
set_option linter.unusedVariables false
set_option maxRecDepth 100000
set_option maxHeartbeats 4000000
namespace Go.Ab
open Go Go.Ab.Tab
theorem qp1 {X : Type} (f : X → List Str) (b : X → Nat) (h : ∀ x,T (f x) ≤ 60 * b x) (l : List X) : T (l.flatMap f) ≤ 60 * qci b l := by
 induction l with
 | nil => simp [T,qci]
 | cons x r ih =>
  have := h x
  simp only [List.flatMap_cons,qhg,qci]
  omega
theorem qvs (l : List Str) (c : UInt8) : T (qb8 l [c]) ≤ 3 * qf1 l := by
 have h := listW_T l [c]
 have h2 := qzb l
 simp only [List.length_cons,List.length_nil] at h
 omega
theorem qvt (l : List Str) : T (qdd l) ≤ 3 * qf1 l + 4 := by
 have := qvs l 44
 simp only [qdd,qhg,T,List.length_cons,List.length_nil]
 omega
theorem headW_T (l : List Str) : T (qhk l) ≤ 3 * qf1 l + 4 := by
 unfold qhk
 split
 ·simp only [T,qf1,qci]; omega
 ·exact qvt l
theorem eqW_T (q : PEq) : T (eqW q) ≤ 60 * q.bulk := by
 have h1 := headW_T q.names
 have h2 := qx3 q.e
 unfold eqW PEq.bulk
 unfold qf1 at h1
 simp only [qhg,T,List.length_cons,List.length_nil]
 omega
theorem wayW_T (w : PWay) : T (wayW w) ≤ 60 * w.bulk := by
 have h2 := qx3 w.cond
 unfold wayW PWay.bulk
 simp only [qhg,T,List.length_cons,List.length_nil]
 omega
theorem stateW_T (s : PState) : T (qcs s) ≤ 60 * s.bulk := by
 have h1 := qp1 eqW PEq.bulk eqW_T s.eqs
 have h2 := qp1 wayW PWay.bulk wayW_T s.ways
 unfold qcs PState.bulk
 simp only [qhg,T,List.length_cons,List.length_nil]
 omega
theorem itemW_T (x : PItem) : T (qd0 x) ≤ 60 * x.bulk := by
 have h1 := qp1 qcs PState.bulk stateW_T x.states
 have h2 := eqW_T x.eq
 unfold qd0 PItem.bulk
 split
 ·omega
 ·simp only [qhg,T,List.length_cons,List.length_nil]
  omega
theorem enumW_T (t : PEnum) : T (qfj t) ≤ 60 * t.bulk := by
 have h1 := qvs t.cons 124
 unfold qfj PEnum.bulk
 unfold qf1 at h1
 simp only [qhg,T,List.length_cons,List.length_nil]
 omega
theorem brW_T (l : List Str) : T (brW l) ≤ 3 * qf1 l + 4 := by
 have := qvs l 44
 unfold brW
 split
 ·simp [T]
 ·simp only [qhg,T,List.length_cons,List.length_nil]; omega
theorem nodeW_T (n : PNode) : T (qe9 n) ≤ 60 * n.bulk := by
 have h1 := qp1 qd0 PItem.bulk itemW_T n.items
 have h2 := brW_T n.funs
 have h3 := qvt n.ins
 have h4 := qvt n.outs
 unfold qe9 PNode.bulk
 unfold qf1 at h2 h3 h4
 simp only [qhg,T,List.length_cons,List.length_nil]
 omega
theorem progW_T (p : PProg) : T (qdo p) ≤ 60 * p.bulk := by
 have h1 := qp1 qfj PEnum.bulk enumW_T p.enums
 have h2 := qp1 qe9 PNode.bulk nodeW_T p.nodes
 unfold qdo PProg.bulk
 simp only [qhg]
 omega
end Go.Ab
