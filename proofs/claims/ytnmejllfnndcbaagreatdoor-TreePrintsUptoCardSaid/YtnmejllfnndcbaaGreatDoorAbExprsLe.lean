/- A program's expressions are no more than its bulk. -/
import Derived.Test.YtnmejllfnndcbaaGreatDoorAbEach
import Derived.Test.YtnmejllfnndcbaaGreatDoorAbReadT
set_option linter.unusedSimpArgs false
set_option linter.unusedVariables false
namespace Go.Ab
theorem flat_len {X : Type} (f : X → List PExpr) (b : X → Nat) (h : ∀ x, (f x).length ≤ b x) (l : List X) : (l.flatMap f).length ≤ sumOf b l := by
  induction l with
  | nil => simp [sumOf]
  | cons x r ih =>
    simp only [List.flatMap_cons, List.length_append, sumOf]
    have := h x
    omega
theorem PState.exprs_bulk (s : PState) : s.exprs.length ≤ s.bulk := by
  unfold PState.exprs PState.bulk
  have h1 := sumOf_len PEq.bulk PEq.bulk_pos s.eqs
  have h2 := sumOf_len PWay.bulk PWay.bulk_pos s.ways
  simp only [List.length_append, List.length_map]
  omega
theorem PItem.exprs_bulk (x : PItem) : x.exprs.length ≤ x.bulk := by
  unfold PItem.exprs PItem.bulk
  have h1 := flat_len PState.exprs PState.bulk PState.exprs_bulk x.states
  have h2 := PEq.bulk_pos x.eq
  simp only [List.length_append]
  split
  · simp only [List.length_cons, List.length_nil]; omega
  · simp only [List.length_nil]; omega
theorem PNode.exprs_bulk (n : PNode) : n.exprs.length ≤ n.bulk := by
  unfold PNode.exprs PNode.bulk
  have h1 := flat_len PItem.exprs PItem.bulk PItem.exprs_bulk n.items
  omega
theorem exprs_le (p : PProg) (n : PNode) (hn : n ∈ p.nodes) (h : p.bulk ≤ 1048576) : n.exprs.length ≤ lenTop := by
  have h1 := n.exprs_bulk
  have h2 := sumOf_mem PNode.bulk p.nodes n hn
  unfold PProg.bulk at h
  unfold lenTop
  omega
end Go.Ab
