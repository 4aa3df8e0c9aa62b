/- How long a program's text may be. -/
import Derived.Test.YtnmejllfnndcbaaGreatDoorAbTxt
import Derived.Test.YtnmejllfnndcbaaGreatDoorAbSameR2
import Derived.Test.YtnmejllfnndcbaaGreatDoorAbBack2
set_option linter.unusedSimpArgs false
set_option linter.unusedVariables false
namespace Go.Ab
open Go Go.Ab.Tab
set_option maxRecDepth 100000
set_option maxHeartbeats 4000000
set_option linter.unusedSimpArgs false
theorem flat_T {X : Type} (f : X → List Str) (b : X → Nat) (h : ∀ x, T (f x) ≤ 60 * b x) (l : List X) : T (l.flatMap f) ≤ 60 * sumOf b l := by
  induction l with
  | nil => simp [T, sumOf]
  | cons x r ih =>
    have := h x
    simp only [List.flatMap_cons, T_app, sumOf]
    omega
theorem listW_T3 (l : List Str) (c : UInt8) : T (listW l [c]) ≤ 3 * consT l := by
  have h := listW_T l [c]
  have h2 := consT_len l
  simp only [List.length_cons, List.length_nil] at h
  omega
theorem namesW_T (l : List Str) : T (namesW l) ≤ 3 * consT l + 4 := by
  have := listW_T3 l 44
  simp only [namesW, T_app, T, List.length_cons, List.length_nil]
  omega
theorem headW_T (l : List Str) : T (headW l) ≤ 3 * consT l + 4 := by
  unfold headW
  split
  · simp only [T, consT, sumOf]; omega
  · exact namesW_T l
theorem eqW_T (q : PEq) : T (eqW q) ≤ 60 * q.bulk := by
  have h1 := headW_T q.names
  have h2 := words_T q.e
  unfold eqW PEq.bulk
  unfold consT at h1
  simp only [T_app, T, List.length_cons, List.length_nil]
  omega
theorem wayW_T (w : PWay) : T (wayW w) ≤ 60 * w.bulk := by
  have h2 := words_T w.cond
  unfold wayW PWay.bulk
  simp only [T_app, T, List.length_cons, List.length_nil]
  omega
theorem stateW_T (s : PState) : T (stateW s) ≤ 60 * s.bulk := by
  have h1 := flat_T eqW PEq.bulk eqW_T s.eqs
  have h2 := flat_T wayW PWay.bulk wayW_T s.ways
  unfold stateW PState.bulk
  simp only [T_app, T, List.length_cons, List.length_nil]
  omega
theorem itemW_T (x : PItem) : T (itemW x) ≤ 60 * x.bulk := by
  have h1 := flat_T stateW PState.bulk stateW_T x.states
  have h2 := eqW_T x.eq
  unfold itemW PItem.bulk
  split
  · omega
  · simp only [T_app, T, List.length_cons, List.length_nil]
    omega
theorem enumW_T (t : PEnum) : T (enumW t) ≤ 60 * t.bulk := by
  have h1 := listW_T3 t.cons 124
  unfold enumW PEnum.bulk
  unfold consT at h1
  simp only [T_app, T, List.length_cons, List.length_nil]
  omega
theorem brW_T (l : List Str) : T (brW l) ≤ 3 * consT l + 4 := by
  have := listW_T3 l 44
  unfold brW
  split
  · simp [T]
  · simp only [T_app, T, List.length_cons, List.length_nil]; omega
theorem nodeW_T (n : PNode) : T (nodeW n) ≤ 60 * n.bulk := by
  have h1 := flat_T itemW PItem.bulk itemW_T n.items
  have h2 := brW_T n.funs
  have h3 := namesW_T n.ins
  have h4 := namesW_T n.outs
  unfold nodeW PNode.bulk
  unfold consT at h2 h3 h4
  simp only [T_app, T, List.length_cons, List.length_nil]
  omega
theorem progW_T (p : PProg) : T (progW p) ≤ 60 * p.bulk := by
  have h1 := flat_T enumW PEnum.bulk enumW_T p.enums
  have h2 := flat_T nodeW PNode.bulk nodeW_T p.nodes
  unfold progW PProg.bulk
  simp only [T_app]
  omega
end Go.Ab
/- Which programs are the same: as the reference says; and, of those that may be, those with the same text. -/
namespace Go.Ab
open Go Go.Ab.Tab
set_option maxRecDepth 100000
set_option maxHeartbeats 4000000
set_option linter.unusedSimpArgs false
theorem allEq_iff {α : Type} (p : α → α → Bool) (h : ∀ a b, p a b = true ↔ a = b) : ∀ l m, allEq p l m = true ↔ l = m
  | [], [] => by simp [allEq]
  | [], _ :: _ => by simp [allEq]
  | _ :: _, [] => by simp [allEq]
  | a :: r, b :: t => by simp [allEq, h a b, allEq_iff p h r t]
theorem PEq.same_iff (a b : PEq) : a.same b = true ↔ a = b := by
  cases a; cases b; simp [PEq.same, Go.Ab.same_iff]
theorem PWay.same_iff (a b : PWay) : a.same b = true ↔ a = b := by
  cases a; cases b; simp [PWay.same, Go.Ab.same_iff, and_comm]
theorem PState.same_iff (a b : PState) : a.same b = true ↔ a = b := by
  cases a; cases b; simp [PState.same, allEq_iff _ PEq.same_iff, allEq_iff _ PWay.same_iff, and_assoc]
theorem PItem.same_iff (a b : PItem) : a.same b = true ↔ a = b := by
  cases a; cases b; simp [PItem.same, PEq.same_iff, allEq_iff _ PState.same_iff]
theorem PNode.same_iff (a b : PNode) : a.same b = true ↔ a = b := by
  cases a; cases b; simp [PNode.same, allEq_iff _ PItem.same_iff, and_assoc]
theorem PEnum.same_iff (a b : PEnum) : a.same b = true ↔ a = b := by
  cases a; cases b; simp [PEnum.same]
theorem PProg.same_iff (a b : PProg) : a.same b = true ↔ a = b := by
  cases a; cases b; simp [PProg.same, allEq_iff _ PEnum.same_iff, allEq_iff _ PNode.same_iff]
theorem treeSame_c (hlive : Ret C 10 [] (.bool true)) (a b : PProg) (sa : a.Small) (sb : b.Small) (ra : a.Rng) (rb : b.Rng) (ba : a.bulk ≤ 1048576) (bb : b.bulk ≤ 1048576) :
    C 5 [.agg a.cells, .agg b.cells] [] = some (.ret (.bool true) .same) := by
  have hT := progW_T a
  have hT2 := progW_T b
  have m2 : lenTop = 1099511627776 := rfl
  have c1 := same_c a b sa
  have c2 := rsame_c a b sa sb
  have c3 := same_c a a sa
  have c4 : a.same a = true := (PProg.same_iff a a).2 rfl
  have p1 := print_c a sa ra (by omega)
  have p2 := print_c b sb rb (by omega)
  unfold printV at p1 p2
  by_cases hz : rightI false a = 0
  · rw [if_pos hz] at p1
    by_cases hy : rightI false b = 0
    · rw [if_pos hy] at p2
      have key : (J (progW a) == J (progW b)) = a.same b := by
        cases hs : a.same b with
        | true => rw [(PProg.same_iff a b).1 hs]; simp
        | false =>
          cases hj : J (progW a) == J (progW b) with
          | false => rfl
          | true =>
            have := text_inj hz hy ra rb ba bb (eq_of_beq hj)
            rw [(PProg.same_iff a b).2 this] at hs; cases hs
      cases hs : a.same b
      · rw [hs] at c1 c2 key
        rw [C_fn rfl Go.Proofs.Tryz.func5 rfl (by kernel_rfl) (m := 49) rfl]; simp only [sims, core, pe, Nat.reduceAdd, Int.reduceBEq, Int.reduceBNe, Int.reduceLT, Int.reduceLE, Go.Proofs.Tryz.f5, fx_5, ty, hlive _, c1 _, c2 _, c3 _, c4, p1 _, p2 _, key]
      · rw [hs] at c1 c2 key
        rw [C_fn rfl Go.Proofs.Tryz.func5 rfl (by kernel_rfl) (m := 49) rfl]; simp only [sims, core, pe, Nat.reduceAdd, Int.reduceBEq, Int.reduceBNe, Int.reduceLT, Int.reduceLE, Go.Proofs.Tryz.f5, fx_5, ty, hlive _, c1 _, c2 _, c3 _, c4, p1 _, p2 _, key]
    · rw [if_neg hy] at p2
      have hy' : (rightI false b == 0) = false := by simpa using hy
      cases hs : a.same b
      · rw [hs] at c1 c2
        rw [C_fn rfl Go.Proofs.Tryz.func5 rfl (by kernel_rfl) (m := 49) rfl]; simp only [sims, core, pe, Nat.reduceAdd, Int.reduceBEq, Int.reduceBNe, Int.reduceLT, Int.reduceLE, Go.Proofs.Tryz.f5, fx_5, ty, hlive _, c1 _, c2 _, c3 _, c4, p1 _, p2 _, bne, hy']
      · rw [hs] at c1 c2
        rw [C_fn rfl Go.Proofs.Tryz.func5 rfl (by kernel_rfl) (m := 49) rfl]; simp only [sims, core, pe, Nat.reduceAdd, Int.reduceBEq, Int.reduceBNe, Int.reduceLT, Int.reduceLE, Go.Proofs.Tryz.f5, fx_5, ty, hlive _, c1 _, c2 _, c3 _, c4, p1 _, p2 _, bne, hy']
  · rw [if_neg hz] at p1
    have hz' : (rightI false a == 0) = false := by simpa using hz
    by_cases hy : rightI false b = 0
    · rw [if_pos hy] at p2
      cases hs : a.same b
      · rw [hs] at c1 c2
        rw [C_fn rfl Go.Proofs.Tryz.func5 rfl (by kernel_rfl) (m := 49) rfl]; simp only [sims, core, pe, Nat.reduceAdd, Int.reduceBEq, Int.reduceBNe, Int.reduceLT, Int.reduceLE, Go.Proofs.Tryz.f5, fx_5, ty, hlive _, c1 _, c2 _, c3 _, c4, p1 _, p2 _, bne, hz']
      · rw [hs] at c1 c2
        rw [C_fn rfl Go.Proofs.Tryz.func5 rfl (by kernel_rfl) (m := 49) rfl]; simp only [sims, core, pe, Nat.reduceAdd, Int.reduceBEq, Int.reduceBNe, Int.reduceLT, Int.reduceLE, Go.Proofs.Tryz.f5, fx_5, ty, hlive _, c1 _, c2 _, c3 _, c4, p1 _, p2 _, bne, hz']
    · rw [if_neg hy] at p2
      cases hs : a.same b
      · rw [hs] at c1 c2
        rw [C_fn rfl Go.Proofs.Tryz.func5 rfl (by kernel_rfl) (m := 49) rfl]; simp only [sims, core, pe, Nat.reduceAdd, Int.reduceBEq, Int.reduceBNe, Int.reduceLT, Int.reduceLE, Go.Proofs.Tryz.f5, fx_5, ty, hlive _, c1 _, c2 _, c3 _, c4, p1 _, p2 _, bne, hz']
      · rw [hs] at c1 c2
        rw [C_fn rfl Go.Proofs.Tryz.func5 rfl (by kernel_rfl) (m := 49) rfl]; simp only [sims, core, pe, Nat.reduceAdd, Int.reduceBEq, Int.reduceBNe, Int.reduceLT, Int.reduceLE, Go.Proofs.Tryz.f5, fx_5, ty, hlive _, c1 _, c2 _, c3 _, c4, p1 _, p2 _, bne, hz']
end Go.Ab
