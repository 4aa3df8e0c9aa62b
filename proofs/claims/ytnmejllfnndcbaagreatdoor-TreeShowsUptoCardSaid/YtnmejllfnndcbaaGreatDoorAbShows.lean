/- Of expressions that may stand in a program the texts are the same just if the expressions are. -/
import Derived.Test.YtnmejllfnndcbaaGreatDoorAbBack2
import Derived.Test.YtnmejllfnndcbaaGreatDoorAbTxt
set_option linter.unusedSimpArgs false
set_option linter.unusedVariables false
namespace Go.Ab
open Go Go.Ab.Tab
set_option maxRecDepth 100000
set_option maxHeartbeats 4000000
set_option linter.unusedSimpArgs false
def oneI (e : PExpr) : PItem := ⟨⟨[[121]], e⟩, []⟩
def oneN (e : PExpr) : PNode := ⟨[102], [], [[120]], [[121]], [oneI e]⟩
def oneP (e : PExpr) : PProg := ⟨[], [oneN e]⟩
theorem one_small {e : PExpr} (h : e.Small) : (oneP e).Small := by
  have k1 : StrsSmall [[120]] := ⟨by decide, fun s hs => by obtain rfl := List.mem_singleton.1 hs; decide⟩
  have k2 : StrsSmall [[121]] := ⟨by decide, fun s hs => by obtain rfl := List.mem_singleton.1 hs; decide⟩
  have k0 : StrsSmall [] := ⟨by decide, fun s hs => by cases hs⟩
  have hi : (oneI e).Small := ⟨⟨k2, h⟩, Nat.zero_le _, fun s hs => by cases hs⟩
  have hn : (oneN e).Small := ⟨(by decide : (1 : Nat) ≤ lenTop), k0, k1, k2, by unfold oneN; simp [lenTop], fun x hx => by
    obtain rfl := List.mem_singleton.1 hx; exact hi⟩
  exact ⟨by unfold oneP; simp [lenTop], (fun x hx => by cases hx), by unfold oneP; simp [lenTop], fun x hx => by obtain rfl := List.mem_singleton.1 hx; exact hn⟩
theorem one_rng {e : PExpr} (h : e.Rng) : (oneP e).Rng :=
  ⟨(fun x hx => by cases hx), fun x hx => by
    obtain rfl := List.mem_singleton.1 hx
    intro y hy
    obtain rfl := List.mem_singleton.1 hy
    exact ⟨h, fun s hs => by cases hs⟩⟩
theorem one_bulk (e : PExpr) : (oneP e).bulk ≤ e.bulk + 100 := by
  simp only [oneP, oneN, oneI, PProg.bulk, PNode.bulk, PItem.bulk, PEq.bulk, sumOf, List.length_cons, List.length_nil]
  omega
theorem tk6 (e : PExpr) (v : AVal) : List.take 6 (e.cells ++ [v]) = e.cells ++ [v] := by
  rw [List.take_of_length_le]; simp [e.len]
theorem one_c (e : PExpr) : Ret C 25 [.agg e.cells] (.agg (oneP e).cells) := by
  refine Ret.mk (by simp [refsL, refs, e.norefs]) rfl ?_
  rw [C_fn rfl Go.Proofs.Tryz.func25 rfl (by kernel_rfl) (m := 12) rfl]; simp only [sims, core, pe, Nat.reduceAdd, Int.reduceBEq, Int.reduceBNe, Int.reduceLT, Int.reduceLE, Go.Proofs.Tryz.f25, fx_25, ty, tk6, List.map_append, List.all_append]
  rw [leave_pure1 _ _ _ rfl, leave_pure2 _ _ _ rfl]; rfl
theorem one_good {e : PExpr} (h : rightI false (oneP e) = 0) (hr : e.Rng) (hb : e.bulk ≤ 1048576) : GoodE e := by
  have hp := goodP_of h (one_rng hr) (by have := one_bulk e; unfold lenTop; omega)
  have hn := hp.n (oneN e) (by simp [oneP])
  have hi := hn.t (oneI e) (by simp [oneN])
  exact (hi.q rfl).e
theorem treeShows_c (hlive : Ret C 10 [] (.bool true)) (a b : PExpr) (sa : a.Small) (sb : b.Small) (ra : a.Rng) (rb : b.Rng) (ba : a.bulk ≤ 1048576) (bb : b.bulk ≤ 1048576) :
    C 8 [.agg a.cells, .agg b.cells] [] = some (.ret (.bool true) .same) := by
  have o1 := one_c a
  have o2 := one_c b
  have r1 := right_c false (oneP a) (one_small sa) (one_rng ra)
  have r2 := right_c false (oneP b) (one_small sb) (one_rng rb)
  have s1 := show_c a sa ra ba
  have s2 := show_c b sb rb bb
  have e1 := sameExpr_c a b sa
  cases hz : rightI false (oneP a) == 0
  · rw [C_fn rfl Go.Proofs.Tryz.func8 rfl (by kernel_rfl) (m := 24) rfl]; simp only [sims, core, pe, Nat.reduceAdd, Int.reduceBEq, Int.reduceBNe, Int.reduceLT, Int.reduceLE, Go.Proofs.Tryz.f8, fx_8, ty, hlive _, o1 _, o2 _, r1 _, r2 _, bne, hz]
  have hz' : rightI false (oneP a) = 0 := by simpa using hz
  cases hy : rightI false (oneP b) == 0
  · rw [C_fn rfl Go.Proofs.Tryz.func8 rfl (by kernel_rfl) (m := 24) rfl]; simp only [sims, core, pe, Nat.reduceAdd, Int.reduceBEq, Int.reduceBNe, Int.reduceLT, Int.reduceLE, Go.Proofs.Tryz.f8, fx_8, ty, hlive _, o1 _, o2 _, r1 _, r2 _, bne, hz, hy]
  have hy' : rightI false (oneP b) = 0 := by simpa using hy
  have key : (J a.words == J b.words) = a.same b := by
    cases hs : a.same b with
    | true => rw [(Go.Ab.same_iff a b).1 hs]; simp
    | false =>
      cases hj : J a.words == J b.words with
      | false => rfl
      | true =>
        have := show_inj (one_good hz' ra ba) (one_good hy' rb bb) (eq_of_beq hj)
        rw [(Go.Ab.same_iff a b).2 this] at hs; cases hs
  cases hs : a.same b
  · rw [hs] at e1 key
    rw [C_fn rfl Go.Proofs.Tryz.func8 rfl (by kernel_rfl) (m := 24) rfl]; simp only [sims, core, pe, Nat.reduceAdd, Int.reduceBEq, Int.reduceBNe, Int.reduceLT, Int.reduceLE, Go.Proofs.Tryz.f8, fx_8, ty, hlive _, o1 _, o2 _, r1 _, r2 _, bne, hz, hy, s1 _, s2 _, e1 _, key]
  · rw [hs] at e1 key
    rw [C_fn rfl Go.Proofs.Tryz.func8 rfl (by kernel_rfl) (m := 24) rfl]; simp only [sims, core, pe, Nat.reduceAdd, Int.reduceBEq, Int.reduceBNe, Int.reduceLT, Int.reduceLE, Go.Proofs.Tryz.f8, fx_8, ty, hlive _, o1 _, o2 _, r1 _, r2 _, bne, hz, hy, s1 _, s2 _, e1 _, key]
end Go.Ab
