/- A program's text, or why it has none, is what the reference says. -/
import Derived.Test.YtnmejllfnndcbaaGreatDoorAbRProg
import Derived.Test.YtnmejllfnndcbaaGreatDoorAbRref4
set_option linter.unusedSimpArgs false
set_option linter.unusedVariables false
namespace Go.Ab
open Go Go.Ab.Tab
set_option maxRecDepth 100000
set_option maxHeartbeats 4000000
set_option linter.unusedSimpArgs false
theorem right_cons {p : PProg} (h : rightI false p = 0) : ∀ t ∈ p.enums, ¬ t.cons.length = 0 := by
  intro t ht hz
  have hp : progB false p = true := by
    unfold rightI at h
    cases hq : progB false p with
    | true => rfl
    | false => rw [hq] at h; simp at h
  unfold progB at hp
  simp only [Bool.and_eq_true] at hp
  have := List.all_eq_true.1 hp.1.2 t ht
  simp only [Bool.and_eq_true, consB, hz] at this
  have h1 := this.2.1.1
  simp at h1
theorem rprint_c (p : PProg) (hs : p.Small) (hr : p.Rng) (hb : p.bulk ≤ 1048576) (hx : ∀ n ∈ p.nodes, n.exprs.length ≤ lenTop) : Ret C 14 [.agg p.cells] (printV p) := by
  refine Ret.mk (by simp [refsL, refs, p.norefs]) (by unfold printV; split <;> rfl) ?_
  have cr := rright_c false p hs hx
  cases hz : rightI false p == 0
  · have hz' : ¬ rightI false p = 0 := by simpa using hz
    unfold printV
    rw [if_neg hz']
    rw [C_fn rfl Go.Proofs.Tryz.func14 rfl (by kernel_rfl) (m := 11) rfl]; simp only [sims, core, pe, Nat.reduceAdd, Int.reduceBEq, Int.reduceBNe, Int.reduceLT, Int.reduceLE, Go.Proofs.Tryz.f14, fx_14, ty, cr _, bne, hz]
  · have hz' : rightI false p = 0 := by simpa using hz
    have ct := rtext_c p hs hr hb (right_cons hz')
    unfold printV
    rw [if_pos hz']
    rw [C_fn rfl Go.Proofs.Tryz.func14 rfl (by kernel_rfl) (m := 11) rfl]; simp only [sims, core, pe, Nat.reduceAdd, Int.reduceBEq, Int.reduceBNe, Int.reduceLT, Int.reduceLE, Go.Proofs.Tryz.f14, fx_14, ty, cr _, bne, hz, ct _]
theorem treePrints_c (hlive : Ret C 10 [] (.bool true)) (p : PProg) (hs : p.Small) (hr : p.Rng) (hb : p.bulk ≤ 1048576) (hx : ∀ n ∈ p.nodes, n.exprs.length ≤ lenTop) : C 4 [.agg p.cells] [] = some (.ret (.bool true) .same) := by
  have hT := progW_T p
  have m2 : lenTop = 1099511627776 := rfl
  have a := print_c p hs hr (by omega)
  have b := rprint_c p hs hr hb hx
  unfold printV at a b
  by_cases hz : rightI false p = 0
  · rw [if_pos hz] at a b
    rw [C_fn rfl Go.Proofs.Tryz.func4 rfl (by kernel_rfl) (m := 26) rfl]; simp only [sims, core, pe, Nat.reduceAdd, Int.reduceBEq, Int.reduceBNe, Int.reduceLT, Int.reduceLE, Go.Proofs.Tryz.f4, fx_4, ty, hlive _, a _, b _]
  · rw [if_neg hz] at a b
    rw [C_fn rfl Go.Proofs.Tryz.func4 rfl (by kernel_rfl) (m := 26) rfl]; simp only [sims, core, pe, Nat.reduceAdd, Int.reduceBEq, Int.reduceBNe, Int.reduceLT, Int.reduceLE, Go.Proofs.Tryz.f4, fx_4, ty, hlive _, a _, b _]
end Go.Ab
