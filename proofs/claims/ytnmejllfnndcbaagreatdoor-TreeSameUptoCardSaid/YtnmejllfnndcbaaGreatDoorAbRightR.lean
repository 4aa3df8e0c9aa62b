/- Which programs may be, and aren't too great. -/
import Derived.Test.YtnmejllfnndcbaaGreatDoorAbRight
set_option linter.unusedSimpArgs false
set_option linter.unusedVariables false
namespace Go.Ab
open Go Go.Ab.Tab
set_option maxRecDepth 100000
set_option maxHeartbeats 4000000
set_option linter.unusedSimpArgs false
def greatB (n : PNode) : Bool := decide (300 < (accE (0, 0) n.exprs).1) || decide (40 < (accE (0, 0) n.exprs).2)
def rightI (made : Bool) (p : PProg) : Int := if progB made p = true then (if (p.nodes.any greatB) = true then 9 else 0) else 10
def AnyPost (id : Nat) (junk junk' : List Nat) (slot : Nat) (v : AVal) (ts : List AVal) (H : AHeap) (r : Bool) (ex : AEx) (s : St) : Prop :=
  (r = false ∧ ex = .exit id ∧ At junk ts H [] s) ∨ (r = true ∧ ex = .ret ∧ At junk' ts H [(slot, v)] s)
theorem right_c (made : Bool) (p : PProg) (hs : p.Small) (hr : p.Rng) : Ret C 11 [.agg p.cells, .bool made] (.int .i64 (rightI made p)) := by
  refine Ret.mk (by simp [refsL, refs, p.norefs]) rfl ?_
  have hl1 := hs.2.2.1
  have e1 := program_c made p hs hr
  unfold fieldA at e1
  unfold rightI
  rw [C_fn rfl Go.Proofs.Tryz.func11 rfl (by kernel_rfl) (m := 29) rfl]; simp only [sims, core, pe, Nat.reduceAdd, Int.reduceBEq, Int.reduceBNe, Int.reduceLT, Int.reduceLE, Go.Proofs.Tryz.f11, fx_11, ty, e1 _]
  cases h1 : progB made p
  · simp only [sims, core, pe, Nat.reduceAdd, Int.reduceBEq, Int.reduceBNe, Int.reduceLT, Int.reduceLE, fx_11, ty, h1]
  simp only [sims, core, pe, Nat.reduceAdd, Int.reduceBEq, Int.reduceBNe, Int.reduceLT, Int.reduceLE, fx_11, ty, h1]
  generalize hb : codeB PP cmp0 C lpC _ = f; generalize hl : lpC f _ = r
  obtain ⟨ex, s', rfl, h2⟩ := lpC_at (α := Nat) hl [4, 6, 7, 8, 18, 19, 20, 21, 22, 23, 24, 25, 26, 27, 28, 29, 30] (fun i => [(17, .int .i64 i)]) (fun i => i ≤ p.nodes.length) (fun i => p.nodes.length - i) (fun i => (p.nodes.drop i).any greatB)
    (AnyPost 0 [4, 6, 7, 8, 17, 18, 19, 20, 21, 22, 23, 24, 25, 26, 27, 28, 29, 30] [6, 7, 8, 17, 18, 19, 20, 21, 22, 23, 24, 25, 26, 27, 28, 29, 30] 4 (.int .i64 9)) 0 (Nat.zero_le _) (by simp only [At, ats, Int.natCast_zero, List.drop_left, List.drop_length, List.append_nil]) (by
      intro i j H d hi
      clear hl; subst hb
      by_cases hlt : i < p.nodes.length
      · have e2 : ((i : Int) < (p.nodes.length : Int)) := by omega
        obtain ⟨x, hx⟩ : ∃ y, y = p.nodes[i] := ⟨_, rfl⟩
        have e3 : (p.nodes.map PNode.cells)[i]? = some x.cells := by simp [hlt, hx]
        have hm : x ∈ p.nodes := by rw [hx]; exact List.getElem_mem hlt
        simp only [sims, core, pe, Nat.reduceAdd, Int.reduceBEq, Int.reduceBNe, Int.reduceLT, Int.reduceLE, fx_11, ty, e2, e3]
        obtain ⟨E, hE1, hE2⟩ := callA_two keepC (H := .box p.cells :: (H ++ [.box x.cells, .box [.int .i64 0], .box [.int .i64 0]])) (f := 30) (args := [.agg x.cells, .func 31 [] [.ptr (H.length + 1 + 1) 0, .ptr (H.length + 2 + 1) 0]]) (v := .tuple []) (b1 := H.length + 1 + 1) (b2 := H.length + 2 + 1) (x0 := [.int .i64 0]) (x1 := [.int .i64 0]) (y0 := [.int .i64 (accE (0, 0) x.exprs).1]) (y1 := [.int .i64 (accE (0, 0) x.exprs).2])
          (by simp [refsL, refs, x.norefs]) (by omega) (by simp only [List.getElem?_cons_succ, heap_at, List.getElem?_cons_zero]) (by simp only [List.getElem?_cons_succ, heap_at, List.getElem?_cons_zero]) rfl rfl rfl rfl (by
            have e : renL (fun y => [H.length + 1 + 1, H.length + 2 + 1].idxOf y) [.agg x.cells, .func 31 [] [.ptr (H.length + 1 + 1) 0, .ptr (H.length + 2 + 1) 0]] = [.agg x.cells, .func 31 [] [.ptr 0 0, .ptr 1 0]] := by
              have hbe : (H.length + 1 + 1 == H.length + 2 + 1) = false := beq_false_of_ne (by omega)
              simp only [renL, ren, ren_pure x.norefs, List.idxOf_cons, hbe, beq_self_eq_true, cond_true, cond_false]
            rw [e]
            exact each_c x (hs.2.2.2 x hm) (0, 0)) rfl
        simp only [List.set_cons_succ, set_at, List.set_cons_zero] at hE2
        simp only [sims, core, pe, Nat.reduceAdd, Int.reduceBEq, Int.reduceBNe, Int.reduceLT, Int.reduceLE, effs, fx_11, ty, hE1, hE2]
        cases hc1 : decide (300 < (accE (0, 0) x.exprs).1)
        · simp only [sims, core, pe, Nat.reduceAdd, Int.reduceBEq, Int.reduceBNe, Int.reduceLT, Int.reduceLE, effs, fx_11, ty, hc1, hE2]
          cases hc2 : decide (40 < (accE (0, 0) x.exprs).2)
          · simp only [sims, core, pe, Nat.reduceAdd, Int.reduceBEq, Int.reduceBNe, Int.reduceLT, Int.reduceLE, fx_11, hc2, wrap_nat (show i ≤ lenTop by omega)]
            exact .inl ⟨i + 1, _, rfl, hlt, by simp only [At, ats, Int.natCast_zero, List.drop_left, List.drop_length, List.append_nil], by simp only []; omega, by simp only [List.drop_eq_getElem_cons hlt, List.any_cons, ← hx, greatB, hc1, hc2, Bool.or_self, Bool.false_or]⟩
          · simp only [sims, core, pe, Nat.reduceAdd, Int.reduceBEq, Int.reduceBNe, Int.reduceLT, Int.reduceLE, fx_11, hc2]
            exact .inr ⟨_, _, rfl, by simp, .inr ⟨by simp only [List.drop_eq_getElem_cons hlt, List.any_cons, ← hx, greatB, hc1, hc2, Bool.or_true, Bool.true_or], rfl, by simp only [At, ats, Int.natCast_zero, List.drop_left, List.drop_length, List.append_nil]⟩⟩
        · simp only [sims, core, pe, Nat.reduceAdd, Int.reduceBEq, Int.reduceBNe, Int.reduceLT, Int.reduceLE, fx_11, hc1]
          exact .inr ⟨_, _, rfl, by simp, .inr ⟨by simp only [List.drop_eq_getElem_cons hlt, List.any_cons, ← hx, greatB, hc1, Bool.true_or], rfl, by simp only [At, ats, Int.natCast_zero, List.drop_left, List.drop_length, List.append_nil]⟩⟩
      · have e2 : ¬ ((i : Int) < (p.nodes.length : Int)) := by omega
        simp only [sims, core, pe, Nat.reduceAdd, Int.reduceBEq, Int.reduceBNe, Int.reduceLT, Int.reduceLE, fx_11, e2]
        exact .inr ⟨_, _, rfl, by simp, .inl ⟨by simp only []; rw [List.drop_eq_nil_of_le (by omega)]; rfl, rfl, by simp only [At, ats, Int.natCast_zero, List.drop_left, List.drop_length, List.append_nil]⟩⟩)
  rw [List.drop_zero] at h2
  rcases h2 with ⟨hr1, rfl, h2⟩ | ⟨hr1, rfl, h2⟩
  · obtain ⟨j, H, d, rfl⟩ := h2.elim
    clear hl
    simp only [sims, core, pe, Nat.reduceAdd, Int.reduceBEq, Int.reduceBNe, Int.reduceLT, Int.reduceLE, fx_11, hr1]
  · obtain ⟨j, H, d, rfl⟩ := h2.elim
    clear hl
    simp only [sims, core, pe, Nat.reduceAdd, Int.reduceBEq, Int.reduceBNe, Int.reduceLT, Int.reduceLE, fx_11, hr1]
end Go.Ab
