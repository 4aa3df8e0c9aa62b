/- When programs are the same. -/
import Derived.Test.YtnmejllfnndcbaaGreatDoorAbSize
import Derived.Test.YtnmejllfnndcbaaGreatDoorAbTypes
set_option linter.unusedSimpArgs false
set_option linter.unusedVariables false
namespace Go.Ab
open Go Go.Ab.Tab
set_option maxRecDepth 100000
set_option maxHeartbeats 4000000
set_option linter.unusedSimpArgs false
def allEq {α : Type} (p : α → α → Bool) : List α → List α → Bool
  | [], [] => true
  | a :: r, b :: t => p a b && allEq p r t
  | _, _ => false
theorem allEq_len {α : Type} (p : α → α → Bool) : ∀ (l m : List α), ¬ l.length = m.length → allEq p l m = false
  | [], [], h => absurd rfl h
  | [], _ :: _, _ => rfl
  | _ :: _, [], _ => rfl
  | a :: r, b :: t, h => by simp only [allEq, allEq_len p r t (fun e => h (by simp [e])), Bool.and_false]
theorem allEq_drop {α : Type} (p : α → α → Bool) (l m : List α) (i : Nat) (h : i < l.length) (h' : i < m.length) : allEq p (l.drop i) (m.drop i) = (p l[i] m[i] && allEq p (l.drop (i + 1)) (m.drop (i + 1))) := by
  rw [List.drop_eq_getElem_cons h, List.drop_eq_getElem_cons h', allEq]
theorem cells_get {α : Type} (f : α → List AVal) (l : List α) (i : Nat) (h : i < l.length) : (l.map f)[i]? = some (f l[i]) := by simp [h]
def PEnum.same (a b : PEnum) : Bool := a.name == b.name && a.cons == b.cons
theorem sameEnum_c (a b : PEnum) (ha : a.Small) : Ret C 40 [.agg a.cells, .agg b.cells] (.bool (a.same b)) := by
  refine Ret.mk (by simp [refsL, refs, a.norefs, b.norefs]) rfl ?_
  have e1 := equal_c a.cons b.cons ha.2.1
  rw [C_fn rfl Go.Proofs.Tryz.func40 rfl (by kernel_rfl) (m := 15) rfl]; simp only [sims, core, pe, Nat.reduceAdd, Int.reduceBEq, Int.reduceBNe, Int.reduceLT, Int.reduceLE, Go.Proofs.Tryz.f40, fx_40, ty]
  cases h0 : a.name == b.name
  · simp only [sims, core, pe, Nat.reduceAdd, Int.reduceBEq, Int.reduceBNe, Int.reduceLT, Int.reduceLE, fx_40, ty, e1 _, h0, PEnum.same]
  simp only [sims, core, pe, Nat.reduceAdd, Int.reduceBEq, Int.reduceBNe, Int.reduceLT, Int.reduceLE, fx_40, ty, e1 _, h0, PEnum.same]

theorem eqs_PEnum_c (l m : List PEnum) (hl : l.length ≤ lenTop) (hc : ∀ x ∈ l, ∀ y ∈ m, Ret C 40 [.agg x.cells, .agg y.cells] (.bool (x.same y))) :
    Ret C 39 [.slice (l.map PEnum.cells) .free, .slice (m.map PEnum.cells) .free, .func 40 [] []] (.bool (allEq PEnum.same l m)) := by
  refine Ret.mk rfl rfl ?_
  by_cases hlen : l.length = m.length
  · rw [C_fn rfl Go.Proofs.Tryz.func39 rfl (by kernel_rfl) (m := 29) rfl]; simp only [sims, core, pe, Nat.reduceAdd, Int.reduceBEq, Int.reduceBNe, Int.reduceLT, Int.reduceLE, Go.Proofs.Tryz.f39, fx_39, hlen, bne_self_eq_false]
    generalize hb : codeB PP cmp0 C lpC _ = f; generalize hl0 : lpC f _ = r
    obtain ⟨ex, s', rfl, h2⟩ := lpC_at (α := Nat) hl0 [6, 7, 8, 9, 18, 19, 20, 21, 22, 23, 24, 25, 26, 27, 28, 29, 30, 31] (fun i => [(17, .int .i64 i)]) (fun i => i ≤ l.length) (fun i => l.length - i) (fun i => allEq PEnum.same (l.drop i) (m.drop i))
      (AllPost [6, 7, 8, 9, 17, 18, 19, 20, 21, 22, 23, 24, 25, 26, 27, 28, 29, 30, 31] [7, 8, 9, 17, 18, 19, 20, 21, 22, 23, 24, 25, 26, 27, 28, 29, 30, 31] 6) 0 (Nat.zero_le _) (by simp only [At, ats, Int.natCast_zero]) (by
        intro i j H d hi
        clear hl0; subst hb
        by_cases hlt : i < l.length
        · have e1 : ((i : Int) < (m.length : Int)) := by omega
          have e3 := cells_get PEnum.cells l i hlt
          have e4 := cells_get PEnum.cells m i (by omega)
          have e5 := hc l[i] (List.getElem_mem hlt) m[i] (List.getElem_mem (by omega))
          simp only [sims, core, pe, Nat.reduceAdd, Int.reduceBEq, Int.reduceBNe, Int.reduceLT, Int.reduceLE, fx_39, ty, e1, e3, e4, e5 _]
          cases hcc : l[i].same m[i]
          · simp only [sims, core, pe, Nat.reduceAdd, Int.reduceBEq, Int.reduceBNe, Int.reduceLT, Int.reduceLE]
            exact .inr ⟨_, _, rfl, by simp, .inr ⟨by simp only [allEq_drop _ l m i hlt (by omega), hcc, Bool.false_and], rfl, by simp only [At, ats, Int.natCast_zero]⟩⟩
          · simp only [sims, core, pe, Nat.reduceAdd, Int.reduceBEq, Int.reduceBNe, Int.reduceLT, Int.reduceLE, wrap_nat (show i ≤ lenTop by omega)]
            exact .inl ⟨i + 1, _, rfl, hlt, by simp only [At, ats, Int.natCast_zero], by simp only []; omega, by simp only [allEq_drop _ l m i hlt (by omega), hcc, Bool.true_and]⟩
        · have e1 : ¬ ((i : Int) < (m.length : Int)) := by omega
          simp only [sims, core, pe, Nat.reduceAdd, Int.reduceBEq, Int.reduceBNe, Int.reduceLT, Int.reduceLE, fx_39, e1]
          exact .inr ⟨_, _, rfl, by simp, .inl ⟨by simp only []; rw [List.drop_eq_nil_of_le (by omega), List.drop_eq_nil_of_le (by omega)]; simp [allEq], rfl, by simp only [At, ats, Int.natCast_zero]⟩⟩)
    rw [List.drop_zero, List.drop_zero] at h2
    rcases h2 with ⟨hr, rfl, h2⟩ | ⟨hr, rfl, h2⟩
    · obtain ⟨j, H, d, rfl⟩ := h2.elim
      clear hl0
      simp only [sims, core, pe, Nat.reduceAdd, Int.reduceBEq, Int.reduceBNe, Int.reduceLT, Int.reduceLE, hr]
    · obtain ⟨j, H, d, rfl⟩ := h2.elim
      clear hl0
      simp only [sims, core, pe, Nat.reduceAdd, Int.reduceBEq, Int.reduceBNe, Int.reduceLT, Int.reduceLE, hr]
  · have e0 : ((l.length : Int) != (m.length : Int)) = true := by simp; omega
    rw [C_fn rfl Go.Proofs.Tryz.func39 rfl (by kernel_rfl) (m := 29) rfl]; simp only [sims, core, pe, Nat.reduceAdd, Int.reduceBEq, Int.reduceBNe, Int.reduceLT, Int.reduceLE, Go.Proofs.Tryz.f39, fx_39, e0, allEq_len PEnum.same l m hlen]

def PEq.same (a b : PEq) : Bool := a.names == b.names && a.e.same b.e
theorem sameEq_c (a b : PEq) (ha : a.Small) : Ret C 107 [.agg a.cells, .agg b.cells] (.bool (a.same b)) := by
  refine Ret.mk (by simp [refsL, refs, a.norefs, b.norefs]) rfl ?_
  have e0 := equal_c a.names b.names ha.1.1
  have e1 := sameExpr_c a.e b.e ha.2
  rw [C_fn rfl Go.Proofs.Tryz.func107 rfl (by kernel_rfl) (m := 15) rfl]; simp only [sims, core, pe, Nat.reduceAdd, Int.reduceBEq, Int.reduceBNe, Int.reduceLT, Int.reduceLE, Go.Proofs.Tryz.f107, fx_107, ty, e0 _]
  cases h0 : a.names == b.names
  · simp only [sims, core, pe, Nat.reduceAdd, Int.reduceBEq, Int.reduceBNe, Int.reduceLT, Int.reduceLE, fx_107, ty, e0 _, e1 _, h0, PEq.same]
  simp only [sims, core, pe, Nat.reduceAdd, Int.reduceBEq, Int.reduceBNe, Int.reduceLT, Int.reduceLE, fx_107, ty, e0 _, e1 _, h0, PEq.same]

theorem eqs_PEq_c (l m : List PEq) (hl : l.length ≤ lenTop) (hc : ∀ x ∈ l, ∀ y ∈ m, Ret C 107 [.agg x.cells, .agg y.cells] (.bool (x.same y))) :
    Ret C 136 [.slice (l.map PEq.cells) .free, .slice (m.map PEq.cells) .free, .func 107 [] []] (.bool (allEq PEq.same l m)) := by
  refine Ret.mk rfl rfl ?_
  by_cases hlen : l.length = m.length
  · rw [C_fn rfl Go.Proofs.Tryz.func136 rfl (by kernel_rfl) (m := 29) rfl]; simp only [sims, core, pe, Nat.reduceAdd, Int.reduceBEq, Int.reduceBNe, Int.reduceLT, Int.reduceLE, Go.Proofs.Tryz.f136, fx_136, hlen, bne_self_eq_false]
    generalize hb : codeB PP cmp0 C lpC _ = f; generalize hl0 : lpC f _ = r
    obtain ⟨ex, s', rfl, h2⟩ := lpC_at (α := Nat) hl0 [6, 7, 8, 9, 18, 19, 20, 21, 22, 23, 24, 25, 26, 27, 28, 29, 30, 31] (fun i => [(17, .int .i64 i)]) (fun i => i ≤ l.length) (fun i => l.length - i) (fun i => allEq PEq.same (l.drop i) (m.drop i))
      (AllPost [6, 7, 8, 9, 17, 18, 19, 20, 21, 22, 23, 24, 25, 26, 27, 28, 29, 30, 31] [7, 8, 9, 17, 18, 19, 20, 21, 22, 23, 24, 25, 26, 27, 28, 29, 30, 31] 6) 0 (Nat.zero_le _) (by simp only [At, ats, Int.natCast_zero]) (by
        intro i j H d hi
        clear hl0; subst hb
        by_cases hlt : i < l.length
        · have e1 : ((i : Int) < (m.length : Int)) := by omega
          have e3 := cells_get PEq.cells l i hlt
          have e4 := cells_get PEq.cells m i (by omega)
          have e5 := hc l[i] (List.getElem_mem hlt) m[i] (List.getElem_mem (by omega))
          simp only [sims, core, pe, Nat.reduceAdd, Int.reduceBEq, Int.reduceBNe, Int.reduceLT, Int.reduceLE, fx_136, ty, e1, e3, e4, e5 _]
          cases hcc : l[i].same m[i]
          · simp only [sims, core, pe, Nat.reduceAdd, Int.reduceBEq, Int.reduceBNe, Int.reduceLT, Int.reduceLE]
            exact .inr ⟨_, _, rfl, by simp, .inr ⟨by simp only [allEq_drop _ l m i hlt (by omega), hcc, Bool.false_and], rfl, by simp only [At, ats, Int.natCast_zero]⟩⟩
          · simp only [sims, core, pe, Nat.reduceAdd, Int.reduceBEq, Int.reduceBNe, Int.reduceLT, Int.reduceLE, wrap_nat (show i ≤ lenTop by omega)]
            exact .inl ⟨i + 1, _, rfl, hlt, by simp only [At, ats, Int.natCast_zero], by simp only []; omega, by simp only [allEq_drop _ l m i hlt (by omega), hcc, Bool.true_and]⟩
        · have e1 : ¬ ((i : Int) < (m.length : Int)) := by omega
          simp only [sims, core, pe, Nat.reduceAdd, Int.reduceBEq, Int.reduceBNe, Int.reduceLT, Int.reduceLE, fx_136, e1]
          exact .inr ⟨_, _, rfl, by simp, .inl ⟨by simp only []; rw [List.drop_eq_nil_of_le (by omega), List.drop_eq_nil_of_le (by omega)]; simp [allEq], rfl, by simp only [At, ats, Int.natCast_zero]⟩⟩)
    rw [List.drop_zero, List.drop_zero] at h2
    rcases h2 with ⟨hr, rfl, h2⟩ | ⟨hr, rfl, h2⟩
    · obtain ⟨j, H, d, rfl⟩ := h2.elim
      clear hl0
      simp only [sims, core, pe, Nat.reduceAdd, Int.reduceBEq, Int.reduceBNe, Int.reduceLT, Int.reduceLE, hr]
    · obtain ⟨j, H, d, rfl⟩ := h2.elim
      clear hl0
      simp only [sims, core, pe, Nat.reduceAdd, Int.reduceBEq, Int.reduceBNe, Int.reduceLT, Int.reduceLE, hr]
  · have e0 : ((l.length : Int) != (m.length : Int)) = true := by simp; omega
    rw [C_fn rfl Go.Proofs.Tryz.func136 rfl (by kernel_rfl) (m := 29) rfl]; simp only [sims, core, pe, Nat.reduceAdd, Int.reduceBEq, Int.reduceBNe, Int.reduceLT, Int.reduceLE, Go.Proofs.Tryz.f136, fx_136, e0, allEq_len PEq.same l m hlen]

def PWay.same (a b : PWay) : Bool := a.to == b.to && a.cond.same b.cond
theorem sameWay_c (a b : PWay) (ha : a.Small) : Ret C 138 [.agg a.cells, .agg b.cells] (.bool (a.same b)) := by
  refine Ret.mk (by simp [refsL, refs, a.norefs, b.norefs]) rfl ?_
  have e1 := sameExpr_c a.cond b.cond ha.1
  rw [C_fn rfl Go.Proofs.Tryz.func138 rfl (by kernel_rfl) (m := 15) rfl]; simp only [sims, core, pe, Nat.reduceAdd, Int.reduceBEq, Int.reduceBNe, Int.reduceLT, Int.reduceLE, Go.Proofs.Tryz.f138, fx_138, ty]
  cases h0 : a.to == b.to
  · simp only [sims, core, pe, Nat.reduceAdd, Int.reduceBEq, Int.reduceBNe, Int.reduceLT, Int.reduceLE, fx_138, ty, e1 _, h0, PWay.same]
  simp only [sims, core, pe, Nat.reduceAdd, Int.reduceBEq, Int.reduceBNe, Int.reduceLT, Int.reduceLE, fx_138, ty, e1 _, h0, PWay.same]

theorem eqs_PWay_c (l m : List PWay) (hl : l.length ≤ lenTop) (hc : ∀ x ∈ l, ∀ y ∈ m, Ret C 138 [.agg x.cells, .agg y.cells] (.bool (x.same y))) :
    Ret C 137 [.slice (l.map PWay.cells) .free, .slice (m.map PWay.cells) .free, .func 138 [] []] (.bool (allEq PWay.same l m)) := by
  refine Ret.mk rfl rfl ?_
  by_cases hlen : l.length = m.length
  · rw [C_fn rfl Go.Proofs.Tryz.func137 rfl (by kernel_rfl) (m := 29) rfl]; simp only [sims, core, pe, Nat.reduceAdd, Int.reduceBEq, Int.reduceBNe, Int.reduceLT, Int.reduceLE, Go.Proofs.Tryz.f137, fx_137, hlen, bne_self_eq_false]
    generalize hb : codeB PP cmp0 C lpC _ = f; generalize hl0 : lpC f _ = r
    obtain ⟨ex, s', rfl, h2⟩ := lpC_at (α := Nat) hl0 [6, 7, 8, 9, 18, 19, 20, 21, 22, 23, 24, 25, 26, 27, 28, 29, 30, 31] (fun i => [(17, .int .i64 i)]) (fun i => i ≤ l.length) (fun i => l.length - i) (fun i => allEq PWay.same (l.drop i) (m.drop i))
      (AllPost [6, 7, 8, 9, 17, 18, 19, 20, 21, 22, 23, 24, 25, 26, 27, 28, 29, 30, 31] [7, 8, 9, 17, 18, 19, 20, 21, 22, 23, 24, 25, 26, 27, 28, 29, 30, 31] 6) 0 (Nat.zero_le _) (by simp only [At, ats, Int.natCast_zero]) (by
        intro i j H d hi
        clear hl0; subst hb
        by_cases hlt : i < l.length
        · have e1 : ((i : Int) < (m.length : Int)) := by omega
          have e3 := cells_get PWay.cells l i hlt
          have e4 := cells_get PWay.cells m i (by omega)
          have e5 := hc l[i] (List.getElem_mem hlt) m[i] (List.getElem_mem (by omega))
          simp only [sims, core, pe, Nat.reduceAdd, Int.reduceBEq, Int.reduceBNe, Int.reduceLT, Int.reduceLE, fx_137, ty, e1, e3, e4, e5 _]
          cases hcc : l[i].same m[i]
          · simp only [sims, core, pe, Nat.reduceAdd, Int.reduceBEq, Int.reduceBNe, Int.reduceLT, Int.reduceLE]
            exact .inr ⟨_, _, rfl, by simp, .inr ⟨by simp only [allEq_drop _ l m i hlt (by omega), hcc, Bool.false_and], rfl, by simp only [At, ats, Int.natCast_zero]⟩⟩
          · simp only [sims, core, pe, Nat.reduceAdd, Int.reduceBEq, Int.reduceBNe, Int.reduceLT, Int.reduceLE, wrap_nat (show i ≤ lenTop by omega)]
            exact .inl ⟨i + 1, _, rfl, hlt, by simp only [At, ats, Int.natCast_zero], by simp only []; omega, by simp only [allEq_drop _ l m i hlt (by omega), hcc, Bool.true_and]⟩
        · have e1 : ¬ ((i : Int) < (m.length : Int)) := by omega
          simp only [sims, core, pe, Nat.reduceAdd, Int.reduceBEq, Int.reduceBNe, Int.reduceLT, Int.reduceLE, fx_137, e1]
          exact .inr ⟨_, _, rfl, by simp, .inl ⟨by simp only []; rw [List.drop_eq_nil_of_le (by omega), List.drop_eq_nil_of_le (by omega)]; simp [allEq], rfl, by simp only [At, ats, Int.natCast_zero]⟩⟩)
    rw [List.drop_zero, List.drop_zero] at h2
    rcases h2 with ⟨hr, rfl, h2⟩ | ⟨hr, rfl, h2⟩
    · obtain ⟨j, H, d, rfl⟩ := h2.elim
      clear hl0
      simp only [sims, core, pe, Nat.reduceAdd, Int.reduceBEq, Int.reduceBNe, Int.reduceLT, Int.reduceLE, hr]
    · obtain ⟨j, H, d, rfl⟩ := h2.elim
      clear hl0
      simp only [sims, core, pe, Nat.reduceAdd, Int.reduceBEq, Int.reduceBNe, Int.reduceLT, Int.reduceLE, hr]
  · have e0 : ((l.length : Int) != (m.length : Int)) = true := by simp; omega
    rw [C_fn rfl Go.Proofs.Tryz.func137 rfl (by kernel_rfl) (m := 29) rfl]; simp only [sims, core, pe, Nat.reduceAdd, Int.reduceBEq, Int.reduceBNe, Int.reduceLT, Int.reduceLE, Go.Proofs.Tryz.f137, fx_137, e0, allEq_len PWay.same l m hlen]

def PState.same (a b : PState) : Bool := a.name == b.name && (allEq PEq.same a.eqs b.eqs) && (allEq PWay.same a.ways b.ways)
theorem sameState_c (a b : PState) (ha : a.Small) : Ret C 109 [.agg a.cells, .agg b.cells] (.bool (a.same b)) := by
  refine Ret.mk (by simp [refsL, refs, a.norefs, b.norefs]) rfl ?_
  have e1 := eqs_PEq_c a.eqs b.eqs ha.2.1 (fun x hx y _ => sameEq_c x y (ha.2.2.1 x hx))
  have e2 := eqs_PWay_c a.ways b.ways ha.2.2.2.1 (fun x hx y _ => sameWay_c x y (ha.2.2.2.2 x hx))
  rw [C_fn rfl Go.Proofs.Tryz.func109 rfl (by kernel_rfl) (m := 22) rfl]; simp only [sims, core, pe, Nat.reduceAdd, Int.reduceBEq, Int.reduceBNe, Int.reduceLT, Int.reduceLE, Go.Proofs.Tryz.f109, fx_109, ty]
  cases h0 : a.name == b.name
  · simp only [sims, core, pe, Nat.reduceAdd, Int.reduceBEq, Int.reduceBNe, Int.reduceLT, Int.reduceLE, fx_109, ty, e1 _, e2 _, h0, PState.same]
  cases h1 : allEq PEq.same a.eqs b.eqs
  · simp only [sims, core, pe, Nat.reduceAdd, Int.reduceBEq, Int.reduceBNe, Int.reduceLT, Int.reduceLE, fx_109, ty, e1 _, e2 _, h0, h1, PState.same]
  simp only [sims, core, pe, Nat.reduceAdd, Int.reduceBEq, Int.reduceBNe, Int.reduceLT, Int.reduceLE, fx_109, ty, e1 _, e2 _, h0, h1, PState.same]

theorem eqs_PState_c (l m : List PState) (hl : l.length ≤ lenTop) (hc : ∀ x ∈ l, ∀ y ∈ m, Ret C 109 [.agg x.cells, .agg y.cells] (.bool (x.same y))) :
    Ret C 108 [.slice (l.map PState.cells) .free, .slice (m.map PState.cells) .free, .func 109 [] []] (.bool (allEq PState.same l m)) := by
  refine Ret.mk rfl rfl ?_
  by_cases hlen : l.length = m.length
  · rw [C_fn rfl Go.Proofs.Tryz.func108 rfl (by kernel_rfl) (m := 29) rfl]; simp only [sims, core, pe, Nat.reduceAdd, Int.reduceBEq, Int.reduceBNe, Int.reduceLT, Int.reduceLE, Go.Proofs.Tryz.f108, fx_108, hlen, bne_self_eq_false]
    generalize hb : codeB PP cmp0 C lpC _ = f; generalize hl0 : lpC f _ = r
    obtain ⟨ex, s', rfl, h2⟩ := lpC_at (α := Nat) hl0 [6, 7, 8, 9, 18, 19, 20, 21, 22, 23, 24, 25, 26, 27, 28, 29, 30, 31] (fun i => [(17, .int .i64 i)]) (fun i => i ≤ l.length) (fun i => l.length - i) (fun i => allEq PState.same (l.drop i) (m.drop i))
      (AllPost [6, 7, 8, 9, 17, 18, 19, 20, 21, 22, 23, 24, 25, 26, 27, 28, 29, 30, 31] [7, 8, 9, 17, 18, 19, 20, 21, 22, 23, 24, 25, 26, 27, 28, 29, 30, 31] 6) 0 (Nat.zero_le _) (by simp only [At, ats, Int.natCast_zero]) (by
        intro i j H d hi
        clear hl0; subst hb
        by_cases hlt : i < l.length
        · have e1 : ((i : Int) < (m.length : Int)) := by omega
          have e3 := cells_get PState.cells l i hlt
          have e4 := cells_get PState.cells m i (by omega)
          have e5 := hc l[i] (List.getElem_mem hlt) m[i] (List.getElem_mem (by omega))
          simp only [sims, core, pe, Nat.reduceAdd, Int.reduceBEq, Int.reduceBNe, Int.reduceLT, Int.reduceLE, fx_108, ty, e1, e3, e4, e5 _]
          cases hcc : l[i].same m[i]
          · simp only [sims, core, pe, Nat.reduceAdd, Int.reduceBEq, Int.reduceBNe, Int.reduceLT, Int.reduceLE]
            exact .inr ⟨_, _, rfl, by simp, .inr ⟨by simp only [allEq_drop _ l m i hlt (by omega), hcc, Bool.false_and], rfl, by simp only [At, ats, Int.natCast_zero]⟩⟩
          · simp only [sims, core, pe, Nat.reduceAdd, Int.reduceBEq, Int.reduceBNe, Int.reduceLT, Int.reduceLE, wrap_nat (show i ≤ lenTop by omega)]
            exact .inl ⟨i + 1, _, rfl, hlt, by simp only [At, ats, Int.natCast_zero], by simp only []; omega, by simp only [allEq_drop _ l m i hlt (by omega), hcc, Bool.true_and]⟩
        · have e1 : ¬ ((i : Int) < (m.length : Int)) := by omega
          simp only [sims, core, pe, Nat.reduceAdd, Int.reduceBEq, Int.reduceBNe, Int.reduceLT, Int.reduceLE, fx_108, e1]
          exact .inr ⟨_, _, rfl, by simp, .inl ⟨by simp only []; rw [List.drop_eq_nil_of_le (by omega), List.drop_eq_nil_of_le (by omega)]; simp [allEq], rfl, by simp only [At, ats, Int.natCast_zero]⟩⟩)
    rw [List.drop_zero, List.drop_zero] at h2
    rcases h2 with ⟨hr, rfl, h2⟩ | ⟨hr, rfl, h2⟩
    · obtain ⟨j, H, d, rfl⟩ := h2.elim
      clear hl0
      simp only [sims, core, pe, Nat.reduceAdd, Int.reduceBEq, Int.reduceBNe, Int.reduceLT, Int.reduceLE, hr]
    · obtain ⟨j, H, d, rfl⟩ := h2.elim
      clear hl0
      simp only [sims, core, pe, Nat.reduceAdd, Int.reduceBEq, Int.reduceBNe, Int.reduceLT, Int.reduceLE, hr]
  · have e0 : ((l.length : Int) != (m.length : Int)) = true := by simp; omega
    rw [C_fn rfl Go.Proofs.Tryz.func108 rfl (by kernel_rfl) (m := 29) rfl]; simp only [sims, core, pe, Nat.reduceAdd, Int.reduceBEq, Int.reduceBNe, Int.reduceLT, Int.reduceLE, Go.Proofs.Tryz.f108, fx_108, e0, allEq_len PState.same l m hlen]

def PItem.same (a b : PItem) : Bool := a.eq.same b.eq && (allEq PState.same a.states b.states)
theorem sameItem_c (a b : PItem) (ha : a.Small) : Ret C 70 [.agg a.cells, .agg b.cells] (.bool (a.same b)) := by
  refine Ret.mk (by simp [refsL, refs, a.norefs, b.norefs]) rfl ?_
  have e0 := sameEq_c a.eq b.eq ha.1
  have e1 := eqs_PState_c a.states b.states ha.2.1 (fun x hx y _ => sameState_c x y (ha.2.2 x hx))
  rw [C_fn rfl Go.Proofs.Tryz.func70 rfl (by kernel_rfl) (m := 15) rfl]; simp only [sims, core, pe, Nat.reduceAdd, Int.reduceBEq, Int.reduceBNe, Int.reduceLT, Int.reduceLE, Go.Proofs.Tryz.f70, fx_70, ty, e0 _]
  cases h0 : a.eq.same b.eq
  · simp only [sims, core, pe, Nat.reduceAdd, Int.reduceBEq, Int.reduceBNe, Int.reduceLT, Int.reduceLE, fx_70, ty, e0 _, e1 _, h0, PItem.same]
  simp only [sims, core, pe, Nat.reduceAdd, Int.reduceBEq, Int.reduceBNe, Int.reduceLT, Int.reduceLE, fx_70, ty, e0 _, e1 _, h0, PItem.same]

theorem eqs_PItem_c (l m : List PItem) (hl : l.length ≤ lenTop) (hc : ∀ x ∈ l, ∀ y ∈ m, Ret C 70 [.agg x.cells, .agg y.cells] (.bool (x.same y))) :
    Ret C 69 [.slice (l.map PItem.cells) .free, .slice (m.map PItem.cells) .free, .func 70 [] []] (.bool (allEq PItem.same l m)) := by
  refine Ret.mk rfl rfl ?_
  by_cases hlen : l.length = m.length
  · rw [C_fn rfl Go.Proofs.Tryz.func69 rfl (by kernel_rfl) (m := 29) rfl]; simp only [sims, core, pe, Nat.reduceAdd, Int.reduceBEq, Int.reduceBNe, Int.reduceLT, Int.reduceLE, Go.Proofs.Tryz.f69, fx_69, hlen, bne_self_eq_false]
    generalize hb : codeB PP cmp0 C lpC _ = f; generalize hl0 : lpC f _ = r
    obtain ⟨ex, s', rfl, h2⟩ := lpC_at (α := Nat) hl0 [6, 7, 8, 9, 18, 19, 20, 21, 22, 23, 24, 25, 26, 27, 28, 29, 30, 31] (fun i => [(17, .int .i64 i)]) (fun i => i ≤ l.length) (fun i => l.length - i) (fun i => allEq PItem.same (l.drop i) (m.drop i))
      (AllPost [6, 7, 8, 9, 17, 18, 19, 20, 21, 22, 23, 24, 25, 26, 27, 28, 29, 30, 31] [7, 8, 9, 17, 18, 19, 20, 21, 22, 23, 24, 25, 26, 27, 28, 29, 30, 31] 6) 0 (Nat.zero_le _) (by simp only [At, ats, Int.natCast_zero]) (by
        intro i j H d hi
        clear hl0; subst hb
        by_cases hlt : i < l.length
        · have e1 : ((i : Int) < (m.length : Int)) := by omega
          have e3 := cells_get PItem.cells l i hlt
          have e4 := cells_get PItem.cells m i (by omega)
          have e5 := hc l[i] (List.getElem_mem hlt) m[i] (List.getElem_mem (by omega))
          simp only [sims, core, pe, Nat.reduceAdd, Int.reduceBEq, Int.reduceBNe, Int.reduceLT, Int.reduceLE, fx_69, ty, e1, e3, e4, e5 _]
          cases hcc : l[i].same m[i]
          · simp only [sims, core, pe, Nat.reduceAdd, Int.reduceBEq, Int.reduceBNe, Int.reduceLT, Int.reduceLE]
            exact .inr ⟨_, _, rfl, by simp, .inr ⟨by simp only [allEq_drop _ l m i hlt (by omega), hcc, Bool.false_and], rfl, by simp only [At, ats, Int.natCast_zero]⟩⟩
          · simp only [sims, core, pe, Nat.reduceAdd, Int.reduceBEq, Int.reduceBNe, Int.reduceLT, Int.reduceLE, wrap_nat (show i ≤ lenTop by omega)]
            exact .inl ⟨i + 1, _, rfl, hlt, by simp only [At, ats, Int.natCast_zero], by simp only []; omega, by simp only [allEq_drop _ l m i hlt (by omega), hcc, Bool.true_and]⟩
        · have e1 : ¬ ((i : Int) < (m.length : Int)) := by omega
          simp only [sims, core, pe, Nat.reduceAdd, Int.reduceBEq, Int.reduceBNe, Int.reduceLT, Int.reduceLE, fx_69, e1]
          exact .inr ⟨_, _, rfl, by simp, .inl ⟨by simp only []; rw [List.drop_eq_nil_of_le (by omega), List.drop_eq_nil_of_le (by omega)]; simp [allEq], rfl, by simp only [At, ats, Int.natCast_zero]⟩⟩)
    rw [List.drop_zero, List.drop_zero] at h2
    rcases h2 with ⟨hr, rfl, h2⟩ | ⟨hr, rfl, h2⟩
    · obtain ⟨j, H, d, rfl⟩ := h2.elim
      clear hl0
      simp only [sims, core, pe, Nat.reduceAdd, Int.reduceBEq, Int.reduceBNe, Int.reduceLT, Int.reduceLE, hr]
    · obtain ⟨j, H, d, rfl⟩ := h2.elim
      clear hl0
      simp only [sims, core, pe, Nat.reduceAdd, Int.reduceBEq, Int.reduceBNe, Int.reduceLT, Int.reduceLE, hr]
  · have e0 : ((l.length : Int) != (m.length : Int)) = true := by simp; omega
    rw [C_fn rfl Go.Proofs.Tryz.func69 rfl (by kernel_rfl) (m := 29) rfl]; simp only [sims, core, pe, Nat.reduceAdd, Int.reduceBEq, Int.reduceBNe, Int.reduceLT, Int.reduceLE, Go.Proofs.Tryz.f69, fx_69, e0, allEq_len PItem.same l m hlen]

def PNode.same (a b : PNode) : Bool := a.name == b.name && a.funs == b.funs && a.ins == b.ins && a.outs == b.outs && (allEq PItem.same a.items b.items)
theorem sameNode_c (a b : PNode) (ha : a.Small) : Ret C 42 [.agg a.cells, .agg b.cells] (.bool (a.same b)) := by
  refine Ret.mk (by simp [refsL, refs, a.norefs, b.norefs]) rfl ?_
  have e1 := equal_c a.funs b.funs ha.2.1.1
  have e2 := equal_c a.ins b.ins ha.2.2.1.1
  have e3 := equal_c a.outs b.outs ha.2.2.2.1.1
  have e4 := eqs_PItem_c a.items b.items ha.2.2.2.2.1 (fun x hx y _ => sameItem_c x y (ha.2.2.2.2.2 x hx))
  rw [C_fn rfl Go.Proofs.Tryz.func42 rfl (by kernel_rfl) (m := 36) rfl]; simp only [sims, core, pe, Nat.reduceAdd, Int.reduceBEq, Int.reduceBNe, Int.reduceLT, Int.reduceLE, Go.Proofs.Tryz.f42, fx_42, ty]
  cases h0 : a.name == b.name
  · simp only [sims, core, pe, Nat.reduceAdd, Int.reduceBEq, Int.reduceBNe, Int.reduceLT, Int.reduceLE, fx_42, ty, e1 _, e2 _, e3 _, e4 _, h0, PNode.same]
  cases h1 : a.funs == b.funs
  · simp only [sims, core, pe, Nat.reduceAdd, Int.reduceBEq, Int.reduceBNe, Int.reduceLT, Int.reduceLE, fx_42, ty, e1 _, e2 _, e3 _, e4 _, h0, h1, PNode.same]
  cases h2 : a.ins == b.ins
  · simp only [sims, core, pe, Nat.reduceAdd, Int.reduceBEq, Int.reduceBNe, Int.reduceLT, Int.reduceLE, fx_42, ty, e1 _, e2 _, e3 _, e4 _, h0, h1, h2, PNode.same]
  cases h3 : a.outs == b.outs
  · simp only [sims, core, pe, Nat.reduceAdd, Int.reduceBEq, Int.reduceBNe, Int.reduceLT, Int.reduceLE, fx_42, ty, e1 _, e2 _, e3 _, e4 _, h0, h1, h2, h3, PNode.same]
  simp only [sims, core, pe, Nat.reduceAdd, Int.reduceBEq, Int.reduceBNe, Int.reduceLT, Int.reduceLE, fx_42, ty, e1 _, e2 _, e3 _, e4 _, h0, h1, h2, h3, PNode.same]

theorem eqs_PNode_c (l m : List PNode) (hl : l.length ≤ lenTop) (hc : ∀ x ∈ l, ∀ y ∈ m, Ret C 42 [.agg x.cells, .agg y.cells] (.bool (x.same y))) :
    Ret C 41 [.slice (l.map PNode.cells) .free, .slice (m.map PNode.cells) .free, .func 42 [] []] (.bool (allEq PNode.same l m)) := by
  refine Ret.mk rfl rfl ?_
  by_cases hlen : l.length = m.length
  · rw [C_fn rfl Go.Proofs.Tryz.func41 rfl (by kernel_rfl) (m := 29) rfl]; simp only [sims, core, pe, Nat.reduceAdd, Int.reduceBEq, Int.reduceBNe, Int.reduceLT, Int.reduceLE, Go.Proofs.Tryz.f41, fx_41, hlen, bne_self_eq_false]
    generalize hb : codeB PP cmp0 C lpC _ = f; generalize hl0 : lpC f _ = r
    obtain ⟨ex, s', rfl, h2⟩ := lpC_at (α := Nat) hl0 [6, 7, 8, 9, 18, 19, 20, 21, 22, 23, 24, 25, 26, 27, 28, 29, 30, 31] (fun i => [(17, .int .i64 i)]) (fun i => i ≤ l.length) (fun i => l.length - i) (fun i => allEq PNode.same (l.drop i) (m.drop i))
      (AllPost [6, 7, 8, 9, 17, 18, 19, 20, 21, 22, 23, 24, 25, 26, 27, 28, 29, 30, 31] [7, 8, 9, 17, 18, 19, 20, 21, 22, 23, 24, 25, 26, 27, 28, 29, 30, 31] 6) 0 (Nat.zero_le _) (by simp only [At, ats, Int.natCast_zero]) (by
        intro i j H d hi
        clear hl0; subst hb
        by_cases hlt : i < l.length
        · have e1 : ((i : Int) < (m.length : Int)) := by omega
          have e3 := cells_get PNode.cells l i hlt
          have e4 := cells_get PNode.cells m i (by omega)
          have e5 := hc l[i] (List.getElem_mem hlt) m[i] (List.getElem_mem (by omega))
          simp only [sims, core, pe, Nat.reduceAdd, Int.reduceBEq, Int.reduceBNe, Int.reduceLT, Int.reduceLE, fx_41, ty, e1, e3, e4, e5 _]
          cases hcc : l[i].same m[i]
          · simp only [sims, core, pe, Nat.reduceAdd, Int.reduceBEq, Int.reduceBNe, Int.reduceLT, Int.reduceLE]
            exact .inr ⟨_, _, rfl, by simp, .inr ⟨by simp only [allEq_drop _ l m i hlt (by omega), hcc, Bool.false_and], rfl, by simp only [At, ats, Int.natCast_zero]⟩⟩
          · simp only [sims, core, pe, Nat.reduceAdd, Int.reduceBEq, Int.reduceBNe, Int.reduceLT, Int.reduceLE, wrap_nat (show i ≤ lenTop by omega)]
            exact .inl ⟨i + 1, _, rfl, hlt, by simp only [At, ats, Int.natCast_zero], by simp only []; omega, by simp only [allEq_drop _ l m i hlt (by omega), hcc, Bool.true_and]⟩
        · have e1 : ¬ ((i : Int) < (m.length : Int)) := by omega
          simp only [sims, core, pe, Nat.reduceAdd, Int.reduceBEq, Int.reduceBNe, Int.reduceLT, Int.reduceLE, fx_41, e1]
          exact .inr ⟨_, _, rfl, by simp, .inl ⟨by simp only []; rw [List.drop_eq_nil_of_le (by omega), List.drop_eq_nil_of_le (by omega)]; simp [allEq], rfl, by simp only [At, ats, Int.natCast_zero]⟩⟩)
    rw [List.drop_zero, List.drop_zero] at h2
    rcases h2 with ⟨hr, rfl, h2⟩ | ⟨hr, rfl, h2⟩
    · obtain ⟨j, H, d, rfl⟩ := h2.elim
      clear hl0
      simp only [sims, core, pe, Nat.reduceAdd, Int.reduceBEq, Int.reduceBNe, Int.reduceLT, Int.reduceLE, hr]
    · obtain ⟨j, H, d, rfl⟩ := h2.elim
      clear hl0
      simp only [sims, core, pe, Nat.reduceAdd, Int.reduceBEq, Int.reduceBNe, Int.reduceLT, Int.reduceLE, hr]
  · have e0 : ((l.length : Int) != (m.length : Int)) = true := by simp; omega
    rw [C_fn rfl Go.Proofs.Tryz.func41 rfl (by kernel_rfl) (m := 29) rfl]; simp only [sims, core, pe, Nat.reduceAdd, Int.reduceBEq, Int.reduceBNe, Int.reduceLT, Int.reduceLE, Go.Proofs.Tryz.f41, fx_41, e0, allEq_len PNode.same l m hlen]

def PProg.same (a b : PProg) : Bool := (allEq PEnum.same a.enums b.enums) && (allEq PNode.same a.nodes b.nodes)
theorem same_c (a b : PProg) (ha : a.Small) : Ret C 15 [.agg a.cells, .agg b.cells] (.bool (a.same b)) := by
  refine Ret.mk (by simp [refsL, refs, a.norefs, b.norefs]) rfl ?_
  have e0 := eqs_PEnum_c a.enums b.enums ha.1 (fun x hx y _ => sameEnum_c x y (ha.2.1 x hx))
  have e1 := eqs_PNode_c a.nodes b.nodes ha.2.2.1 (fun x hx y _ => sameNode_c x y (ha.2.2.2 x hx))
  rw [C_fn rfl Go.Proofs.Tryz.func15 rfl (by kernel_rfl) (m := 15) rfl]; simp only [sims, core, pe, Nat.reduceAdd, Int.reduceBEq, Int.reduceBNe, Int.reduceLT, Int.reduceLE, Go.Proofs.Tryz.f15, fx_15, ty, e0 _]
  cases h0 : allEq PEnum.same a.enums b.enums
  · simp only [sims, core, pe, Nat.reduceAdd, Int.reduceBEq, Int.reduceBNe, Int.reduceLT, Int.reduceLE, fx_15, ty, e0 _, e1 _, h0, PProg.same]
  simp only [sims, core, pe, Nat.reduceAdd, Int.reduceBEq, Int.reduceBNe, Int.reduceLT, Int.reduceLE, fx_15, ty, e0 _, e1 _, h0, PProg.same]

end Go.Ab
