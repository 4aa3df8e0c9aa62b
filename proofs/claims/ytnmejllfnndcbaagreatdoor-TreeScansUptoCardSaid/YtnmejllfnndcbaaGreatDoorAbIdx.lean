/- Does one of a list do? -/
import Derived.Test.YtnmejllfnndcbaaGreatDoorAbSameT
import Derived.Test.YtnmejllfnndcbaaGreatDoorAbBox
set_option linter.unusedSimpArgs false
set_option linter.unusedVariables false
namespace Go.Ab
open Go Go.Ab.Tab
set_option maxRecDepth 100000
set_option maxHeartbeats 4000000
set_option linter.unusedSimpArgs false
def idxP {α : Type} (p : α → Bool) : List α → Nat → Int
  | [], _ => -1
  | x :: r, i => if p x then (i : Int) else idxP p r (i + 1)
theorem idxP_has {α : Type} (p : α → Bool) : ∀ (l : List α) (i : Nat), decide (0 ≤ idxP p l i) = l.any p
  | [], i => by simp [idxP]
  | x :: r, i => by
    by_cases h : p x = true
    · simp only [idxP, List.any_cons, h, if_true, Bool.true_or]
      exact decide_eq_true (Int.natCast_nonneg i)
    · have h' : p x = false := by simpa using h
      simp only [idxP, List.any_cons, h', Bool.false_or]
      exact idxP_has p r (i + 1)

theorem index_Str_c (l : List Str) (hl : l.length ≤ lenTop) (g : FuncId) (fst cap : List AVal) (B : AHeap) (p : Str → Bool) (hp : ∀ x ∈ l, ∀ H, callA C (B ++ H) g (fst ++ (.str x) :: cap) = some (.ret (.bool (p x)) .same)) :
    C 124 [.slice (l.map (fun s => [AVal.str s])) .free, .func g fst cap] B = some (.ret (.int .i64 (idxP p l 0)) .same) := by
  rw [C_fn rfl Go.Proofs.Tryz.func124 rfl (by kernel_rfl) (m := 17) rfl]; simp only [sims, core, pe, Nat.reduceAdd, Int.reduceBEq, Int.reduceBNe, Int.reduceLT, Int.reduceLE, Go.Proofs.Tryz.f124, fx_124]
  generalize hb : codeB PP cmp0 C lpC _ = f; generalize hl0 : lpC f _ = r
  obtain ⟨ex, s', rfl, h2⟩ := lpC_atD (α := Nat) B.length hl0 [4, 5, 9, 10, 11, 12, 13, 14, 15, 16, 17, 18] (fun i => [(8, .int .i64 i)]) (fun i => i ≤ l.length) (fun i => l.length - i) (fun i => idxP p (l.drop i) i)
    (fun ts H r ex st => (ex = .exit 0 ∧ r = -1 ∧ AtD B.length [4, 5, 8, 9, 10, 11, 12, 13, 14, 15, 16, 17, 18] ts H [] st) ∨ (ex = .ret ∧ AtD B.length [5, 8, 9, 10, 11, 12, 13, 14, 15, 16, 17, 18] ts H [(4, .int .i64 r)] st)) 0 (Nat.zero_le _) ⟨by simp only [At, ats, Int.natCast_zero, List.drop_length, List.append_nil], by simp⟩ (by
      intro i j H d hi hd
      clear hl0; subst hb
      by_cases hlt : i < l.length
      · have e1 : ((i : Int) < (l.length : Int)) := by omega
        have e3 : (l.map (fun s => [AVal.str s]))[i]? = some ((fun s => [AVal.str s]) l[i]) := by simp [hlt]
        have e5 := hp l[i] (List.getElem_mem hlt)
        simp only [sims, core, pe, Nat.reduceAdd, Int.reduceBEq, Int.reduceBNe, Int.reduceLT, Int.reduceLE, fx_124, ty, e1, e3, e5]
        cases hc : p l[i]
        · simp only [sims, core, pe, Nat.reduceAdd, Int.reduceBEq, Int.reduceBNe, Int.reduceLT, Int.reduceLE, wrap_nat (show i ≤ lenTop by omega)]
          exact .inl ⟨i + 1, _, rfl, hlt, ⟨by simp only [At, ats, Int.natCast_zero, List.drop_left], hd⟩, by simp only []; omega, by simp only [List.drop_eq_getElem_cons hlt, idxP, hc]; rfl⟩
        · simp only [sims, core, pe, Nat.reduceAdd, Int.reduceBEq, Int.reduceBNe, Int.reduceLT, Int.reduceLE]
          exact .inr ⟨_, _, rfl, by simp, .inr ⟨rfl, by simp only [List.drop_eq_getElem_cons hlt, idxP, hc, if_true, At, ats, List.drop_left], hd⟩⟩
      · have e1 : ¬ ((i : Int) < (l.length : Int)) := by omega
        simp only [sims, core, pe, Nat.reduceAdd, Int.reduceBEq, Int.reduceBNe, Int.reduceLT, Int.reduceLE, fx_124, e1]
        exact .inr ⟨_, _, rfl, by simp, .inl ⟨rfl, by simp only []; rw [List.drop_eq_nil_of_le (by omega)]; rfl, by simp only [At, ats, Int.natCast_zero, List.drop_left], hd⟩⟩)
  rw [List.drop_zero] at h2
  rcases h2 with ⟨rfl, hr, h2⟩ | ⟨rfl, h2⟩
  · obtain ⟨j, H, d, hd, rfl⟩ := h2.elim
    clear hl0
    simp only [sims, core, pe, Nat.reduceAdd, Int.reduceBEq, Int.reduceBNe, Int.reduceLT, Int.reduceLE, hr, leave_clean B.length _ _ d hd, refs_int]
  · obtain ⟨j, H, d, hd, rfl⟩ := h2.elim
    clear hl0
    simp only [sims, core, pe, Nat.reduceAdd, Int.reduceBEq, Int.reduceBNe, Int.reduceLT, Int.reduceLE, leave_clean B.length _ _ d hd, refs_int]

theorem index_PExpr_c (l : List PExpr) (hl : l.length ≤ lenTop) (g : FuncId) (fst cap : List AVal) (B : AHeap) (p : PExpr → Bool) (hp : ∀ x ∈ l, ∀ H, callA C (B ++ H) g (fst ++ (.agg x.cells) :: cap) = some (.ret (.bool (p x)) .same)) :
    C 176 [.slice (l.map PExpr.cells) .free, .func g fst cap] B = some (.ret (.int .i64 (idxP p l 0)) .same) := by
  rw [C_fn rfl Go.Proofs.Tryz.func176 rfl (by kernel_rfl) (m := 17) rfl]; simp only [sims, core, pe, Nat.reduceAdd, Int.reduceBEq, Int.reduceBNe, Int.reduceLT, Int.reduceLE, Go.Proofs.Tryz.f176, fx_176]
  generalize hb : codeB PP cmp0 C lpC _ = f; generalize hl0 : lpC f _ = r
  obtain ⟨ex, s', rfl, h2⟩ := lpC_atD (α := Nat) B.length hl0 [4, 5, 9, 10, 11, 12, 13, 14, 15, 16, 17, 18] (fun i => [(8, .int .i64 i)]) (fun i => i ≤ l.length) (fun i => l.length - i) (fun i => idxP p (l.drop i) i)
    (fun ts H r ex st => (ex = .exit 0 ∧ r = -1 ∧ AtD B.length [4, 5, 8, 9, 10, 11, 12, 13, 14, 15, 16, 17, 18] ts H [] st) ∨ (ex = .ret ∧ AtD B.length [5, 8, 9, 10, 11, 12, 13, 14, 15, 16, 17, 18] ts H [(4, .int .i64 r)] st)) 0 (Nat.zero_le _) ⟨by simp only [At, ats, Int.natCast_zero, List.drop_length, List.append_nil], by simp⟩ (by
      intro i j H d hi hd
      clear hl0; subst hb
      by_cases hlt : i < l.length
      · have e1 : ((i : Int) < (l.length : Int)) := by omega
        have e3 : (l.map PExpr.cells)[i]? = some (PExpr.cells l[i]) := by simp [hlt]
        have e5 := hp l[i] (List.getElem_mem hlt)
        simp only [sims, core, pe, Nat.reduceAdd, Int.reduceBEq, Int.reduceBNe, Int.reduceLT, Int.reduceLE, fx_176, ty, e1, e3, e5]
        cases hc : p l[i]
        · simp only [sims, core, pe, Nat.reduceAdd, Int.reduceBEq, Int.reduceBNe, Int.reduceLT, Int.reduceLE, wrap_nat (show i ≤ lenTop by omega)]
          exact .inl ⟨i + 1, _, rfl, hlt, ⟨by simp only [At, ats, Int.natCast_zero, List.drop_left], hd⟩, by simp only []; omega, by simp only [List.drop_eq_getElem_cons hlt, idxP, hc]; rfl⟩
        · simp only [sims, core, pe, Nat.reduceAdd, Int.reduceBEq, Int.reduceBNe, Int.reduceLT, Int.reduceLE]
          exact .inr ⟨_, _, rfl, by simp, .inr ⟨rfl, by simp only [List.drop_eq_getElem_cons hlt, idxP, hc, if_true, At, ats, List.drop_left], hd⟩⟩
      · have e1 : ¬ ((i : Int) < (l.length : Int)) := by omega
        simp only [sims, core, pe, Nat.reduceAdd, Int.reduceBEq, Int.reduceBNe, Int.reduceLT, Int.reduceLE, fx_176, e1]
        exact .inr ⟨_, _, rfl, by simp, .inl ⟨rfl, by simp only []; rw [List.drop_eq_nil_of_le (by omega)]; rfl, by simp only [At, ats, Int.natCast_zero, List.drop_left], hd⟩⟩)
  rw [List.drop_zero] at h2
  rcases h2 with ⟨rfl, hr, h2⟩ | ⟨rfl, h2⟩
  · obtain ⟨j, H, d, hd, rfl⟩ := h2.elim
    clear hl0
    simp only [sims, core, pe, Nat.reduceAdd, Int.reduceBEq, Int.reduceBNe, Int.reduceLT, Int.reduceLE, hr, leave_clean B.length _ _ d hd, refs_int]
  · obtain ⟨j, H, d, hd, rfl⟩ := h2.elim
    clear hl0
    simp only [sims, core, pe, Nat.reduceAdd, Int.reduceBEq, Int.reduceBNe, Int.reduceLT, Int.reduceLE, leave_clean B.length _ _ d hd, refs_int]

theorem index_PState_c (l : List PState) (hl : l.length ≤ lenTop) (g : FuncId) (fst cap : List AVal) (B : AHeap) (p : PState → Bool) (hp : ∀ x ∈ l, ∀ H, callA C (B ++ H) g (fst ++ (.agg x.cells) :: cap) = some (.ret (.bool (p x)) .same)) :
    C 152 [.slice (l.map PState.cells) .free, .func g fst cap] B = some (.ret (.int .i64 (idxP p l 0)) .same) := by
  rw [C_fn rfl Go.Proofs.Tryz.func152 rfl (by kernel_rfl) (m := 17) rfl]; simp only [sims, core, pe, Nat.reduceAdd, Int.reduceBEq, Int.reduceBNe, Int.reduceLT, Int.reduceLE, Go.Proofs.Tryz.f152, fx_152]
  generalize hb : codeB PP cmp0 C lpC _ = f; generalize hl0 : lpC f _ = r
  obtain ⟨ex, s', rfl, h2⟩ := lpC_atD (α := Nat) B.length hl0 [4, 5, 9, 10, 11, 12, 13, 14, 15, 16, 17, 18] (fun i => [(8, .int .i64 i)]) (fun i => i ≤ l.length) (fun i => l.length - i) (fun i => idxP p (l.drop i) i)
    (fun ts H r ex st => (ex = .exit 0 ∧ r = -1 ∧ AtD B.length [4, 5, 8, 9, 10, 11, 12, 13, 14, 15, 16, 17, 18] ts H [] st) ∨ (ex = .ret ∧ AtD B.length [5, 8, 9, 10, 11, 12, 13, 14, 15, 16, 17, 18] ts H [(4, .int .i64 r)] st)) 0 (Nat.zero_le _) ⟨by simp only [At, ats, Int.natCast_zero, List.drop_length, List.append_nil], by simp⟩ (by
      intro i j H d hi hd
      clear hl0; subst hb
      by_cases hlt : i < l.length
      · have e1 : ((i : Int) < (l.length : Int)) := by omega
        have e3 : (l.map PState.cells)[i]? = some (PState.cells l[i]) := by simp [hlt]
        have e5 := hp l[i] (List.getElem_mem hlt)
        simp only [sims, core, pe, Nat.reduceAdd, Int.reduceBEq, Int.reduceBNe, Int.reduceLT, Int.reduceLE, fx_152, ty, e1, e3, e5]
        cases hc : p l[i]
        · simp only [sims, core, pe, Nat.reduceAdd, Int.reduceBEq, Int.reduceBNe, Int.reduceLT, Int.reduceLE, wrap_nat (show i ≤ lenTop by omega)]
          exact .inl ⟨i + 1, _, rfl, hlt, ⟨by simp only [At, ats, Int.natCast_zero, List.drop_left], hd⟩, by simp only []; omega, by simp only [List.drop_eq_getElem_cons hlt, idxP, hc]; rfl⟩
        · simp only [sims, core, pe, Nat.reduceAdd, Int.reduceBEq, Int.reduceBNe, Int.reduceLT, Int.reduceLE]
          exact .inr ⟨_, _, rfl, by simp, .inr ⟨rfl, by simp only [List.drop_eq_getElem_cons hlt, idxP, hc, if_true, At, ats, List.drop_left], hd⟩⟩
      · have e1 : ¬ ((i : Int) < (l.length : Int)) := by omega
        simp only [sims, core, pe, Nat.reduceAdd, Int.reduceBEq, Int.reduceBNe, Int.reduceLT, Int.reduceLE, fx_152, e1]
        exact .inr ⟨_, _, rfl, by simp, .inl ⟨rfl, by simp only []; rw [List.drop_eq_nil_of_le (by omega)]; rfl, by simp only [At, ats, Int.natCast_zero, List.drop_left], hd⟩⟩)
  rw [List.drop_zero] at h2
  rcases h2 with ⟨rfl, hr, h2⟩ | ⟨rfl, h2⟩
  · obtain ⟨j, H, d, hd, rfl⟩ := h2.elim
    clear hl0
    simp only [sims, core, pe, Nat.reduceAdd, Int.reduceBEq, Int.reduceBNe, Int.reduceLT, Int.reduceLE, hr, leave_clean B.length _ _ d hd, refs_int]
  · obtain ⟨j, H, d, hd, rfl⟩ := h2.elim
    clear hl0
    simp only [sims, core, pe, Nat.reduceAdd, Int.reduceBEq, Int.reduceBNe, Int.reduceLT, Int.reduceLE, leave_clean B.length _ _ d hd, refs_int]

theorem index_PItem_c (l : List PItem) (hl : l.length ≤ lenTop) (g : FuncId) (fst cap : List AVal) (B : AHeap) (p : PItem → Bool) (hp : ∀ x ∈ l, ∀ H, callA C (B ++ H) g (fst ++ (.agg x.cells) :: cap) = some (.ret (.bool (p x)) .same)) :
    C 125 [.slice (l.map PItem.cells) .free, .func g fst cap] B = some (.ret (.int .i64 (idxP p l 0)) .same) := by
  rw [C_fn rfl Go.Proofs.Tryz.func125 rfl (by kernel_rfl) (m := 17) rfl]; simp only [sims, core, pe, Nat.reduceAdd, Int.reduceBEq, Int.reduceBNe, Int.reduceLT, Int.reduceLE, Go.Proofs.Tryz.f125, fx_125]
  generalize hb : codeB PP cmp0 C lpC _ = f; generalize hl0 : lpC f _ = r
  obtain ⟨ex, s', rfl, h2⟩ := lpC_atD (α := Nat) B.length hl0 [4, 5, 9, 10, 11, 12, 13, 14, 15, 16, 17, 18] (fun i => [(8, .int .i64 i)]) (fun i => i ≤ l.length) (fun i => l.length - i) (fun i => idxP p (l.drop i) i)
    (fun ts H r ex st => (ex = .exit 0 ∧ r = -1 ∧ AtD B.length [4, 5, 8, 9, 10, 11, 12, 13, 14, 15, 16, 17, 18] ts H [] st) ∨ (ex = .ret ∧ AtD B.length [5, 8, 9, 10, 11, 12, 13, 14, 15, 16, 17, 18] ts H [(4, .int .i64 r)] st)) 0 (Nat.zero_le _) ⟨by simp only [At, ats, Int.natCast_zero, List.drop_length, List.append_nil], by simp⟩ (by
      intro i j H d hi hd
      clear hl0; subst hb
      by_cases hlt : i < l.length
      · have e1 : ((i : Int) < (l.length : Int)) := by omega
        have e3 : (l.map PItem.cells)[i]? = some (PItem.cells l[i]) := by simp [hlt]
        have e5 := hp l[i] (List.getElem_mem hlt)
        simp only [sims, core, pe, Nat.reduceAdd, Int.reduceBEq, Int.reduceBNe, Int.reduceLT, Int.reduceLE, fx_125, ty, e1, e3, e5]
        cases hc : p l[i]
        · simp only [sims, core, pe, Nat.reduceAdd, Int.reduceBEq, Int.reduceBNe, Int.reduceLT, Int.reduceLE, wrap_nat (show i ≤ lenTop by omega)]
          exact .inl ⟨i + 1, _, rfl, hlt, ⟨by simp only [At, ats, Int.natCast_zero, List.drop_left], hd⟩, by simp only []; omega, by simp only [List.drop_eq_getElem_cons hlt, idxP, hc]; rfl⟩
        · simp only [sims, core, pe, Nat.reduceAdd, Int.reduceBEq, Int.reduceBNe, Int.reduceLT, Int.reduceLE]
          exact .inr ⟨_, _, rfl, by simp, .inr ⟨rfl, by simp only [List.drop_eq_getElem_cons hlt, idxP, hc, if_true, At, ats, List.drop_left], hd⟩⟩
      · have e1 : ¬ ((i : Int) < (l.length : Int)) := by omega
        simp only [sims, core, pe, Nat.reduceAdd, Int.reduceBEq, Int.reduceBNe, Int.reduceLT, Int.reduceLE, fx_125, e1]
        exact .inr ⟨_, _, rfl, by simp, .inl ⟨rfl, by simp only []; rw [List.drop_eq_nil_of_le (by omega)]; rfl, by simp only [At, ats, Int.natCast_zero, List.drop_left], hd⟩⟩)
  rw [List.drop_zero] at h2
  rcases h2 with ⟨rfl, hr, h2⟩ | ⟨rfl, h2⟩
  · obtain ⟨j, H, d, hd, rfl⟩ := h2.elim
    clear hl0
    simp only [sims, core, pe, Nat.reduceAdd, Int.reduceBEq, Int.reduceBNe, Int.reduceLT, Int.reduceLE, hr, leave_clean B.length _ _ d hd, refs_int]
  · obtain ⟨j, H, d, hd, rfl⟩ := h2.elim
    clear hl0
    simp only [sims, core, pe, Nat.reduceAdd, Int.reduceBEq, Int.reduceBNe, Int.reduceLT, Int.reduceLE, leave_clean B.length _ _ d hd, refs_int]

theorem index_PNode_c (l : List PNode) (hl : l.length ≤ lenTop) (g : FuncId) (fst cap : List AVal) (B : AHeap) (p : PNode → Bool) (hp : ∀ x ∈ l, ∀ H, callA C (B ++ H) g (fst ++ (.agg x.cells) :: cap) = some (.ret (.bool (p x)) .same)) :
    C 97 [.slice (l.map PNode.cells) .free, .func g fst cap] B = some (.ret (.int .i64 (idxP p l 0)) .same) := by
  rw [C_fn rfl Go.Proofs.Tryz.func97 rfl (by kernel_rfl) (m := 17) rfl]; simp only [sims, core, pe, Nat.reduceAdd, Int.reduceBEq, Int.reduceBNe, Int.reduceLT, Int.reduceLE, Go.Proofs.Tryz.f97, fx_97]
  generalize hb : codeB PP cmp0 C lpC _ = f; generalize hl0 : lpC f _ = r
  obtain ⟨ex, s', rfl, h2⟩ := lpC_atD (α := Nat) B.length hl0 [4, 5, 9, 10, 11, 12, 13, 14, 15, 16, 17, 18] (fun i => [(8, .int .i64 i)]) (fun i => i ≤ l.length) (fun i => l.length - i) (fun i => idxP p (l.drop i) i)
    (fun ts H r ex st => (ex = .exit 0 ∧ r = -1 ∧ AtD B.length [4, 5, 8, 9, 10, 11, 12, 13, 14, 15, 16, 17, 18] ts H [] st) ∨ (ex = .ret ∧ AtD B.length [5, 8, 9, 10, 11, 12, 13, 14, 15, 16, 17, 18] ts H [(4, .int .i64 r)] st)) 0 (Nat.zero_le _) ⟨by simp only [At, ats, Int.natCast_zero, List.drop_length, List.append_nil], by simp⟩ (by
      intro i j H d hi hd
      clear hl0; subst hb
      by_cases hlt : i < l.length
      · have e1 : ((i : Int) < (l.length : Int)) := by omega
        have e3 : (l.map PNode.cells)[i]? = some (PNode.cells l[i]) := by simp [hlt]
        have e5 := hp l[i] (List.getElem_mem hlt)
        simp only [sims, core, pe, Nat.reduceAdd, Int.reduceBEq, Int.reduceBNe, Int.reduceLT, Int.reduceLE, fx_97, ty, e1, e3, e5]
        cases hc : p l[i]
        · simp only [sims, core, pe, Nat.reduceAdd, Int.reduceBEq, Int.reduceBNe, Int.reduceLT, Int.reduceLE, wrap_nat (show i ≤ lenTop by omega)]
          exact .inl ⟨i + 1, _, rfl, hlt, ⟨by simp only [At, ats, Int.natCast_zero, List.drop_left], hd⟩, by simp only []; omega, by simp only [List.drop_eq_getElem_cons hlt, idxP, hc]; rfl⟩
        · simp only [sims, core, pe, Nat.reduceAdd, Int.reduceBEq, Int.reduceBNe, Int.reduceLT, Int.reduceLE]
          exact .inr ⟨_, _, rfl, by simp, .inr ⟨rfl, by simp only [List.drop_eq_getElem_cons hlt, idxP, hc, if_true, At, ats, List.drop_left], hd⟩⟩
      · have e1 : ¬ ((i : Int) < (l.length : Int)) := by omega
        simp only [sims, core, pe, Nat.reduceAdd, Int.reduceBEq, Int.reduceBNe, Int.reduceLT, Int.reduceLE, fx_97, e1]
        exact .inr ⟨_, _, rfl, by simp, .inl ⟨rfl, by simp only []; rw [List.drop_eq_nil_of_le (by omega)]; rfl, by simp only [At, ats, Int.natCast_zero, List.drop_left], hd⟩⟩)
  rw [List.drop_zero] at h2
  rcases h2 with ⟨rfl, hr, h2⟩ | ⟨rfl, h2⟩
  · obtain ⟨j, H, d, hd, rfl⟩ := h2.elim
    clear hl0
    simp only [sims, core, pe, Nat.reduceAdd, Int.reduceBEq, Int.reduceBNe, Int.reduceLT, Int.reduceLE, hr, leave_clean B.length _ _ d hd, refs_int]
  · obtain ⟨j, H, d, hd, rfl⟩ := h2.elim
    clear hl0
    simp only [sims, core, pe, Nat.reduceAdd, Int.reduceBEq, Int.reduceBNe, Int.reduceLT, Int.reduceLE, leave_clean B.length _ _ d hd, refs_int]

theorem contains_Str_c (l : List Str) (hl : l.length ≤ lenTop) (g : FuncId) (cs : List AVal) (hcs : refsL cs = []) (p : Str → Bool) (hp : ∀ x ∈ l, ∀ H, callA C (.box cs :: H) g [.str x, .ptr 0 0] = some (.ret (.bool (p x)) .same)) :
    C 94 [.slice (l.map (fun s => [AVal.str s])) .free, .func g [] [.ptr 0 0]] [.box cs] = some (.ret (.bool (l.any p)) .same) := by
  have e1 : ∀ H, callA C (.box cs :: H) 124 [.slice (l.map (fun s => [AVal.str s])) .free, .func g [] [.ptr 0 0]] = some (.ret (.int .i64 (idxP p l 0)) .same) := fun H =>
    callA_box1 (b := 0) _ rfl rfl hcs (index_Str_c l hl g [] [.ptr 0 0] [.box cs] p hp) rfl
  rw [C_fn rfl Go.Proofs.Tryz.func94 rfl (by kernel_rfl) (m := 7) rfl]; simp only [sims, core, pe, Nat.reduceAdd, Int.reduceBEq, Int.reduceBNe, Int.reduceLT, Int.reduceLE, Go.Proofs.Tryz.f94, fx_94, e1, idxP_has, leave_clean 1 _ _ [] (by simp)]

theorem contains_PExpr_c (l : List PExpr) (hl : l.length ≤ lenTop) (g : FuncId) (cs : List AVal) (hcs : refsL cs = []) (p : PExpr → Bool) (hp : ∀ x ∈ l, ∀ H, callA C (.box cs :: H) g [.agg x.cells, .ptr 0 0] = some (.ret (.bool (p x)) .same)) :
    C 165 [.slice (l.map PExpr.cells) .free, .func g [] [.ptr 0 0]] [.box cs] = some (.ret (.bool (l.any p)) .same) := by
  have e1 : ∀ H, callA C (.box cs :: H) 176 [.slice (l.map PExpr.cells) .free, .func g [] [.ptr 0 0]] = some (.ret (.int .i64 (idxP p l 0)) .same) := fun H =>
    callA_box1 (b := 0) _ rfl rfl hcs (index_PExpr_c l hl g [] [.ptr 0 0] [.box cs] p hp) rfl
  rw [C_fn rfl Go.Proofs.Tryz.func165 rfl (by kernel_rfl) (m := 7) rfl]; simp only [sims, core, pe, Nat.reduceAdd, Int.reduceBEq, Int.reduceBNe, Int.reduceLT, Int.reduceLE, Go.Proofs.Tryz.f165, fx_165, e1, idxP_has, leave_clean 1 _ _ [] (by simp)]

theorem contains_PState_c (l : List PState) (hl : l.length ≤ lenTop) (g : FuncId) (cs : List AVal) (hcs : refsL cs = []) (p : PState → Bool) (hp : ∀ x ∈ l, ∀ H, callA C (.box cs :: H) g [.agg x.cells, .ptr 0 0] = some (.ret (.bool (p x)) .same)) :
    C 127 [.slice (l.map PState.cells) .free, .func g [] [.ptr 0 0]] [.box cs] = some (.ret (.bool (l.any p)) .same) := by
  have e1 : ∀ H, callA C (.box cs :: H) 152 [.slice (l.map PState.cells) .free, .func g [] [.ptr 0 0]] = some (.ret (.int .i64 (idxP p l 0)) .same) := fun H =>
    callA_box1 (b := 0) _ rfl rfl hcs (index_PState_c l hl g [] [.ptr 0 0] [.box cs] p hp) rfl
  rw [C_fn rfl Go.Proofs.Tryz.func127 rfl (by kernel_rfl) (m := 7) rfl]; simp only [sims, core, pe, Nat.reduceAdd, Int.reduceBEq, Int.reduceBNe, Int.reduceLT, Int.reduceLE, Go.Proofs.Tryz.f127, fx_127, e1, idxP_has, leave_clean 1 _ _ [] (by simp)]

theorem contains_PItem_c (l : List PItem) (hl : l.length ≤ lenTop) (g : FuncId) (cs : List AVal) (hcs : refsL cs = []) (p : PItem → Bool) (hp : ∀ x ∈ l, ∀ H, callA C (.box cs :: H) g [.agg x.cells, .ptr 0 0] = some (.ret (.bool (p x)) .same)) :
    C 98 [.slice (l.map PItem.cells) .free, .func g [] [.ptr 0 0]] [.box cs] = some (.ret (.bool (l.any p)) .same) := by
  have e1 : ∀ H, callA C (.box cs :: H) 125 [.slice (l.map PItem.cells) .free, .func g [] [.ptr 0 0]] = some (.ret (.int .i64 (idxP p l 0)) .same) := fun H =>
    callA_box1 (b := 0) _ rfl rfl hcs (index_PItem_c l hl g [] [.ptr 0 0] [.box cs] p hp) rfl
  rw [C_fn rfl Go.Proofs.Tryz.func98 rfl (by kernel_rfl) (m := 7) rfl]; simp only [sims, core, pe, Nat.reduceAdd, Int.reduceBEq, Int.reduceBNe, Int.reduceLT, Int.reduceLE, Go.Proofs.Tryz.f98, fx_98, e1, idxP_has, leave_clean 1 _ _ [] (by simp)]

theorem contains_PNode_c (l : List PNode) (hl : l.length ≤ lenTop) (g : FuncId) (cs : List AVal) (hcs : refsL cs = []) (p : PNode → Bool) (hp : ∀ x ∈ l, ∀ H, callA C (.box cs :: H) g [.agg x.cells, .ptr 0 0] = some (.ret (.bool (p x)) .same)) :
    C 58 [.slice (l.map PNode.cells) .free, .func g [] [.ptr 0 0]] [.box cs] = some (.ret (.bool (l.any p)) .same) := by
  have e1 : ∀ H, callA C (.box cs :: H) 97 [.slice (l.map PNode.cells) .free, .func g [] [.ptr 0 0]] = some (.ret (.int .i64 (idxP p l 0)) .same) := fun H =>
    callA_box1 (b := 0) _ rfl rfl hcs (index_PNode_c l hl g [] [.ptr 0 0] [.box cs] p hp) rfl
  rw [C_fn rfl Go.Proofs.Tryz.func58 rfl (by kernel_rfl) (m := 7) rfl]; simp only [sims, core, pe, Nat.reduceAdd, Int.reduceBEq, Int.reduceBNe, Int.reduceLT, Int.reduceLE, Go.Proofs.Tryz.f58, fx_58, e1, idxP_has, leave_clean 1 _ _ [] (by simp)]

end Go.Ab
