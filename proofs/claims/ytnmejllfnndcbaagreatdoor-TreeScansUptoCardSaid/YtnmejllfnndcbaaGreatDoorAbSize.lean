/- Sizes and depths. -/
import Derived.Test.YtnmejllfnndcbaaGreatDoorAbBase
set_option linter.unusedSimpArgs false
set_option linter.unusedVariables false
namespace Go.Ab
open Go Go.Ab.Tab
set_option maxRecDepth 100000
set_option maxHeartbeats 4000000
set_option linter.unusedSimpArgs false
mutual
def PExpr.size : PExpr → Int
  | .mk _ _ _ _ ks => sizeL ks 1
def sizeL : List PExpr → Int → Int
  | [], a => a
  | k :: r, a => sizeL r (wadd a k.size)
end
def imax (a b : Int) : Int := if a < b then b else a
mutual
def PExpr.depth : PExpr → Int
  | .mk _ _ _ _ ks => wadd (depthL ks 0) 1
def depthL : List PExpr → Int → Int
  | [], a => a
  | k :: r, a => depthL r (imax a k.depth)
end
theorem size_c (e : PExpr) (hsm : e.Small) : Ret C 17 [.agg e.cells] (.int .i64 e.size) := by
  induction e using PExpr.induct with
  | h op name n cons ks ih =>
  obtain ⟨hkl, hks⟩ := hsm.kids
  simp only [PExpr.kids] at hkl hks
  refine Ret.mk (by simp [refsL, refs_agg (PExpr.ok _)]) rfl ?_
  rw [C_fn rfl Go.Proofs.Tryz.func17 rfl (by kernel_rfl) (m := 18) rfl]; simp only [sims, core, pe, Nat.reduceAdd, Int.reduceBEq, Int.reduceBNe, Int.reduceLT, Int.reduceLE, Go.Proofs.Tryz.f17, fx_17, PExpr.kids]
  generalize hb : codeB PP cmp0 C lpC _ = f; generalize hl : lpC f _ = r
  obtain ⟨ex, s', rfl, rfl, h2⟩ := lpC_at (α := Nat × Int) hl [5, 10, 11, 12, 13, 14, 15, 16, 17] (fun a => [(3, .int .i64 a.2), (9, .int .i64 a.1)]) (fun a => a.1 ≤ ks.length) (fun a => ks.length - a.1) (fun a => sizeL (ks.drop a.1) a.2)
    (fun ts H r ex s => ex = .exit 0 ∧ At [5, 9, 10, 11, 12, 13, 14, 15, 16, 17] ts H [(3, .int .i64 r)] s) (0, 1) (Nat.zero_le _) (by simp only [At, ats, Int.natCast_zero]) (by
      rintro ⟨i, a⟩ j H d hi
      clear hl; subst hb
      simp only [sims, core, pe, Nat.reduceAdd, Int.reduceBEq, Int.reduceBNe, Int.reduceLT, Int.reduceLE, fx_17]
      by_cases hlt : i < ks.length
      · have e1 : ((i : Int) < (ks.length : Int)) := by omega
        have e3 : (ks.map PExpr.cells)[i]? = some (ks[i].cells) := by simp [hlt]
        simp only [sims, core, pe, Nat.reduceAdd, Int.reduceBEq, Int.reduceBNe, Int.reduceLT, Int.reduceLE, fx_17, e1, e3, setCells_all, (ih ks[i] (List.getElem_mem hlt) (hks _ (List.getElem_mem hlt))) _, wrap_nat (show i ≤ lenTop by omega)]
        refine .inl ⟨(i + 1, wadd a ks[i].size), _, rfl, hlt, by simp only [At, ats, wadd, imax], by simp only []; omega, ?_⟩
        simp only [List.drop_eq_getElem_cons hlt, sizeL]
      · have e1 : ¬ ((i : Int) < (ks.length : Int)) := by omega
        simp only [sims, core, pe, Nat.reduceAdd, Int.reduceBEq, Int.reduceBNe, Int.reduceLT, Int.reduceLE, fx_17, e1]
        refine .inr ⟨_, _, rfl, by simp, rfl, ?_⟩
        simp only [List.drop_eq_nil_of_le (Nat.le_of_not_lt hlt), sizeL, At, ats])
  obtain ⟨j, H, d, rfl⟩ := h2.elim
  clear hl
  simp only [sims, core, pe, Nat.reduceAdd, Int.reduceBEq, Int.reduceBNe, Int.reduceLT, Int.reduceLE]
  simp [PExpr.size, wadd]
theorem depth_c (e : PExpr) (hsm : e.Small) : Ret C 18 [.agg e.cells] (.int .i64 e.depth) := by
  induction e using PExpr.induct with
  | h op name n cons ks ih =>
  obtain ⟨hkl, hks⟩ := hsm.kids
  simp only [PExpr.kids] at hkl hks
  refine Ret.mk (by simp [refsL, refs_agg (PExpr.ok _)]) rfl ?_
  rw [C_fn rfl Go.Proofs.Tryz.func18 rfl (by kernel_rfl) (m := 19) rfl]; simp only [sims, core, pe, Nat.reduceAdd, Int.reduceBEq, Int.reduceBNe, Int.reduceLT, Int.reduceLE, Go.Proofs.Tryz.f18, fx_18, PExpr.kids]
  generalize hb : codeB PP cmp0 C lpC _ = f; generalize hl : lpC f _ = r
  obtain ⟨ex, s', rfl, rfl, h2⟩ := lpC_at (α := Nat × Int) hl [5, 10, 11, 12, 13, 14, 15, 16, 17] (fun a => [(3, .int .i64 a.2), (9, .int .i64 a.1)]) (fun a => a.1 ≤ ks.length) (fun a => ks.length - a.1) (fun a => depthL (ks.drop a.1) a.2)
    (fun ts H r ex s => ex = .exit 0 ∧ At [5, 9, 10, 11, 12, 13, 14, 15, 16, 17] ts H [(3, .int .i64 r)] s) (0, 0) (Nat.zero_le _) (by simp only [At, ats, Int.natCast_zero]) (by
      rintro ⟨i, a⟩ j H d hi
      clear hl; subst hb
      simp only [sims, core, pe, Nat.reduceAdd, Int.reduceBEq, Int.reduceBNe, Int.reduceLT, Int.reduceLE, fx_18]
      by_cases hlt : i < ks.length
      · have e1 : ((i : Int) < (ks.length : Int)) := by omega
        have e3 : (ks.map PExpr.cells)[i]? = some (ks[i].cells) := by simp [hlt]
        simp only [sims, core, pe, Nat.reduceAdd, Int.reduceBEq, Int.reduceBNe, Int.reduceLT, Int.reduceLE, fx_18, e1, e3, setCells_all, (ih ks[i] (List.getElem_mem hlt) (hks _ (List.getElem_mem hlt))) _, wrap_nat (show i ≤ lenTop by omega)]
        refine .inl ⟨(i + 1, imax a ks[i].depth), _, rfl, hlt, by simp only [At, ats, wadd, imax], by simp only []; omega, ?_⟩
        simp only [List.drop_eq_getElem_cons hlt, depthL]
      · have e1 : ¬ ((i : Int) < (ks.length : Int)) := by omega
        simp only [sims, core, pe, Nat.reduceAdd, Int.reduceBEq, Int.reduceBNe, Int.reduceLT, Int.reduceLE, fx_18, e1]
        refine .inr ⟨_, _, rfl, by simp, rfl, ?_⟩
        simp only [List.drop_eq_nil_of_le (Nat.le_of_not_lt hlt), depthL, At, ats])
  obtain ⟨j, H, d, rfl⟩ := h2.elim
  clear hl
  simp only [sims, core, pe, Nat.reduceAdd, Int.reduceBEq, Int.reduceBNe, Int.reduceLT, Int.reduceLE]
  simp [PExpr.depth, wadd]
theorem rsize_c (e : PExpr) (hsm : e.Small) : Ret C 19 [.agg e.cells] (.int .i64 e.size) := by
  induction e using PExpr.induct with
  | h op name n cons ks ih =>
  obtain ⟨hkl, hks⟩ := hsm.kids
  simp only [PExpr.kids] at hkl hks
  refine Ret.mk (by simp [refsL, refs_agg (PExpr.ok _)]) rfl ?_
  rw [C_fn rfl Go.Proofs.Tryz.func19 rfl (by kernel_rfl) (m := 20) rfl]; simp only [sims, core, pe, Nat.reduceAdd, Int.reduceBEq, Int.reduceBNe, Int.reduceLT, Int.reduceLE, Go.Proofs.Tryz.f19, fx_19, PExpr.kids]
  generalize hb : codeB PP cmp0 C lpC _ = f; generalize hl : lpC f _ = r
  obtain ⟨ex, s', rfl, rfl, h2⟩ := lpC_at (α := Nat × Int) hl [5, 6, 7, 8, 9, 10, 11, 12, 13, 14, 15, 16, 17, 18, 19] (fun a => [(3, .int .i64 a.2), (4, .int .i64 a.1)]) (fun a => a.1 ≤ ks.length) (fun a => ks.length - a.1) (fun a => sizeL (ks.drop a.1) a.2)
    (fun ts H r ex s => ex = .exit 0 ∧ At [4, 5, 6, 7, 8, 9, 10, 11, 12, 13, 14, 15, 16, 17, 18, 19] ts H [(3, .int .i64 r)] s) (0, 1) (Nat.zero_le _) (by simp only [At, ats, Int.natCast_zero]) (by
      rintro ⟨i, a⟩ j H d hi
      clear hl; subst hb
      by_cases hlt : i < ks.length
      · have e1 : ((i : Int) < (ks.length : Int)) := by omega
        have e3 : (ks.map PExpr.cells)[i]? = some (ks[i].cells) := by simp [hlt]
        simp only [sims, core, pe, Nat.reduceAdd, Int.reduceBEq, Int.reduceBNe, Int.reduceLT, Int.reduceLE, fx_19, e1, e3, PExpr.kids, un_34, (ih ks[i] (List.getElem_mem hlt) (hks _ (List.getElem_mem hlt))) _, wrap_nat (show i ≤ lenTop by omega)]
        refine .inl ⟨(i + 1, wadd a ks[i].size), _, rfl, hlt, by simp only [At, ats, wadd, imax], by simp only []; omega, ?_⟩
        simp only [List.drop_eq_getElem_cons hlt, sizeL]
      · have e1 : ¬ ((i : Int) < (ks.length : Int)) := by omega
        simp only [sims, core, pe, Nat.reduceAdd, Int.reduceBEq, Int.reduceBNe, Int.reduceLT, Int.reduceLE, fx_19, PExpr.kids, e1]
        refine .inr ⟨_, _, rfl, by simp, rfl, ?_⟩
        simp only [List.drop_eq_nil_of_le (Nat.le_of_not_lt hlt), sizeL, At, ats])
  obtain ⟨j, H, d, rfl⟩ := h2.elim
  clear hl
  simp only [sims, core, pe, Nat.reduceAdd, Int.reduceBEq, Int.reduceBNe, Int.reduceLT, Int.reduceLE]
  simp [PExpr.size, wadd]
theorem rdepth_c (e : PExpr) (hsm : e.Small) : Ret C 20 [.agg e.cells] (.int .i64 e.depth) := by
  induction e using PExpr.induct with
  | h op name n cons ks ih =>
  obtain ⟨hkl, hks⟩ := hsm.kids
  simp only [PExpr.kids] at hkl hks
  refine Ret.mk (by simp [refsL, refs_agg (PExpr.ok _)]) rfl ?_
  rw [C_fn rfl Go.Proofs.Tryz.func20 rfl (by kernel_rfl) (m := 21) rfl]; simp only [sims, core, pe, Nat.reduceAdd, Int.reduceBEq, Int.reduceBNe, Int.reduceLT, Int.reduceLE, Go.Proofs.Tryz.f20, fx_20, PExpr.kids]
  generalize hb : codeB PP cmp0 C lpC _ = f; generalize hl : lpC f _ = r
  obtain ⟨ex, s', rfl, rfl, h2⟩ := lpC_at (α := Nat × Int) hl [5, 6, 7, 8, 9, 10, 11, 12, 13, 14, 15, 16, 17, 18, 19] (fun a => [(3, .int .i64 a.2), (4, .int .i64 a.1)]) (fun a => a.1 ≤ ks.length) (fun a => ks.length - a.1) (fun a => depthL (ks.drop a.1) a.2)
    (fun ts H r ex s => ex = .exit 0 ∧ At [4, 5, 6, 7, 8, 9, 10, 11, 12, 13, 14, 15, 16, 17, 18, 19] ts H [(3, .int .i64 r)] s) (0, 0) (Nat.zero_le _) (by simp only [At, ats, Int.natCast_zero]) (by
      rintro ⟨i, a⟩ j H d hi
      clear hl; subst hb
      by_cases hlt : i < ks.length
      · have e1 : ((i : Int) < (ks.length : Int)) := by omega
        have e3 : (ks.map PExpr.cells)[i]? = some (ks[i].cells) := by simp [hlt]
        simp only [sims, core, pe, Nat.reduceAdd, Int.reduceBEq, Int.reduceBNe, Int.reduceLT, Int.reduceLE, fx_20, e1, e3, PExpr.kids, un_34, (ih ks[i] (List.getElem_mem hlt) (hks _ (List.getElem_mem hlt))) _, wrap_nat (show i ≤ lenTop by omega)]
        refine .inl ⟨(i + 1, imax a ks[i].depth), _, rfl, hlt, by simp only [At, ats, wadd, imax], by simp only []; omega, ?_⟩
        simp only [List.drop_eq_getElem_cons hlt, depthL]
      · have e1 : ¬ ((i : Int) < (ks.length : Int)) := by omega
        simp only [sims, core, pe, Nat.reduceAdd, Int.reduceBEq, Int.reduceBNe, Int.reduceLT, Int.reduceLE, fx_20, PExpr.kids, e1]
        refine .inr ⟨_, _, rfl, by simp, rfl, ?_⟩
        simp only [List.drop_eq_nil_of_le (Nat.le_of_not_lt hlt), depthL, At, ats])
  obtain ⟨j, H, d, rfl⟩ := h2.elim
  clear hl
  simp only [sims, core, pe, Nat.reduceAdd, Int.reduceBEq, Int.reduceBNe, Int.reduceLT, Int.reduceLE]
  simp [PExpr.depth, wadd]
end Go.Ab
/- When texts and expressions are the same. -/
namespace Go.Ab
open Go Go.Ab.Tab
set_option maxRecDepth 100000
set_option maxHeartbeats 4000000
set_option linter.unusedSimpArgs false
theorem strs_get (l : List Str) (i : Nat) (h : i < l.length) : (l.map fun s => [AVal.str s])[i]? = some [.str l[i]] := by simp [h]
theorem beq_drop {α : Type} [BEq α] (l m : List α) (i : Nat) (h : i < l.length) (h' : i < m.length) : (l.drop i == m.drop i) = (l[i] == m[i] && l.drop (i + 1) == m.drop (i + 1)) := by
  rw [List.drop_eq_getElem_cons h, List.drop_eq_getElem_cons h', List.cons_beq_cons]
theorem beq_len {α : Type} [BEq α] [LawfulBEq α] (l m : List α) (h : ¬ l.length = m.length) : (l == m) = false := by
  simp only [beq_eq_false_iff_ne]; intro e; exact h (by rw [e])
/-- What a loop leaves that goes on while all is well: r says whether it was. -/
def AllPost (junk junk' : List Nat) (slot : Nat) (ts : List AVal) (H : AHeap) (r : Bool) (ex : AEx) (s : St) : Prop :=
  (r = true ∧ ex = .exit 0 ∧ At junk ts H [] s) ∨ (r = false ∧ ex = .ret ∧ At junk' ts H [(slot, .bool false)] s)
theorem equal_c (l m : List Str) (hl : l.length ≤ lenTop) : Ret C 49 [encStrs l, encStrs m] (.bool (l == m)) := by
  refine Ret.mk rfl rfl ?_
  by_cases hlen : l.length = m.length
  · rw [C_fn rfl Go.Proofs.Tryz.func49 rfl (by kernel_rfl) (m := 24) rfl]; simp only [sims, core, pe, Nat.reduceAdd, Int.reduceBEq, Int.reduceBNe, Int.reduceLT, Int.reduceLE, Go.Proofs.Tryz.f49, fx_49, encStrs, hlen, bne_self_eq_false]
    generalize hb : codeB PP cmp0 C lpC _ = f; generalize hl : lpC f _ = r
    obtain ⟨ex, s', rfl, h2⟩ := lpC_at (α := Nat) hl [4, 5, 14, 15, 16, 17, 18, 19, 20, 21, 22, 23, 24, 25] (fun i => [(13, .int .i64 i)]) (fun i => i ≤ l.length) (fun i => l.length - i) (fun i => l.drop i == m.drop i)
      (AllPost [4, 5, 13, 14, 15, 16, 17, 18, 19, 20, 21, 22, 23, 24, 25] [5, 13, 14, 15, 16, 17, 18, 19, 20, 21, 22, 23, 24, 25] 4) 0 (Nat.zero_le _) (by simp only [At, ats, Int.natCast_zero]) (by
        intro i j H d hi
        clear hl; subst hb
        by_cases hlt : i < l.length
        · have e1 : ((i : Int) < (m.length : Int)) := by omega
          have e3 := strs_get l i hlt
          have e4 := strs_get m i (by omega)
          simp only [sims, core, pe, Nat.reduceAdd, Int.reduceBEq, Int.reduceBNe, Int.reduceLT, Int.reduceLE, fx_49, e1, e3, e4]
          cases hc : l[i] == m[i]
          · simp only [sims, core, pe, Nat.reduceAdd, Int.reduceBEq, Int.reduceBNe, Int.reduceLT, Int.reduceLE]
            exact .inr ⟨_, _, rfl, by simp, .inr ⟨by simp only [beq_drop l m i hlt (by omega), hc, Bool.false_and], rfl, by simp only [At, ats, Int.natCast_zero]⟩⟩
          · simp only [sims, core, pe, Nat.reduceAdd, Int.reduceBEq, Int.reduceBNe, Int.reduceLT, Int.reduceLE, wrap_nat (show i ≤ lenTop by omega)]
            exact .inl ⟨i + 1, _, rfl, hlt, by simp only [At, ats, Int.natCast_zero], by simp only []; omega, by simp only [beq_drop l m i hlt (by omega), hc, Bool.true_and]⟩
        · have e1 : ¬ ((i : Int) < (m.length : Int)) := by omega
          simp only [sims, core, pe, Nat.reduceAdd, Int.reduceBEq, Int.reduceBNe, Int.reduceLT, Int.reduceLE, fx_49, e1]
          exact .inr ⟨_, _, rfl, by simp, .inl ⟨by simp only []; rw [List.drop_eq_nil_of_le (by omega), List.drop_eq_nil_of_le (by omega)]; rfl, rfl, by simp only [At, ats, Int.natCast_zero]⟩⟩)
    rw [List.drop_zero, List.drop_zero] at h2
    rcases h2 with ⟨hr, rfl, h2⟩ | ⟨hr, rfl, h2⟩
    · obtain ⟨j, H, d, rfl⟩ := h2.elim
      clear hl
      simp only [sims, core, pe, Nat.reduceAdd, Int.reduceBEq, Int.reduceBNe, Int.reduceLT, Int.reduceLE, hr]
    · obtain ⟨j, H, d, rfl⟩ := h2.elim
      clear hl
      simp only [sims, core, pe, Nat.reduceAdd, Int.reduceBEq, Int.reduceBNe, Int.reduceLT, Int.reduceLE, hr]
  · have e0 : ((l.length : Int) != (m.length : Int)) = true := by simp; omega
    rw [C_fn rfl Go.Proofs.Tryz.func49 rfl (by kernel_rfl) (m := 24) rfl]; simp only [sims, core, pe, Nat.reduceAdd, Int.reduceBEq, Int.reduceBNe, Int.reduceLT, Int.reduceLE, Go.Proofs.Tryz.f49, fx_49, encStrs, e0, beq_len l m hlen]
theorem sameNames_c (l m : List Str) (hl : l.length ≤ lenTop) : Ret C 43 [encStrs l, encStrs m] (.bool (l == m)) := by
  refine Ret.mk rfl rfl ?_
  by_cases hlen : l.length = m.length
  · rw [C_fn rfl Go.Proofs.Tryz.func43 rfl (by kernel_rfl) (m := 24) rfl]; simp only [sims, core, pe, Nat.reduceAdd, Int.reduceBEq, Int.reduceBNe, Int.reduceLT, Int.reduceLE, Go.Proofs.Tryz.f43, fx_43, encStrs, hlen, bne_self_eq_false]
    generalize hb : codeB PP cmp0 C lpC _ = f; generalize hl : lpC f _ = r
    obtain ⟨ex, s', rfl, h2⟩ := lpC_at (α := Nat) hl [4, 11, 12, 13, 14, 15, 16, 17, 18, 19, 20, 21, 22, 23, 24, 25] (fun i => [(5, .int .i64 i)]) (fun i => i ≤ l.length) (fun i => l.length - i) (fun i => l.drop i == m.drop i)
      (AllPost [4, 5, 11, 12, 13, 14, 15, 16, 17, 18, 19, 20, 21, 22, 23, 24, 25] [5, 11, 12, 13, 14, 15, 16, 17, 18, 19, 20, 21, 22, 23, 24, 25] 4) 0 (Nat.zero_le _) (by simp only [At, ats, Int.natCast_zero]) (by
        intro i j H d hi
        clear hl; subst hb
        by_cases hlt : i < l.length
        · have e1 : ((i : Int) < (m.length : Int)) := by omega
          have e3 := strs_get l i hlt
          have e4 := strs_get m i (by omega)
          simp only [sims, core, pe, Nat.reduceAdd, Int.reduceBEq, Int.reduceBNe, Int.reduceLT, Int.reduceLE, fx_43, hlen, e1, e3, e4]
          cases hc : l[i] == m[i]
          · simp only [sims, core, pe, Nat.reduceAdd, Int.reduceBEq, Int.reduceBNe, Int.reduceLT, Int.reduceLE]
            exact .inr ⟨_, _, rfl, by simp, .inr ⟨by simp only [beq_drop l m i hlt (by omega), hc, Bool.false_and], rfl, by simp only [At, ats, Int.natCast_zero]⟩⟩
          · simp only [sims, core, pe, Nat.reduceAdd, Int.reduceBEq, Int.reduceBNe, Int.reduceLT, Int.reduceLE, wrap_nat (show i ≤ lenTop by omega)]
            exact .inl ⟨i + 1, _, rfl, by simp only []; omega, by simp only [At, ats, Int.natCast_zero], by simp only []; omega, by simp only [beq_drop l m i hlt (by omega), hc, Bool.true_and]⟩
        · have e1 : ¬ ((i : Int) < (m.length : Int)) := by omega
          simp only [sims, core, pe, Nat.reduceAdd, Int.reduceBEq, Int.reduceBNe, Int.reduceLT, Int.reduceLE, fx_43, hlen, e1]
          exact .inr ⟨_, _, rfl, by simp, .inl ⟨by simp only []; rw [List.drop_eq_nil_of_le (by omega), List.drop_eq_nil_of_le (by omega)]; rfl, rfl, by simp only [At, ats, Int.natCast_zero]⟩⟩)
    rw [List.drop_zero, List.drop_zero] at h2
    rcases h2 with ⟨hr, rfl, h2⟩ | ⟨hr, rfl, h2⟩
    · obtain ⟨j, H, d, rfl⟩ := h2.elim
      clear hl
      simp only [sims, core, pe, Nat.reduceAdd, Int.reduceBEq, Int.reduceBNe, Int.reduceLT, Int.reduceLE, hr]
    · obtain ⟨j, H, d, rfl⟩ := h2.elim
      clear hl
      simp only [sims, core, pe, Nat.reduceAdd, Int.reduceBEq, Int.reduceBNe, Int.reduceLT, Int.reduceLE, hr]
  · have e0 : ((l.length : Int) != (m.length : Int)) = true := by simp; omega
    rw [C_fn rfl Go.Proofs.Tryz.func43 rfl (by kernel_rfl) (m := 24) rfl]; simp only [sims, core, pe, Nat.reduceAdd, Int.reduceBEq, Int.reduceBNe, Int.reduceLT, Int.reduceLE, Go.Proofs.Tryz.f43, fx_43, encStrs, e0, beq_len l m hlen]
mutual
def PExpr.same : PExpr → PExpr → Bool
  | .mk o s n c k, .mk o' s' n' c' k' => o == o' && s == s' && n == n' && c == c' && sameL k k'
def sameL : List PExpr → List PExpr → Bool
  | [], [] => true
  | a :: r, b :: t => a.same b && sameL r t
  | _, _ => false
end
theorem same_iff (a : PExpr) : ∀ b, a.same b = true ↔ a = b := by
  induction a using PExpr.induct with
  | h o s n c k ih =>
    have hl : ∀ (l : List PExpr), (∀ x ∈ l, x ∈ k) → ∀ m, sameL l m = true ↔ l = m := by
      intro l
      induction l with
      | nil => intro _ m; cases m <;> simp [sameL]
      | cons x r ihl =>
        intro hx m
        cases m with
        | nil => simp [sameL]
        | cons y t => simp [sameL, ih x (hx x (by simp)) y, ihl (fun z hz => hx z (by simp [hz])) t]
    intro b
    cases b with
    | mk o' s' n' c' k' => simp [PExpr.same, hl k (fun _ h => h) k', and_assoc]
theorem sameL_len : ∀ (l m : List PExpr), ¬ l.length = m.length → sameL l m = false
  | [], [], h => absurd rfl h
  | [], _ :: _, _ => by simp [sameL]
  | _ :: _, [], _ => by simp [sameL]
  | a :: r, b :: t, h => by
    simp only [sameL, sameL_len r t (fun e => h (by simp [e])), Bool.and_false]
theorem sameL_drop (l m : List PExpr) (i : Nat) (h : i < l.length) (h' : i < m.length) : sameL (l.drop i) (m.drop i) = (l[i].same m[i] && sameL (l.drop (i + 1)) (m.drop (i + 1))) := by
  rw [List.drop_eq_getElem_cons h, List.drop_eq_getElem_cons h', sameL]
theorem kids_get (l : List PExpr) (i : Nat) (h : i < l.length) : (l.map PExpr.cells)[i]? = some l[i].cells := by simp [h]
theorem equalExprs_c (l m : List PExpr) (hl : l.length ≤ lenTop) (hc : ∀ x ∈ l, ∀ y ∈ m, Ret C 23 [.agg x.cells, .agg y.cells] (.bool (x.same y))) :
    Ret C 50 [.slice (l.map PExpr.cells) .free, .slice (m.map PExpr.cells) .free, .func 23 [] []] (.bool (sameL l m)) := by
  refine Ret.mk rfl rfl ?_
  by_cases hlen : l.length = m.length
  · rw [C_fn rfl Go.Proofs.Tryz.func50 rfl (by kernel_rfl) (m := 29) rfl]; simp only [sims, core, pe, Nat.reduceAdd, Int.reduceBEq, Int.reduceBNe, Int.reduceLT, Int.reduceLE, Go.Proofs.Tryz.f50, fx_50, hlen, bne_self_eq_false]
    generalize hb : codeB PP cmp0 C lpC _ = f; generalize hl0 : lpC f _ = r
    obtain ⟨ex, s', rfl, h2⟩ := lpC_at (α := Nat) hl0 [6, 7, 8, 9, 18, 19, 20, 21, 22, 23, 24, 25, 26, 27, 28, 29, 30, 31] (fun i => [(17, .int .i64 i)]) (fun i => i ≤ l.length) (fun i => l.length - i) (fun i => sameL (l.drop i) (m.drop i))
      (AllPost [6, 7, 8, 9, 17, 18, 19, 20, 21, 22, 23, 24, 25, 26, 27, 28, 29, 30, 31] [7, 8, 9, 17, 18, 19, 20, 21, 22, 23, 24, 25, 26, 27, 28, 29, 30, 31] 6) 0 (Nat.zero_le _) (by simp only [At, ats, Int.natCast_zero]) (by
        intro i j H d hi
        clear hl0; subst hb
        by_cases hlt : i < l.length
        · have e1 : ((i : Int) < (m.length : Int)) := by omega
          have e3 := kids_get l i hlt
          have e4 := kids_get m i (by omega)
          have e5 := hc l[i] (List.getElem_mem hlt) m[i] (List.getElem_mem (by omega))
          simp only [sims, core, pe, Nat.reduceAdd, Int.reduceBEq, Int.reduceBNe, Int.reduceLT, Int.reduceLE, fx_50, e1, e3, e4, e5 _]
          cases hcc : l[i].same m[i]
          · simp only [sims, core, pe, Nat.reduceAdd, Int.reduceBEq, Int.reduceBNe, Int.reduceLT, Int.reduceLE]
            exact .inr ⟨_, _, rfl, by simp, .inr ⟨by simp only [sameL_drop l m i hlt (by omega), hcc, Bool.false_and], rfl, by simp only [At, ats, Int.natCast_zero]⟩⟩
          · simp only [sims, core, pe, Nat.reduceAdd, Int.reduceBEq, Int.reduceBNe, Int.reduceLT, Int.reduceLE, wrap_nat (show i ≤ lenTop by omega)]
            exact .inl ⟨i + 1, _, rfl, hlt, by simp only [At, ats, Int.natCast_zero], by simp only []; omega, by simp only [sameL_drop l m i hlt (by omega), hcc, Bool.true_and]⟩
        · have e1 : ¬ ((i : Int) < (m.length : Int)) := by omega
          simp only [sims, core, pe, Nat.reduceAdd, Int.reduceBEq, Int.reduceBNe, Int.reduceLT, Int.reduceLE, fx_50, e1]
          exact .inr ⟨_, _, rfl, by simp, .inl ⟨by simp only []; rw [List.drop_eq_nil_of_le (by omega), List.drop_eq_nil_of_le (by omega)]; simp [sameL], rfl, by simp only [At, ats, Int.natCast_zero]⟩⟩)
    rw [List.drop_zero, List.drop_zero] at h2
    rcases h2 with ⟨hr, rfl, h2⟩ | ⟨hr, rfl, h2⟩
    · obtain ⟨j, H, d, rfl⟩ := h2.elim
      clear hl0
      simp only [sims, core, pe, Nat.reduceAdd, Int.reduceBEq, Int.reduceBNe, Int.reduceLT, Int.reduceLE, hr]
    · obtain ⟨j, H, d, rfl⟩ := h2.elim
      clear hl0
      simp only [sims, core, pe, Nat.reduceAdd, Int.reduceBEq, Int.reduceBNe, Int.reduceLT, Int.reduceLE, hr]
  · have e0 : ((l.length : Int) != (m.length : Int)) = true := by simp; omega
    rw [C_fn rfl Go.Proofs.Tryz.func50 rfl (by kernel_rfl) (m := 29) rfl]; simp only [sims, core, pe, Nat.reduceAdd, Int.reduceBEq, Int.reduceBNe, Int.reduceLT, Int.reduceLE, Go.Proofs.Tryz.f50, fx_50, e0, sameL_len l m hlen]
theorem sameExpr_c (a : PExpr) : ∀ b, a.Small → Ret C 23 [.agg a.cells, .agg b.cells] (.bool (a.same b)) := by
  induction a using PExpr.induct with
  | h o s n c k ih =>
    intro b ha
    cases b with
    | mk o' s' n' c' k' =>
      obtain ⟨hkl, hks⟩ := ha.kids
      have hcs := ha.cons
      simp only [PExpr.kids] at hkl hks
      simp only [PExpr.cons] at hcs
      refine Ret.mk (by simp [refsL, refs_agg (PExpr.ok _)]) rfl ?_
      have e1 := equal_c c c' hcs.1
      have e2 := equalExprs_c k k' hkl (fun x hx y _ => ih x hx y (hks x hx))
      rw [C_fn rfl Go.Proofs.Tryz.func23 rfl (by kernel_rfl) (m := 36) rfl]; simp only [sims, core, pe, Nat.reduceAdd, Int.reduceBEq, Int.reduceBNe, Int.reduceLT, Int.reduceLE, Go.Proofs.Tryz.f23, fx_23, PExpr.op, PExpr.name, PExpr.n, PExpr.cons, PExpr.kids, PExpr.same]
      cases h1 : o == o'
      · simp only [sims, core, pe, Nat.reduceAdd, Int.reduceBEq, Int.reduceBNe, Int.reduceLT, Int.reduceLE, fx_23, h1]
      cases h2 : s == s'
      · simp only [sims, core, pe, Nat.reduceAdd, Int.reduceBEq, Int.reduceBNe, Int.reduceLT, Int.reduceLE, fx_23, h1, h2, PExpr.name]
      cases h3 : n == n'
      · simp only [sims, core, pe, Nat.reduceAdd, Int.reduceBEq, Int.reduceBNe, Int.reduceLT, Int.reduceLE, fx_23, h1, h2, h3, PExpr.name, PExpr.n]
      cases h4 : c == c'
      · simp only [sims, core, pe, Nat.reduceAdd, Int.reduceBEq, Int.reduceBNe, Int.reduceLT, Int.reduceLE, fx_23, h1, h2, h3, h4, PExpr.name, PExpr.n, PExpr.cons, e1 _]
      · simp only [sims, core, pe, Nat.reduceAdd, Int.reduceBEq, Int.reduceBNe, Int.reduceLT, Int.reduceLE, fx_23, h1, h2, h3, h4, PExpr.name, PExpr.n, PExpr.cons, PExpr.kids, e1 _, e2 _]
theorem rsameExpr_c (a : PExpr) : ∀ b, a.Small → b.Small → Ret C 24 [.agg a.cells, .agg b.cells] (.bool (a.same b)) := by
  induction a using PExpr.induct with
  | h o s n c k ih =>
    intro b ha hb0
    cases b with
    | mk o' s' n' c' k' =>
      obtain ⟨hkl, hks⟩ := ha.kids
      obtain ⟨hkl', hks'⟩ := hb0.kids
      have hcs := ha.cons
      simp only [PExpr.kids] at hkl hks hkl' hks'
      simp only [PExpr.cons] at hcs
      refine Ret.mk (by simp [refsL, refs_agg (PExpr.ok _)]) rfl ?_
      have e1 := sameNames_c c c' hcs.1
      rw [C_fn rfl Go.Proofs.Tryz.func24 rfl (by kernel_rfl) (m := 59) rfl]; simp only [sims, core, pe, Nat.reduceAdd, Int.reduceBEq, Int.reduceBNe, Int.reduceLT, Int.reduceLE, Go.Proofs.Tryz.f24, fx_24, PExpr.op, PExpr.name, PExpr.n, PExpr.cons, PExpr.kids, PExpr.same]
      cases h1 : o == o'
      · have g1 : (o != o') = true := by simp [bne, h1]
        simp only [sims, core, pe, Nat.reduceAdd, Int.reduceBEq, Int.reduceBNe, Int.reduceLT, Int.reduceLE, fx_24, h1, g1]
      have g1 : (o != o') = false := by simp [bne, h1]
      cases h2 : s == s'
      · simp only [sims, core, pe, Nat.reduceAdd, Int.reduceBEq, Int.reduceBNe, Int.reduceLT, Int.reduceLE, fx_24, g1, h2, PExpr.name]
      cases h3 : n == n'
      · have g3 : (n != n') = true := by simp [bne, h3]
        simp only [sims, core, pe, Nat.reduceAdd, Int.reduceBEq, Int.reduceBNe, Int.reduceLT, Int.reduceLE, fx_24, g1, h2, h3, g3, PExpr.name, PExpr.n]
      have g3 : (n != n') = false := by simp [bne, h3]
      cases h4 : c == c'
      · simp only [sims, core, pe, Nat.reduceAdd, Int.reduceBEq, Int.reduceBNe, Int.reduceLT, Int.reduceLE, fx_24, g1, h2, g3, h4, PExpr.name, PExpr.n, PExpr.cons, e1 _]
      by_cases hlen : k.length = k'.length
      · simp only [sims, core, pe, Nat.reduceAdd, Int.reduceBEq, Int.reduceBNe, Int.reduceLT, Int.reduceLE, fx_24, h1, g1, h2, h3, g3, h4, PExpr.name, PExpr.n, PExpr.cons, PExpr.kids, e1 _, hlen, bne_self_eq_false]
        generalize hb : codeB PP cmp0 C lpC _ = f; generalize hl : lpC f _ = r
        obtain ⟨ex, s', rfl, h2⟩ := lpC_at (α := Nat) hl [4, 42, 43, 44, 45, 46, 47, 48, 49, 50, 51, 52, 53, 54, 55, 56, 57, 58, 59, 60] (fun i => [(5, .int .i64 i)]) (fun i => i ≤ k.length) (fun i => k.length - i) (fun i => sameL (k.drop i) (k'.drop i))
          (AllPost [4, 5, 42, 43, 44, 45, 46, 47, 48, 49, 50, 51, 52, 53, 54, 55, 56, 57, 58, 59, 60] [5, 42, 43, 44, 45, 46, 47, 48, 49, 50, 51, 52, 53, 54, 55, 56, 57, 58, 59, 60] 4) 0 (Nat.zero_le _) (by simp only [At, ats, Int.natCast_zero]) (by
            intro i j H d hi
            clear hl; subst hb
            by_cases hlt : i < k.length
            · have e1 : ((i : Int) < (k.length : Int)) := by omega
              have e3 := kids_get k i hlt
              have e4 := kids_get k' i (by omega)
              have e5 := ih k[i] (List.getElem_mem hlt) k'[i] (hks _ (List.getElem_mem hlt)) (hks' _ (List.getElem_mem (by omega)))
              simp only [sims, core, pe, Nat.reduceAdd, Int.reduceBEq, Int.reduceBNe, Int.reduceLT, Int.reduceLE, fx_24, PExpr.kids, e1, e3, e4, e5 _]
              cases hcc : k[i].same k'[i]
              · simp only [sims, core, pe, Nat.reduceAdd, Int.reduceBEq, Int.reduceBNe, Int.reduceLT, Int.reduceLE]
                exact .inr ⟨_, _, rfl, by simp, .inr ⟨by simp only [sameL_drop k k' i hlt (by omega), hcc, Bool.false_and], rfl, by simp only [At, ats, Int.natCast_zero]⟩⟩
              · simp only [sims, core, pe, Nat.reduceAdd, Int.reduceBEq, Int.reduceBNe, Int.reduceLT, Int.reduceLE, wrap_nat (show i ≤ lenTop by omega)]
                exact .inl ⟨i + 1, _, rfl, by simp only []; omega, by simp only [At, ats, Int.natCast_zero], by simp only []; omega, by simp only [sameL_drop k k' i hlt (by omega), hcc, Bool.true_and]⟩
            · have e1 : ¬ ((i : Int) < (k.length : Int)) := by omega
              simp only [sims, core, pe, Nat.reduceAdd, Int.reduceBEq, Int.reduceBNe, Int.reduceLT, Int.reduceLE, fx_24, PExpr.kids, e1]
              exact .inr ⟨_, _, rfl, by simp, .inl ⟨by simp only []; rw [List.drop_eq_nil_of_le (by omega), List.drop_eq_nil_of_le (by omega)]; simp [sameL], rfl, by simp only [At, ats, Int.natCast_zero]⟩⟩)
        rw [List.drop_zero, List.drop_zero] at h2
        rcases h2 with ⟨hr, rfl, h2⟩ | ⟨hr, rfl, h2⟩
        · obtain ⟨j, H, d, rfl⟩ := h2.elim
          clear hl
          simp only [sims, core, pe, Nat.reduceAdd, Int.reduceBEq, Int.reduceBNe, Int.reduceLT, Int.reduceLE, hr]
        · obtain ⟨j, H, d, rfl⟩ := h2.elim
          clear hl
          simp only [sims, core, pe, Nat.reduceAdd, Int.reduceBEq, Int.reduceBNe, Int.reduceLT, Int.reduceLE, hr]
      · have e0 : ((k.length : Int) != (k'.length : Int)) = true := by simp; omega
        simp only [sims, core, pe, Nat.reduceAdd, Int.reduceBEq, Int.reduceBNe, Int.reduceLT, Int.reduceLE, fx_24, g1, h2, g3, h4, PExpr.name, PExpr.n, PExpr.cons, PExpr.kids, e1 _, e0, sameL_len k k' hlen]
end Go.Ab
