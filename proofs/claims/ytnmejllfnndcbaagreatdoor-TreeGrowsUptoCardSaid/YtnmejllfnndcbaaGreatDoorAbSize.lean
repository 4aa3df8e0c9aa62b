/- Sizes and depths. -/
import Derived.Test.YtnmejllfnndcbaaGreatDoorAbBase
namespace Go.Ab
open Go Go.Ab.Tab
set_option maxRecDepth 100000
set_option maxHeartbeats 4000000
mutual
def PExpr.size : PExpr → Int
  | .mk _ _ _ _ ks => sizeL ks 1
def sizeL : List PExpr → Int → Int
  | [], a => a
  | k :: r, a => sizeL r (wadd a k.size)
end
def imax (a b : Int) : Int := if a < b then b else a
mutual
def PExpr.depth : PExpr → Int
  | .mk _ _ _ _ ks => wadd (depthL ks 0) 1
def depthL : List PExpr → Int → Int
  | [], a => a
  | k :: r, a => depthL r (imax a k.depth)
end
theorem size_c (e : PExpr) (hsm : e.Small) : Ret C 17 [.agg e.cells] (.int .i64 e.size) := by
  induction e using PExpr.induct with
  | h op name n cons ks ih =>
  obtain ⟨hkl, hks⟩ := hsm.kids
  simp only [PExpr.kids] at hkl hks
  refine Ret.mk (by simp [refsL, refs_agg (PExpr.ok _)]) rfl ?_
  rw [C_fn rfl Go.Proofs.Tryz.func17 rfl (by kernel_rfl) (m := 18) rfl]
  simp only [sims, core, pe, Go.Proofs.Tryz.f17, fx_17, PExpr.kids]
  generalize hb : codeB PP cmp0 C lpC _ = f
  generalize hl : lpC f _ = r
  obtain ⟨ex, s', rfl, rfl, h2⟩ := lpC_at (α := Nat × Int) hl [5, 10, 11, 12, 13, 14, 15, 16, 17] (fun a => [(3, .int .i64 a.2), (9, .int .i64 a.1)]) (fun a => a.1 ≤ ks.length) (fun a => ks.length - a.1) (fun a => sizeL (ks.drop a.1) a.2)
    (fun ts H r ex s => ex = .exit 0 ∧ At [5, 9, 10, 11, 12, 13, 14, 15, 16, 17] ts H [(3, .int .i64 r)] s) (0, 1) (Nat.zero_le _) (by simp only [At, ats, Int.natCast_zero]) (by
      rintro ⟨i, a⟩ j H d hi
      clear hl; subst hb
      simp only [sims, core, pe, fx_17]
      by_cases hlt : i < ks.length
      · have e1 : ((i : Int) < (ks.length : Int)) := by omega
        have e3 : (ks.map PExpr.cells)[i]? = some (ks[i].cells) := by simp [hlt]
        simp only [sims, core, pe, fx_17, e1, e3, setCells_all, (ih ks[i] (List.getElem_mem hlt) (hks _ (List.getElem_mem hlt))) _, wrap_nat (show i ≤ lenTop by omega)]
        refine .inl ⟨(i + 1, wadd a ks[i].size), _, rfl, hlt, by simp only [At, ats, wadd, imax], by simp only []; omega, ?_⟩
        simp only [List.drop_eq_getElem_cons hlt, sizeL]
      · have e1 : ¬ ((i : Int) < (ks.length : Int)) := by omega
        simp only [sims, core, pe, fx_17, e1]
        refine .inr ⟨_, _, rfl, by simp, rfl, ?_⟩
        simp only [List.drop_eq_nil_of_le (Nat.le_of_not_lt hlt), sizeL, At, ats])
  obtain ⟨j, H, d, rfl⟩ := h2.elim
  clear hl
  simp only [sims, core, pe]
  simp [PExpr.size, wadd]
theorem depth_c (e : PExpr) (hsm : e.Small) : Ret C 18 [.agg e.cells] (.int .i64 e.depth) := by
  induction e using PExpr.induct with
  | h op name n cons ks ih =>
  obtain ⟨hkl, hks⟩ := hsm.kids
  simp only [PExpr.kids] at hkl hks
  refine Ret.mk (by simp [refsL, refs_agg (PExpr.ok _)]) rfl ?_
  rw [C_fn rfl Go.Proofs.Tryz.func18 rfl (by kernel_rfl) (m := 19) rfl]
  simp only [sims, core, pe, Go.Proofs.Tryz.f18, fx_18, PExpr.kids]
  generalize hb : codeB PP cmp0 C lpC _ = f
  generalize hl : lpC f _ = r
  obtain ⟨ex, s', rfl, rfl, h2⟩ := lpC_at (α := Nat × Int) hl [5, 10, 11, 12, 13, 14, 15, 16, 17] (fun a => [(3, .int .i64 a.2), (9, .int .i64 a.1)]) (fun a => a.1 ≤ ks.length) (fun a => ks.length - a.1) (fun a => depthL (ks.drop a.1) a.2)
    (fun ts H r ex s => ex = .exit 0 ∧ At [5, 9, 10, 11, 12, 13, 14, 15, 16, 17] ts H [(3, .int .i64 r)] s) (0, 0) (Nat.zero_le _) (by simp only [At, ats, Int.natCast_zero]) (by
      rintro ⟨i, a⟩ j H d hi
      clear hl; subst hb
      simp only [sims, core, pe, fx_18]
      by_cases hlt : i < ks.length
      · have e1 : ((i : Int) < (ks.length : Int)) := by omega
        have e3 : (ks.map PExpr.cells)[i]? = some (ks[i].cells) := by simp [hlt]
        simp only [sims, core, pe, fx_18, e1, e3, setCells_all, (ih ks[i] (List.getElem_mem hlt) (hks _ (List.getElem_mem hlt))) _, wrap_nat (show i ≤ lenTop by omega)]
        refine .inl ⟨(i + 1, imax a ks[i].depth), _, rfl, hlt, by simp only [At, ats, wadd, imax], by simp only []; omega, ?_⟩
        simp only [List.drop_eq_getElem_cons hlt, depthL]
      · have e1 : ¬ ((i : Int) < (ks.length : Int)) := by omega
        simp only [sims, core, pe, fx_18, e1]
        refine .inr ⟨_, _, rfl, by simp, rfl, ?_⟩
        simp only [List.drop_eq_nil_of_le (Nat.le_of_not_lt hlt), depthL, At, ats])
  obtain ⟨j, H, d, rfl⟩ := h2.elim
  clear hl
  simp only [sims, core, pe]
  simp [PExpr.depth, wadd]
theorem rsize_c (e : PExpr) (hsm : e.Small) : Ret C 19 [.agg e.cells] (.int .i64 e.size) := by
  induction e using PExpr.induct with
  | h op name n cons ks ih =>
  obtain ⟨hkl, hks⟩ := hsm.kids
  simp only [PExpr.kids] at hkl hks
  refine Ret.mk (by simp [refsL, refs_agg (PExpr.ok _)]) rfl ?_
  rw [C_fn rfl Go.Proofs.Tryz.func19 rfl (by kernel_rfl) (m := 20) rfl]
  simp only [sims, core, pe, Go.Proofs.Tryz.f19, fx_19, PExpr.kids]
  generalize hb : codeB PP cmp0 C lpC _ = f
  generalize hl : lpC f _ = r
  obtain ⟨ex, s', rfl, rfl, h2⟩ := lpC_at (α := Nat × Int) hl [5, 6, 7, 8, 9, 10, 11, 12, 13, 14, 15, 16, 17, 18, 19] (fun a => [(3, .int .i64 a.2), (4, .int .i64 a.1)]) (fun a => a.1 ≤ ks.length) (fun a => ks.length - a.1) (fun a => sizeL (ks.drop a.1) a.2)
    (fun ts H r ex s => ex = .exit 0 ∧ At [4, 5, 6, 7, 8, 9, 10, 11, 12, 13, 14, 15, 16, 17, 18, 19] ts H [(3, .int .i64 r)] s) (0, 1) (Nat.zero_le _) (by simp only [At, ats, Int.natCast_zero]) (by
      rintro ⟨i, a⟩ j H d hi
      clear hl; subst hb
      by_cases hlt : i < ks.length
      · have e1 : ((i : Int) < (ks.length : Int)) := by omega
        have e3 : (ks.map PExpr.cells)[i]? = some (ks[i].cells) := by simp [hlt]
        simp only [sims, core, pe, fx_19, e1, e3, PExpr.kids, un_34, (ih ks[i] (List.getElem_mem hlt) (hks _ (List.getElem_mem hlt))) _, wrap_nat (show i ≤ lenTop by omega)]
        refine .inl ⟨(i + 1, wadd a ks[i].size), _, rfl, hlt, by simp only [At, ats, wadd, imax], by simp only []; omega, ?_⟩
        simp only [List.drop_eq_getElem_cons hlt, sizeL]
      · have e1 : ¬ ((i : Int) < (ks.length : Int)) := by omega
        simp only [sims, core, pe, fx_19, PExpr.kids, e1]
        refine .inr ⟨_, _, rfl, by simp, rfl, ?_⟩
        simp only [List.drop_eq_nil_of_le (Nat.le_of_not_lt hlt), sizeL, At, ats])
  obtain ⟨j, H, d, rfl⟩ := h2.elim
  clear hl
  simp only [sims, core, pe]
  simp [PExpr.size, wadd]
theorem rdepth_c (e : PExpr) (hsm : e.Small) : Ret C 20 [.agg e.cells] (.int .i64 e.depth) := by
  induction e using PExpr.induct with
  | h op name n cons ks ih =>
  obtain ⟨hkl, hks⟩ := hsm.kids
  simp only [PExpr.kids] at hkl hks
  refine Ret.mk (by simp [refsL, refs_agg (PExpr.ok _)]) rfl ?_
  rw [C_fn rfl Go.Proofs.Tryz.func20 rfl (by kernel_rfl) (m := 21) rfl]
  simp only [sims, core, pe, Go.Proofs.Tryz.f20, fx_20, PExpr.kids]
  generalize hb : codeB PP cmp0 C lpC _ = f
  generalize hl : lpC f _ = r
  obtain ⟨ex, s', rfl, rfl, h2⟩ := lpC_at (α := Nat × Int) hl [5, 6, 7, 8, 9, 10, 11, 12, 13, 14, 15, 16, 17, 18, 19] (fun a => [(3, .int .i64 a.2), (4, .int .i64 a.1)]) (fun a => a.1 ≤ ks.length) (fun a => ks.length - a.1) (fun a => depthL (ks.drop a.1) a.2)
    (fun ts H r ex s => ex = .exit 0 ∧ At [4, 5, 6, 7, 8, 9, 10, 11, 12, 13, 14, 15, 16, 17, 18, 19] ts H [(3, .int .i64 r)] s) (0, 0) (Nat.zero_le _) (by simp only [At, ats, Int.natCast_zero]) (by
      rintro ⟨i, a⟩ j H d hi
      clear hl; subst hb
      by_cases hlt : i < ks.length
      · have e1 : ((i : Int) < (ks.length : Int)) := by omega
        have e3 : (ks.map PExpr.cells)[i]? = some (ks[i].cells) := by simp [hlt]
        simp only [sims, core, pe, fx_20, e1, e3, PExpr.kids, un_34, (ih ks[i] (List.getElem_mem hlt) (hks _ (List.getElem_mem hlt))) _, wrap_nat (show i ≤ lenTop by omega)]
        refine .inl ⟨(i + 1, imax a ks[i].depth), _, rfl, hlt, by simp only [At, ats, wadd, imax], by simp only []; omega, ?_⟩
        simp only [List.drop_eq_getElem_cons hlt, depthL]
      · have e1 : ¬ ((i : Int) < (ks.length : Int)) := by omega
        simp only [sims, core, pe, fx_20, PExpr.kids, e1]
        refine .inr ⟨_, _, rfl, by simp, rfl, ?_⟩
        simp only [List.drop_eq_nil_of_le (Nat.le_of_not_lt hlt), depthL, At, ats])
  obtain ⟨j, H, d, rfl⟩ := h2.elim
  clear hl
  simp only [sims, core, pe]
  simp [PExpr.depth, wadd]
end Go.Ab
