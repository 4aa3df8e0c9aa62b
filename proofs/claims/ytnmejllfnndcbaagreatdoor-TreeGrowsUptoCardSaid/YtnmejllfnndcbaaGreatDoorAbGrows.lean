/- An expression grows with its kids. -/
import Derived.Test.YtnmejllfnndcbaaGreatDoorAbSize
namespace Go.Ab
open Go Go.Ab.Tab
set_option maxRecDepth 100000
set_option maxHeartbeats 4000000
theorem ap_exprs : AppOk PP 34 36 5 := ⟨el_34, sz_36, 4, _, _, rfl, by_36, ze_36, rfl⟩
def PExpr.more (e k : PExpr) : PExpr := .mk e.op e.name e.n e.cons (e.kids ++ [k])
theorem sizeL_append (l : List PExpr) (k : PExpr) (a : Int) : sizeL (l ++ [k]) a = wadd (sizeL l a) k.size := by
  induction l generalizing a with
  | nil => simp [sizeL]
  | cons x r ih => simp [sizeL, ih]
theorem depthL_append (l : List PExpr) (k : PExpr) (a : Int) : depthL (l ++ [k]) a = imax (depthL l a) k.depth := by
  induction l generalizing a with
  | nil => simp [depthL]
  | cons x r ih => simp [depthL, ih]
theorem PExpr.size_eq (e : PExpr) : e.size = sizeL e.kids 1 := by cases e; simp [PExpr.size, PExpr.kids]
theorem PExpr.depth_eq (e : PExpr) : e.depth = wadd (depthL e.kids 0) 1 := by cases e; simp [PExpr.depth, PExpr.kids]
theorem PExpr.more_cells (e k : PExpr) : (e.more k).cells = [.int .i64 e.op, .str e.name, .int .i64 e.n, encStrs e.cons, .slice (e.kids.map PExpr.cells ++ [k.cells]) .free] := by
  rw [PExpr.cells_eq]; simp [PExpr.more, PExpr.op, PExpr.name, PExpr.n, PExpr.cons, PExpr.kids]
theorem PExpr.more_small {e k : PExpr} (h : e.Small) (hk : k.Small) (hl : e.kids.length + 1 ≤ lenTop) : (e.more k).Small := by
  refine .mk _ _ _ _ _ h.name h.cons (by simpa using hl) ?_
  intro x hx
  rcases List.mem_append.1 hx with hx | hx
  · exact h.kids.2 x hx
  · simp at hx; subst hx; exact hk
theorem headOk_map (l : List PExpr) : headOk 5 (l.map PExpr.cells) = true := by
  cases l with
  | nil => rfl
  | cons x r => simp [headOk, x.len]
theorem grows6 (hlive : Ret C 10 [] (.bool true)) (e k : PExpr) (hsm : e.Small) (hk : k.Small) (hl1 : e.kids.length + 1 ≤ lenTop) :
    C 6 [.agg e.cells, .agg k.cells] [] = some (.ret (.bool true) .same) := by
  obtain ⟨hkl, hks⟩ := hsm.kids
  have c17 := fun (x : PExpr) (hx : x.Small) (h : AHeap) => size_c x hx h
  have c18 := fun (x : PExpr) (hx : x.Small) (h : AHeap) => depth_c x hx h
  rw [C_fn rfl Go.Proofs.Tryz.func6 rfl (by kernel_rfl) (m := 70) rfl]
  simp only [sims, core, pe, Go.Proofs.Tryz.f6, fx_6, hlive _]
  generalize hb : codeB PP cmp0 C lpC _ = f
  generalize hl : lpC f _ = r
  obtain ⟨ex, s', rfl, rfl, h2⟩ := lpC_at (α := Nat × Int × Int) hl [11, 12, 13, 14, 15, 16, 17, 18, 19, 20, 21, 22, 23, 24, 25, 26, 27, 28, 29, 30, 31, 32, 33] (fun a => [(5, .int .i64 a.2.1), (6, .int .i64 a.2.2), (7, .int .i64 a.1)]) (fun a => a.1 ≤ e.kids.length) (fun a => e.kids.length - a.1) (fun a => (sizeL (e.kids.drop a.1) a.2.1, depthL (e.kids.drop a.1) a.2.2))
    (fun ts H r ex s => ex = .exit 0 ∧ At [7, 11, 12, 13, 14, 15, 16, 17, 18, 19, 20, 21, 22, 23, 24, 25, 26, 27, 28, 29, 30, 31, 32, 33] ts H [(5, .int .i64 r.1), (6, .int .i64 r.2)] s) (0, 1, 0) (Nat.zero_le _) (by simp only [At, ats, Int.natCast_zero]) (by
      rintro ⟨i, a, b⟩ j H d hi
      clear hl; subst hb
      simp only [sims, core, pe, fx_6]
      by_cases hlt : i < e.kids.length
      · have e1 : ((i : Int) < (e.kids.length : Int)) := by omega
        have e3 : (e.kids.map PExpr.cells)[i]? = some (e.kids[i].cells) := by simp [hlt]
        have hm := List.getElem_mem hlt
        simp only [sims, core, pe, fx_6, e1, e3, c17 e.kids[i] (hks _ hm), c18 e.kids[i] (hks _ hm), wrap_nat (show i ≤ lenTop by omega)]
        refine .inl ⟨(i + 1, wadd a e.kids[i].size, imax b e.kids[i].depth), _, rfl, hlt, by simp only [At, ats, wadd, imax], by simp only []; omega, ?_⟩
        simp only [List.drop_eq_getElem_cons hlt, sizeL, depthL]
      · have e1 : ¬ ((i : Int) < (e.kids.length : Int)) := by omega
        simp only [sims, core, pe, fx_6, e1]
        refine .inr ⟨_, _, rfl, by simp, rfl, ?_⟩
        simp only [List.drop_eq_nil_of_le (Nat.le_of_not_lt hlt), sizeL, depthL, At, ats])
  obtain ⟨j, H, d, rfl⟩ := h2.elim
  clear hl hb
  have s1 : (e.more k).size = wadd (sizeL e.kids 1) k.size := by rw [PExpr.size_eq]; exact sizeL_append _ _ _
  have s2 : (e.more k).depth = wadd (imax (depthL e.kids 0) k.depth) 1 := by rw [PExpr.depth_eq]; exact congrArg (wadd · 1) (depthL_append _ _ _)
  have hm := e.more_cells k
  have m17 := fun h => c17 (e.more k) (PExpr.more_small hsm hk hl1) h
  have m18 := fun h => c18 (e.more k) (PExpr.more_small hsm hk hl1) h
  have n17 := c17 e hsm
  have n18 := c18 e hsm
  rw [PExpr.size_eq] at n17
  rw [PExpr.depth_eq] at n18
  rw [hm, s1] at m17
  rw [hm, s2] at m18
  have c0 : 0 ≤ lenTop := by decide
  have c1 : 1 ≤ lenTop := by decide
  by_cases hne : e.kids = []
  · simp only [hne, List.map_nil, List.nil_append] at m17 m18 n17 n18
    simp only [sims, core, pe, fx_6, hne, List.map_nil, app_nil _ ap_exprs, app_full _ ap_exprs, bs_ok ap_exprs (n := 1) (hn := by decide), c0, c1, m17, m18, n17, n18, c17 k hk, c18 k hk, wadd, imax]
  · simp only [sims, core, pe, fx_6, hne, List.map_eq_nil_iff, headOk_map, app_own _ ap_exprs, app_full _ ap_exprs, bs_ok ap_exprs (n := 1) (hn := by decide), hkl, hl1, m17, m18, n17, n18, c17 k hk, c18 k hk, wadd, imax]
end Go.Ab
