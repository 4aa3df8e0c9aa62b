/- The reference: which expressions, equations, items may be. -/
import Derived.Test.YtnmejllfnndcbaaGreatDoorAbRref
set_option linter.unusedSimpArgs false
set_option linter.unusedVariables false
namespace Go.Ab
open Go Go.Ab.Tab
set_option maxRecDepth 100000
set_option maxHeartbeats 4000000
set_option linter.unusedSimpArgs false
theorem rshape_none (made : Bool) (e : PExpr) (h : ∀ i ∈ [1, 2, 3, 4, 5, 6, 7, 8, 9, 10, 11, 12, 13, 14, 15], e.op ≠ i) : C 135 [.agg e.cells, .bool made] [] = some (.ret (.bool (shapeB made e)) .same) := by
  have hb : ∀ i ∈ [1, 2, 3, 4, 5, 6, 7, 8, 9, 10, 11, 12, 13, 14, 15], (e.op == i) = false := fun i hi => beq_false_of_ne (h i hi)
  have hw : shapeB made e = false := by
    have : wnt made e.op = none := by
      simp only [List.forall_mem_cons] at h
      obtain ⟨h1, h2, h3, h4, h5, h6, h7, h8, h9, h10, h11, h12, h13, h14, h15, -⟩ := h
      unfold wnt
      rw [if_neg h1, if_neg h2, if_neg h3, if_neg h4, if_neg h5, if_neg h6, if_neg h7, if_neg h8, if_neg h9, if_neg h10, if_neg h11, if_neg h12, if_neg h13, if_neg h14, if_neg h15]
    unfold shapeB; rw [this]
  rw [hw]
  simp only [List.forall_mem_cons] at hb
  obtain ⟨h1, h2, h3, h4, h5, h6, h7, h8, h9, h10, h11, h12, h13, h14, h15, -⟩ := hb
  rw [C_fn rfl Go.Proofs.Tryz.func135 rfl (by kernel_rfl) (m := 181) rfl]; simp only [sims, core, pe, Nat.reduceAdd, Int.reduceBEq, Int.reduceBNe, Int.reduceLT, Int.reduceLE, Go.Proofs.Tryz.f135, fx_135, h1, h2, h3, h4, h5, h6, h7, h8, h9, h10, h11, h12, h13, h14, h15]
theorem rshape_c (made : Bool) (e : PExpr) (hs : e.Small) : Ret C 135 [.agg e.cells, .bool made] (.bool (shapeB made e)) := by
  refine Ret.mk (by simp [refsL, refs, e.norefs]) rfl ?_
  by_cases h : ∀ i ∈ [1, 2, 3, 4, 5, 6, 7, 8, 9, 10, 11, 12, 13, 14, 15], e.op ≠ i
  · exact rshape_none made e h
  · simp only [List.forall_mem_cons, Classical.not_and_iff_not_or_not, Classical.not_not, ne_eq] at h
    rcases h with h | h | h | h | h | h | h | h | h | h | h | h | h | h | h | h
    · exact rshape_1 made e h hs
    · exact rshape_2 made e h hs
    · exact rshape_3 made e h hs
    · exact rshape_4 made e h hs
    · exact rshape_5 made e h hs
    · exact rshape_6 made e h hs
    · exact rshape_7 made e h hs
    · exact rshape_8 made e h hs
    · exact rshape_9 made e h hs
    · exact rshape_10 made e h hs
    · exact rshape_11 made e h hs
    · exact rshape_12 made e h hs
    · exact rshape_13 made e h hs
    · exact rshape_14 made e h hs
    · exact rshape_15 made e h hs
    · exact absurd (fun _ hx => by cases hx) h
def extraB (made : Bool) (e : PExpr) : Bool :=
  if e.op = 11 then consB made e.cons 1 1 else if e.op = 12 ∨ e.op = 13 then ((e.cons.length : Int) == (e.kids.length : Int)) && consB made e.cons 1 8
  else if e.op = 14 then namesB made e.cons 0 6 else if e.op = 15 then first14 e.kids else true
theorem ndec_lt (a b : Int) : (!decide (a < b)) = decide (b ≤ a) := by
  by_cases h : a < b
  · simp [h]
  · simp [h]; omega
theorem none_eq2 (l : List Str) : (decide ((l.length : Int) ≤ 0) && !l.any fun _ => true) = decide ((l.length : Int) ≤ 0) := by
  cases l with
  | nil => rfl
  | cons x r =>
    have e1 : decide (((r.length + 1 : Nat) : Int) ≤ 0) = false := decide_eq_false (by omega)
    simp only [List.length_cons, e1, Bool.false_and]
theorem alg_c : ∀ n z a b c d f : Bool, (n && z && (a && b && c) && d && f) = (n && z && a && b && d && f && (a && b && c)) := by decide
theorem alg_d : ∀ n z b c d f : Bool, (n && z && (b && c) && d && f) = (n && z && b && d && f && (b && c)) := by decide
theorem alg_m : ∀ n z a b c d f g : Bool, (n && z && (a && b && c) && d && f && g) = (n && z && a && b && d && f && (g && (a && b && c))) := by decide
theorem exprB_shape (made : Bool) (e : PExpr) : exprB made e = (shapeB made e && extraB made e && e.kids.all fun k => exprB made k) := by
  have hk : (!e.kids.any fun k => !exprB made k) = e.kids.all fun k => exprB made k := by
    rw [List.any_eq_not_all_not]; simp only [Bool.not_not]
  rw [exprB_eq, hk]
  congr 1
  unfold shapeB extraB
  by_cases h : ∀ i ∈ [1, 2, 3, 4, 5, 6, 7, 8, 9, 10, 11, 12, 13, 14, 15], e.op ≠ i
  · have : wnt made e.op = none := by
      simp only [List.forall_mem_cons] at h
      obtain ⟨h1, h2, h3, h4, h5, h6, h7, h8, h9, h10, h11, h12, h13, h14, h15, -⟩ := h
      unfold wnt
      rw [if_neg h1, if_neg h2, if_neg h3, if_neg h4, if_neg h5, if_neg h6, if_neg h7, if_neg h8, if_neg h9, if_neg h10, if_neg h11, if_neg h12, if_neg h13, if_neg h14, if_neg h15]
    rw [this]; rfl
  · simp only [List.forall_mem_cons, Classical.not_and_iff_not_or_not, Classical.not_not, ne_eq] at h
    have hz : ∀ (l : List Str), decide ((0 : Int) ≤ (l.length : Int)) = true := fun l => decide_eq_true (Int.natCast_nonneg _)
    have hy : ∀ (l : List PExpr), decide ((0 : Int) ≤ (l.length : Int)) = true := fun l => decide_eq_true (Int.natCast_nonneg _)
    rcases h with h | h | h | h | h | h | h | h | h | h | h | h | h | h | h | h
    · have hw : wnt made e.op = some ⟨none, some fun n => decide (0 ≤ n), fun _ => false, 0, 0, 0, 0, false⟩ := by rw [h]; rfl
      rw [hw, h]; simp only [Wnt.head, Wnt.b1, Wnt.b2, Wnt.b3, ndec_lt, consB, namesB, hz, hy, core, bne, Bool.not_not, Int.reduceEq, Int.reduceBEq, or_false, false_or, or_self, or_true, true_or, none_eq2]
    · have hw : wnt made e.op = some ⟨none, some fun n => n == 0 || n == 1, fun _ => false, 0, 0, 0, 0, false⟩ := by rw [h]; rfl
      rw [hw, h]; simp only [Wnt.head, Wnt.b1, Wnt.b2, Wnt.b3, ndec_lt, consB, namesB, hz, hy, core, bne, Bool.not_not, Int.reduceEq, Int.reduceBEq, or_false, false_or, or_self, or_true, true_or, none_eq2]
    · have hw : wnt made e.op = some ⟨some (conB made), none, fun _ => false, 0, 0, 0, 0, false⟩ := by rw [h]; rfl
      rw [hw, h]; simp only [Wnt.head, Wnt.b1, Wnt.b2, Wnt.b3, ndec_lt, consB, namesB, hz, hy, core, bne, Bool.not_not, Int.reduceEq, Int.reduceBEq, or_false, false_or, or_self, or_true, true_or, none_eq2]
    · have hw : wnt made e.op = some ⟨some (nameB made), none, fun _ => false, 0, 0, 0, 0, false⟩ := by rw [h]; rfl
      rw [hw, h]; simp only [Wnt.head, Wnt.b1, Wnt.b2, Wnt.b3, ndec_lt, consB, namesB, hz, hy, core, bne, Bool.not_not, Int.reduceEq, Int.reduceBEq, or_false, false_or, or_self, or_true, true_or, none_eq2]
    · have hw : wnt made e.op = some ⟨some fun s => unL.any (s == ·), none, fun _ => false, 0, 0, 1, 1, false⟩ := by rw [h]; rfl
      rw [hw, h]; simp only [Wnt.head, Wnt.b1, Wnt.b2, Wnt.b3, ndec_lt, consB, namesB, hz, hy, core, bne, Bool.not_not, Int.reduceEq, Int.reduceBEq, or_false, false_or, or_self, or_true, true_or, none_eq2]
    · have hw : wnt made e.op = some ⟨some fun s => binL.any (s == ·), none, fun _ => false, 0, 0, 2, 2, false⟩ := by rw [h]; rfl
      rw [hw, h]; simp only [Wnt.head, Wnt.b1, Wnt.b2, Wnt.b3, ndec_lt, consB, namesB, hz, hy, core, bne, Bool.not_not, Int.reduceEq, Int.reduceBEq, or_false, false_or, or_self, or_true, true_or, none_eq2]
    · have hw : wnt made e.op = some ⟨none, none, fun _ => false, 0, 0, 3, 3, false⟩ := by rw [h]; rfl
      rw [hw, h]; simp only [Wnt.head, Wnt.b1, Wnt.b2, Wnt.b3, ndec_lt, consB, namesB, hz, hy, core, bne, Bool.not_not, Int.reduceEq, Int.reduceBEq, or_false, false_or, or_self, or_true, true_or, none_eq2]
    · have hw : wnt made e.op = some ⟨none, none, fun _ => false, 0, 0, 2, 2, false⟩ := by rw [h]; rfl
      rw [hw, h]; simp only [Wnt.head, Wnt.b1, Wnt.b2, Wnt.b3, ndec_lt, consB, namesB, hz, hy, core, bne, Bool.not_not, Int.reduceEq, Int.reduceBEq, or_false, false_or, or_self, or_true, true_or, none_eq2]
    · have hw : wnt made e.op = some ⟨none, none, fun _ => false, 0, 0, 1, 1, false⟩ := by rw [h]; rfl
      rw [hw, h]; simp only [Wnt.head, Wnt.b1, Wnt.b2, Wnt.b3, ndec_lt, consB, namesB, hz, hy, core, bne, Bool.not_not, Int.reduceEq, Int.reduceBEq, or_false, false_or, or_self, or_true, true_or, none_eq2]
    · have hw : wnt made e.op = some ⟨none, none, fun _ => false, 0, 0, 2, 2, false⟩ := by rw [h]; rfl
      rw [hw, h]; simp only [Wnt.head, Wnt.b1, Wnt.b2, Wnt.b3, ndec_lt, consB, namesB, hz, hy, core, bne, Bool.not_not, Int.reduceEq, Int.reduceBEq, or_false, false_or, or_self, or_true, true_or, none_eq2]
    · have hw : wnt made e.op = some ⟨some (nameB made), none, conB made, 1, 1, 1, 1, false⟩ := by rw [h]; rfl
      rw [hw, h]; simp only [Wnt.head, Wnt.b1, Wnt.b2, Wnt.b3, ndec_lt, consB, namesB, hz, hy, core, bne, Bool.not_not, Int.reduceEq, Int.reduceBEq, or_false, false_or, or_self, or_true, true_or]
      exact alg_c _ _ _ _ _ _ _
    · have hw : wnt made e.op = some ⟨some (nameB made), none, conB made, 1, 8, 1, 8, true⟩ := by rw [h]; rfl
      rw [hw, h]; simp only [Wnt.head, Wnt.b1, Wnt.b2, Wnt.b3, ndec_lt, consB, namesB, hz, hy, core, bne, Bool.not_not, Int.reduceEq, Int.reduceBEq, or_false, false_or, or_self, or_true, true_or]
      exact alg_m _ _ _ _ _ _ _ _
    · have hw : wnt made e.op = some ⟨some (nameB made), none, conB made, 1, 8, 1, 8, true⟩ := by rw [h]; rfl
      rw [hw, h]; simp only [Wnt.head, Wnt.b1, Wnt.b2, Wnt.b3, ndec_lt, consB, namesB, hz, hy, core, bne, Bool.not_not, Int.reduceEq, Int.reduceBEq, or_false, false_or, or_self, or_true, true_or]
      exact alg_m _ _ _ _ _ _ _ _
    · have hw : wnt made e.op = some ⟨some (nameB made), none, nameB made, 0, 6, 1, 6, false⟩ := by rw [h]; rfl
      rw [hw, h]; simp only [Wnt.head, Wnt.b1, Wnt.b2, Wnt.b3, ndec_lt, consB, namesB, hz, hy, core, bne, Bool.not_not, Int.reduceEq, Int.reduceBEq, or_false, false_or, or_self, or_true, true_or]
      exact alg_d _ _ _ _ _ _
    · have hw : wnt made e.op = some ⟨none, none, fun _ => false, 0, 0, 2, 2, false⟩ := by rw [h]; rfl
      rw [hw, h]; simp only [Wnt.head, Wnt.b1, Wnt.b2, Wnt.b3, ndec_lt, consB, namesB, hz, hy, core, bne, Bool.not_not, Int.reduceEq, Int.reduceBEq, or_false, false_or, or_self, or_true, true_or, none_eq2]
    · exact absurd (fun _ hx => by cases hx) h
theorem rexpr_loop (made : Bool) (e : PExpr) (hs : e.Small) (ih : ∀ k ∈ e.kids, Ret C 104 [.agg k.cells, .bool made] (.bool (exprB made k))) : Ret C 104 [.agg e.cells, .bool made] (.bool (exprB made e)) := by
  refine Ret.mk (by simp [refsL, refs, e.norefs]) rfl ?_
  rw [exprB_shape]
  have e1 := rshape_c made e hs
  have hl1 := hs.kids.1
  rw [C_fn rfl Go.Proofs.Tryz.func104 rfl (by kernel_rfl) (m := 64) rfl]; simp only [sims, core, pe, Nat.reduceAdd, Int.reduceBEq, Int.reduceBNe, Int.reduceLT, Int.reduceLE, Go.Proofs.Tryz.f104, fx_104, e1 _]
  cases h1 : shapeB made e
  · simp only [sims, core, pe, Nat.reduceAdd, Int.reduceBEq, Int.reduceBNe, Int.reduceLT, Int.reduceLE, fx_104, h1]
  simp only [sims, core, pe, Nat.reduceAdd, Int.reduceBEq, Int.reduceBNe, Int.reduceLT, Int.reduceLE, fx_104, h1]
  by_cases h11 : e.op = 11
  · have hx : extraB made e = consB made e.cons 1 1 := by unfold extraB; rw [h11]; rfl
    rw [hx]
    have e2 := rcons_c made e.cons hs.cons 1 1
    simp only [sims, core, pe, Nat.reduceAdd, Int.reduceBEq, Int.reduceBNe, Int.reduceLT, Int.reduceLE, fx_104, h11, e2 _]
    cases h2 : consB made e.cons 1 1
    · simp only [sims, core, pe, Nat.reduceAdd, Int.reduceBEq, Int.reduceBNe, Int.reduceLT, Int.reduceLE, fx_104, h2]
    simp only [sims, core, pe, Nat.reduceAdd, Int.reduceBEq, Int.reduceBNe, Int.reduceLT, Int.reduceLE, fx_104, h2]
    generalize hb : codeB PP cmp0 C lpC _ = f; generalize hl : lpC f _ = r
    obtain ⟨ex, s', rfl, h2⟩ := lpC_at (α := Nat) hl [4, 51, 52, 53, 54, 55, 56, 57, 58, 59, 60, 61, 62, 63, 64, 65] (fun i => [(5, .int .i64 i)]) (fun i => i ≤ e.kids.length) (fun i => e.kids.length - i) (fun i => (e.kids.drop i).all fun x => exprB made x)
      (AllPostE 1 [4, 5, 51, 52, 53, 54, 55, 56, 57, 58, 59, 60, 61, 62, 63, 64, 65] [5, 51, 52, 53, 54, 55, 56, 57, 58, 59, 60, 61, 62, 63, 64, 65] 4) 0 (Nat.zero_le _) (by simp only [At, ats, Int.natCast_zero, List.drop_left, List.drop_length, List.append_nil]) (by
        intro i j H d hi
        clear hl; subst hb
        by_cases hlt : i < e.kids.length
        · have e1 : ((i : Int) < (e.kids.length : Int)) := by omega
          have e3 : (e.kids.map PExpr.cells)[i]? = some (PExpr.cells e.kids[i]) := by simp [hlt]
          have hm := List.getElem_mem hlt
          have c1 := ih e.kids[i] hm
          simp only [sims, core, pe, Nat.reduceAdd, Int.reduceBEq, Int.reduceBNe, Int.reduceLT, Int.reduceLE, fx_104, ty, e1, e3, c1 _]
          cases hc0 : exprB made e.kids[i]
          · simp only [sims, core, pe, Nat.reduceAdd, Int.reduceBEq, Int.reduceBNe, Int.reduceLT, Int.reduceLE, fx_104, ty, e1, e3, c1 _, hc0]
            exact .inr ⟨_, _, rfl, by simp, .inr ⟨by simp only [List.drop_eq_getElem_cons hlt, List.all_cons, hc0, Bool.false_and, Bool.and_false], rfl, by simp only [At, ats, Int.natCast_zero, List.drop_left, List.drop_length, List.append_nil]⟩⟩
          · simp only [sims, core, pe, Nat.reduceAdd, Int.reduceBEq, Int.reduceBNe, Int.reduceLT, Int.reduceLE, fx_104, ty, e1, e3, c1 _, hc0, wrap_nat (show i ≤ lenTop by omega)]
            exact .inl ⟨i + 1, _, rfl, hlt, by simp only [At, ats, Int.natCast_zero, List.drop_left, List.drop_length, List.append_nil], by simp only []; omega, by simp only [List.drop_eq_getElem_cons hlt, List.all_cons, hc0, Bool.true_and]⟩
        · have e1 : ¬ ((i : Int) < (e.kids.length : Int)) := by omega
          simp only [sims, core, pe, Nat.reduceAdd, Int.reduceBEq, Int.reduceBNe, Int.reduceLT, Int.reduceLE, fx_104, e1]
          exact .inr ⟨_, _, rfl, by simp, .inl ⟨by simp only []; rw [List.drop_eq_nil_of_le (by omega)]; rfl, rfl, by simp only [At, ats, Int.natCast_zero, List.drop_left, List.drop_length, List.append_nil]⟩⟩)
    rw [List.drop_zero] at h2
    rcases h2 with ⟨hr1, rfl, h2⟩ | ⟨hr1, rfl, h2⟩
    · obtain ⟨j, H, d, rfl⟩ := h2.elim
      clear hl
      simp only [sims, core, pe, Nat.reduceAdd, Int.reduceBEq, Int.reduceBNe, Int.reduceLT, Int.reduceLE, fx_104, hr1]
    · obtain ⟨j, H, d, rfl⟩ := h2.elim
      clear hl
      simp only [sims, core, pe, Nat.reduceAdd, Int.reduceBEq, Int.reduceBNe, Int.reduceLT, Int.reduceLE, fx_104, hr1]
  by_cases h1213 : e.op = 12 ∨ e.op = 13
  · have hx : extraB made e = (((e.cons.length : Int) == (e.kids.length : Int)) && consB made e.cons 1 8) := by
      unfold extraB; rw [if_neg h11, if_pos h1213]
    rw [hx]
    have e2 := rcons_c made e.cons hs.cons 1 8
    rcases h1213 with h12 | h12
    · simp only [sims, core, pe, Nat.reduceAdd, Int.reduceBEq, Int.reduceBNe, Int.reduceLT, Int.reduceLE, fx_104, h12, bne]
      cases h2 : ((e.cons.length : Int) == (e.kids.length : Int))
      · simp only [sims, core, pe, Nat.reduceAdd, Int.reduceBEq, Int.reduceBNe, Int.reduceLT, Int.reduceLE, fx_104, h2]
      simp only [sims, core, pe, Nat.reduceAdd, Int.reduceBEq, Int.reduceBNe, Int.reduceLT, Int.reduceLE, fx_104, h2, e2 _]
      cases h3 : consB made e.cons 1 8
      · simp only [sims, core, pe, Nat.reduceAdd, Int.reduceBEq, Int.reduceBNe, Int.reduceLT, Int.reduceLE, fx_104, h3]
      simp only [sims, core, pe, Nat.reduceAdd, Int.reduceBEq, Int.reduceBNe, Int.reduceLT, Int.reduceLE, fx_104, h3]
      generalize hb : codeB PP cmp0 C lpC _ = f; generalize hl : lpC f _ = r
      obtain ⟨ex, s', rfl, h2⟩ := lpC_at (α := Nat) hl [4, 51, 52, 53, 54, 55, 56, 57, 58, 59, 60, 61, 62, 63, 64, 65] (fun i => [(5, .int .i64 i)]) (fun i => i ≤ e.kids.length) (fun i => e.kids.length - i) (fun i => (e.kids.drop i).all fun x => exprB made x)
        (AllPostE 1 [4, 5, 51, 52, 53, 54, 55, 56, 57, 58, 59, 60, 61, 62, 63, 64, 65] [5, 51, 52, 53, 54, 55, 56, 57, 58, 59, 60, 61, 62, 63, 64, 65] 4) 0 (Nat.zero_le _) (by simp only [At, ats, Int.natCast_zero, List.drop_left, List.drop_length, List.append_nil]) (by
          intro i j H d hi
          clear hl; subst hb
          by_cases hlt : i < e.kids.length
          · have e1 : ((i : Int) < (e.kids.length : Int)) := by omega
            have e3 : (e.kids.map PExpr.cells)[i]? = some (PExpr.cells e.kids[i]) := by simp [hlt]
            have hm := List.getElem_mem hlt
            have c1 := ih e.kids[i] hm
            simp only [sims, core, pe, Nat.reduceAdd, Int.reduceBEq, Int.reduceBNe, Int.reduceLT, Int.reduceLE, fx_104, ty, e1, e3, c1 _]
            cases hc0 : exprB made e.kids[i]
            · simp only [sims, core, pe, Nat.reduceAdd, Int.reduceBEq, Int.reduceBNe, Int.reduceLT, Int.reduceLE, fx_104, ty, e1, e3, c1 _, hc0]
              exact .inr ⟨_, _, rfl, by simp, .inr ⟨by simp only [List.drop_eq_getElem_cons hlt, List.all_cons, hc0, Bool.false_and, Bool.and_false], rfl, by simp only [At, ats, Int.natCast_zero, List.drop_left, List.drop_length, List.append_nil]⟩⟩
            · simp only [sims, core, pe, Nat.reduceAdd, Int.reduceBEq, Int.reduceBNe, Int.reduceLT, Int.reduceLE, fx_104, ty, e1, e3, c1 _, hc0, wrap_nat (show i ≤ lenTop by omega)]
              exact .inl ⟨i + 1, _, rfl, hlt, by simp only [At, ats, Int.natCast_zero, List.drop_left, List.drop_length, List.append_nil], by simp only []; omega, by simp only [List.drop_eq_getElem_cons hlt, List.all_cons, hc0, Bool.true_and]⟩
          · have e1 : ¬ ((i : Int) < (e.kids.length : Int)) := by omega
            simp only [sims, core, pe, Nat.reduceAdd, Int.reduceBEq, Int.reduceBNe, Int.reduceLT, Int.reduceLE, fx_104, e1]
            exact .inr ⟨_, _, rfl, by simp, .inl ⟨by simp only []; rw [List.drop_eq_nil_of_le (by omega)]; rfl, rfl, by simp only [At, ats, Int.natCast_zero, List.drop_left, List.drop_length, List.append_nil]⟩⟩)
      rw [List.drop_zero] at h2
      rcases h2 with ⟨hr1, rfl, h2⟩ | ⟨hr1, rfl, h2⟩
      · obtain ⟨j, H, d, rfl⟩ := h2.elim
        clear hl
        simp only [sims, core, pe, Nat.reduceAdd, Int.reduceBEq, Int.reduceBNe, Int.reduceLT, Int.reduceLE, fx_104, hr1]
      · obtain ⟨j, H, d, rfl⟩ := h2.elim
        clear hl
        simp only [sims, core, pe, Nat.reduceAdd, Int.reduceBEq, Int.reduceBNe, Int.reduceLT, Int.reduceLE, fx_104, hr1]
    · simp only [sims, core, pe, Nat.reduceAdd, Int.reduceBEq, Int.reduceBNe, Int.reduceLT, Int.reduceLE, fx_104, h12, bne]
      cases h2 : ((e.cons.length : Int) == (e.kids.length : Int))
      · simp only [sims, core, pe, Nat.reduceAdd, Int.reduceBEq, Int.reduceBNe, Int.reduceLT, Int.reduceLE, fx_104, h2]
      simp only [sims, core, pe, Nat.reduceAdd, Int.reduceBEq, Int.reduceBNe, Int.reduceLT, Int.reduceLE, fx_104, h2, e2 _]
      cases h3 : consB made e.cons 1 8
      · simp only [sims, core, pe, Nat.reduceAdd, Int.reduceBEq, Int.reduceBNe, Int.reduceLT, Int.reduceLE, fx_104, h3]
      simp only [sims, core, pe, Nat.reduceAdd, Int.reduceBEq, Int.reduceBNe, Int.reduceLT, Int.reduceLE, fx_104, h3]
      generalize hb : codeB PP cmp0 C lpC _ = f; generalize hl : lpC f _ = r
      obtain ⟨ex, s', rfl, h2⟩ := lpC_at (α := Nat) hl [4, 51, 52, 53, 54, 55, 56, 57, 58, 59, 60, 61, 62, 63, 64, 65] (fun i => [(5, .int .i64 i)]) (fun i => i ≤ e.kids.length) (fun i => e.kids.length - i) (fun i => (e.kids.drop i).all fun x => exprB made x)
        (AllPostE 1 [4, 5, 51, 52, 53, 54, 55, 56, 57, 58, 59, 60, 61, 62, 63, 64, 65] [5, 51, 52, 53, 54, 55, 56, 57, 58, 59, 60, 61, 62, 63, 64, 65] 4) 0 (Nat.zero_le _) (by simp only [At, ats, Int.natCast_zero, List.drop_left, List.drop_length, List.append_nil]) (by
          intro i j H d hi
          clear hl; subst hb
          by_cases hlt : i < e.kids.length
          · have e1 : ((i : Int) < (e.kids.length : Int)) := by omega
            have e3 : (e.kids.map PExpr.cells)[i]? = some (PExpr.cells e.kids[i]) := by simp [hlt]
            have hm := List.getElem_mem hlt
            have c1 := ih e.kids[i] hm
            simp only [sims, core, pe, Nat.reduceAdd, Int.reduceBEq, Int.reduceBNe, Int.reduceLT, Int.reduceLE, fx_104, ty, e1, e3, c1 _]
            cases hc0 : exprB made e.kids[i]
            · simp only [sims, core, pe, Nat.reduceAdd, Int.reduceBEq, Int.reduceBNe, Int.reduceLT, Int.reduceLE, fx_104, ty, e1, e3, c1 _, hc0]
              exact .inr ⟨_, _, rfl, by simp, .inr ⟨by simp only [List.drop_eq_getElem_cons hlt, List.all_cons, hc0, Bool.false_and, Bool.and_false], rfl, by simp only [At, ats, Int.natCast_zero, List.drop_left, List.drop_length, List.append_nil]⟩⟩
            · simp only [sims, core, pe, Nat.reduceAdd, Int.reduceBEq, Int.reduceBNe, Int.reduceLT, Int.reduceLE, fx_104, ty, e1, e3, c1 _, hc0, wrap_nat (show i ≤ lenTop by omega)]
              exact .inl ⟨i + 1, _, rfl, hlt, by simp only [At, ats, Int.natCast_zero, List.drop_left, List.drop_length, List.append_nil], by simp only []; omega, by simp only [List.drop_eq_getElem_cons hlt, List.all_cons, hc0, Bool.true_and]⟩
          · have e1 : ¬ ((i : Int) < (e.kids.length : Int)) := by omega
            simp only [sims, core, pe, Nat.reduceAdd, Int.reduceBEq, Int.reduceBNe, Int.reduceLT, Int.reduceLE, fx_104, e1]
            exact .inr ⟨_, _, rfl, by simp, .inl ⟨by simp only []; rw [List.drop_eq_nil_of_le (by omega)]; rfl, rfl, by simp only [At, ats, Int.natCast_zero, List.drop_left, List.drop_length, List.append_nil]⟩⟩)
      rw [List.drop_zero] at h2
      rcases h2 with ⟨hr1, rfl, h2⟩ | ⟨hr1, rfl, h2⟩
      · obtain ⟨j, H, d, rfl⟩ := h2.elim
        clear hl
        simp only [sims, core, pe, Nat.reduceAdd, Int.reduceBEq, Int.reduceBNe, Int.reduceLT, Int.reduceLE, fx_104, hr1]
      · obtain ⟨j, H, d, rfl⟩ := h2.elim
        clear hl
        simp only [sims, core, pe, Nat.reduceAdd, Int.reduceBEq, Int.reduceBNe, Int.reduceLT, Int.reduceLE, fx_104, hr1]
  by_cases h14 : e.op = 14
  · have hx : extraB made e = namesB made e.cons 0 6 := by unfold extraB; rw [h14]; rfl
    rw [hx]
    have e2 := rnames_c made e.cons hs.cons 0 6
    simp only [sims, core, pe, Nat.reduceAdd, Int.reduceBEq, Int.reduceBNe, Int.reduceLT, Int.reduceLE, fx_104, h14, e2 _]
    cases h2 : namesB made e.cons 0 6
    · simp only [sims, core, pe, Nat.reduceAdd, Int.reduceBEq, Int.reduceBNe, Int.reduceLT, Int.reduceLE, fx_104, h2]
    simp only [sims, core, pe, Nat.reduceAdd, Int.reduceBEq, Int.reduceBNe, Int.reduceLT, Int.reduceLE, fx_104, h2]
    generalize hb : codeB PP cmp0 C lpC _ = f; generalize hl : lpC f _ = r
    obtain ⟨ex, s', rfl, h2⟩ := lpC_at (α := Nat) hl [4, 51, 52, 53, 54, 55, 56, 57, 58, 59, 60, 61, 62, 63, 64, 65] (fun i => [(5, .int .i64 i)]) (fun i => i ≤ e.kids.length) (fun i => e.kids.length - i) (fun i => (e.kids.drop i).all fun x => exprB made x)
      (AllPostE 1 [4, 5, 51, 52, 53, 54, 55, 56, 57, 58, 59, 60, 61, 62, 63, 64, 65] [5, 51, 52, 53, 54, 55, 56, 57, 58, 59, 60, 61, 62, 63, 64, 65] 4) 0 (Nat.zero_le _) (by simp only [At, ats, Int.natCast_zero, List.drop_left, List.drop_length, List.append_nil]) (by
        intro i j H d hi
        clear hl; subst hb
        by_cases hlt : i < e.kids.length
        · have e1 : ((i : Int) < (e.kids.length : Int)) := by omega
          have e3 : (e.kids.map PExpr.cells)[i]? = some (PExpr.cells e.kids[i]) := by simp [hlt]
          have hm := List.getElem_mem hlt
          have c1 := ih e.kids[i] hm
          simp only [sims, core, pe, Nat.reduceAdd, Int.reduceBEq, Int.reduceBNe, Int.reduceLT, Int.reduceLE, fx_104, ty, e1, e3, c1 _]
          cases hc0 : exprB made e.kids[i]
          · simp only [sims, core, pe, Nat.reduceAdd, Int.reduceBEq, Int.reduceBNe, Int.reduceLT, Int.reduceLE, fx_104, ty, e1, e3, c1 _, hc0]
            exact .inr ⟨_, _, rfl, by simp, .inr ⟨by simp only [List.drop_eq_getElem_cons hlt, List.all_cons, hc0, Bool.false_and, Bool.and_false], rfl, by simp only [At, ats, Int.natCast_zero, List.drop_left, List.drop_length, List.append_nil]⟩⟩
          · simp only [sims, core, pe, Nat.reduceAdd, Int.reduceBEq, Int.reduceBNe, Int.reduceLT, Int.reduceLE, fx_104, ty, e1, e3, c1 _, hc0, wrap_nat (show i ≤ lenTop by omega)]
            exact .inl ⟨i + 1, _, rfl, hlt, by simp only [At, ats, Int.natCast_zero, List.drop_left, List.drop_length, List.append_nil], by simp only []; omega, by simp only [List.drop_eq_getElem_cons hlt, List.all_cons, hc0, Bool.true_and]⟩
        · have e1 : ¬ ((i : Int) < (e.kids.length : Int)) := by omega
          simp only [sims, core, pe, Nat.reduceAdd, Int.reduceBEq, Int.reduceBNe, Int.reduceLT, Int.reduceLE, fx_104, e1]
          exact .inr ⟨_, _, rfl, by simp, .inl ⟨by simp only []; rw [List.drop_eq_nil_of_le (by omega)]; rfl, rfl, by simp only [At, ats, Int.natCast_zero, List.drop_left, List.drop_length, List.append_nil]⟩⟩)
    rw [List.drop_zero] at h2
    rcases h2 with ⟨hr1, rfl, h2⟩ | ⟨hr1, rfl, h2⟩
    · obtain ⟨j, H, d, rfl⟩ := h2.elim
      clear hl
      simp only [sims, core, pe, Nat.reduceAdd, Int.reduceBEq, Int.reduceBNe, Int.reduceLT, Int.reduceLE, fx_104, hr1]
    · obtain ⟨j, H, d, rfl⟩ := h2.elim
      clear hl
      simp only [sims, core, pe, Nat.reduceAdd, Int.reduceBEq, Int.reduceBNe, Int.reduceLT, Int.reduceLE, fx_104, hr1]
  by_cases h15 : e.op = 15
  · have hx : extraB made e = first14 e.kids := by unfold extraB; rw [h15]; rfl
    rw [hx]
    have hk2 : ∃ k0 r, e.kids = k0 :: r := by
      have : decide ((2 : Int) ≤ (e.kids.length : Int)) = true := by
        unfold shapeB at h1; rw [h15] at h1
        have h1' : (Wnt.b1 ⟨none, none, fun _ => false, 0, 0, 2, 2, false⟩ e.name && Wnt.b2 ⟨none, none, fun _ => false, 0, 0, 2, 2, false⟩ e.n && decide ((0 : Int) ≤ (e.cons.length : Int)) && decide ((e.cons.length : Int) ≤ 0) && decide ((2 : Int) ≤ (e.kids.length : Int)) && decide ((e.kids.length : Int) ≤ 2)) = true := h1
        simp only [Bool.and_eq_true] at h1'
        exact h1'.1.2
      cases hk : e.kids with
      | nil => rw [hk] at this; simp at this
      | cons k0 r => exact ⟨k0, r, rfl⟩
    obtain ⟨k0, r, hk2⟩ := hk2
    have hg : (e.kids.map PExpr.cells)[0]? = some k0.cells := by rw [hk2]; rfl
    have hf : first14 e.kids = (k0.op == 14) := by rw [hk2]; rfl
    rw [hf]
    simp only [sims, core, pe, Nat.reduceAdd, Int.reduceBEq, Int.reduceBNe, Int.reduceLT, Int.reduceLE, fx_104, h15, hg, bne]
    cases h2 : k0.op == 14
    · simp only [sims, core, pe, Nat.reduceAdd, Int.reduceBEq, Int.reduceBNe, Int.reduceLT, Int.reduceLE, fx_104, h2]
    simp only [sims, core, pe, Nat.reduceAdd, Int.reduceBEq, Int.reduceBNe, Int.reduceLT, Int.reduceLE, fx_104, h2]
    generalize hb : codeB PP cmp0 C lpC _ = f; generalize hl : lpC f _ = r
    obtain ⟨ex, s', rfl, h2⟩ := lpC_at (α := Nat) hl [4, 51, 52, 53, 54, 55, 56, 57, 58, 59, 60, 61, 62, 63, 64, 65] (fun i => [(5, .int .i64 i)]) (fun i => i ≤ e.kids.length) (fun i => e.kids.length - i) (fun i => (e.kids.drop i).all fun x => exprB made x)
      (AllPostE 1 [4, 5, 51, 52, 53, 54, 55, 56, 57, 58, 59, 60, 61, 62, 63, 64, 65] [5, 51, 52, 53, 54, 55, 56, 57, 58, 59, 60, 61, 62, 63, 64, 65] 4) 0 (Nat.zero_le _) (by simp only [At, ats, Int.natCast_zero, List.drop_left, List.drop_length, List.append_nil]) (by
        intro i j H d hi
        clear hl; subst hb
        by_cases hlt : i < e.kids.length
        · have e1 : ((i : Int) < (e.kids.length : Int)) := by omega
          have e3 : (e.kids.map PExpr.cells)[i]? = some (PExpr.cells e.kids[i]) := by simp [hlt]
          have hm := List.getElem_mem hlt
          have c1 := ih e.kids[i] hm
          simp only [sims, core, pe, Nat.reduceAdd, Int.reduceBEq, Int.reduceBNe, Int.reduceLT, Int.reduceLE, fx_104, ty, e1, e3, c1 _]
          cases hc0 : exprB made e.kids[i]
          · simp only [sims, core, pe, Nat.reduceAdd, Int.reduceBEq, Int.reduceBNe, Int.reduceLT, Int.reduceLE, fx_104, ty, e1, e3, c1 _, hc0]
            exact .inr ⟨_, _, rfl, by simp, .inr ⟨by simp only [List.drop_eq_getElem_cons hlt, List.all_cons, hc0, Bool.false_and, Bool.and_false], rfl, by simp only [At, ats, Int.natCast_zero, List.drop_left, List.drop_length, List.append_nil]⟩⟩
          · simp only [sims, core, pe, Nat.reduceAdd, Int.reduceBEq, Int.reduceBNe, Int.reduceLT, Int.reduceLE, fx_104, ty, e1, e3, c1 _, hc0, wrap_nat (show i ≤ lenTop by omega)]
            exact .inl ⟨i + 1, _, rfl, hlt, by simp only [At, ats, Int.natCast_zero, List.drop_left, List.drop_length, List.append_nil], by simp only []; omega, by simp only [List.drop_eq_getElem_cons hlt, List.all_cons, hc0, Bool.true_and]⟩
        · have e1 : ¬ ((i : Int) < (e.kids.length : Int)) := by omega
          simp only [sims, core, pe, Nat.reduceAdd, Int.reduceBEq, Int.reduceBNe, Int.reduceLT, Int.reduceLE, fx_104, e1]
          exact .inr ⟨_, _, rfl, by simp, .inl ⟨by simp only []; rw [List.drop_eq_nil_of_le (by omega)]; rfl, rfl, by simp only [At, ats, Int.natCast_zero, List.drop_left, List.drop_length, List.append_nil]⟩⟩)
    rw [List.drop_zero] at h2
    rcases h2 with ⟨hr1, rfl, h2⟩ | ⟨hr1, rfl, h2⟩
    · obtain ⟨j, H, d, rfl⟩ := h2.elim
      clear hl
      simp only [sims, core, pe, Nat.reduceAdd, Int.reduceBEq, Int.reduceBNe, Int.reduceLT, Int.reduceLE, fx_104, hr1]
    · obtain ⟨j, H, d, rfl⟩ := h2.elim
      clear hl
      simp only [sims, core, pe, Nat.reduceAdd, Int.reduceBEq, Int.reduceBNe, Int.reduceLT, Int.reduceLE, fx_104, hr1]
  have hx : extraB made e = true := by unfold extraB; rw [if_neg h11, if_neg h1213, if_neg h14, if_neg h15]
  rw [hx]
  have b11 := beq_false_of_ne h11
  have b12 := beq_false_of_ne (fun h => h1213 (.inl h))
  have b13 := beq_false_of_ne (fun h => h1213 (.inr h))
  have b14 := beq_false_of_ne h14
  have b15 := beq_false_of_ne h15
  simp only [sims, core, pe, Nat.reduceAdd, Int.reduceBEq, Int.reduceBNe, Int.reduceLT, Int.reduceLE, fx_104, b11, b12, b13, b14, b15]
  generalize hb : codeB PP cmp0 C lpC _ = f; generalize hl : lpC f _ = r
  obtain ⟨ex, s', rfl, h2⟩ := lpC_at (α := Nat) hl [4, 51, 52, 53, 54, 55, 56, 57, 58, 59, 60, 61, 62, 63, 64, 65] (fun i => [(5, .int .i64 i)]) (fun i => i ≤ e.kids.length) (fun i => e.kids.length - i) (fun i => (e.kids.drop i).all fun x => exprB made x)
    (AllPostE 1 [4, 5, 51, 52, 53, 54, 55, 56, 57, 58, 59, 60, 61, 62, 63, 64, 65] [5, 51, 52, 53, 54, 55, 56, 57, 58, 59, 60, 61, 62, 63, 64, 65] 4) 0 (Nat.zero_le _) (by simp only [At, ats, Int.natCast_zero, List.drop_left, List.drop_length, List.append_nil]) (by
      intro i j H d hi
      clear hl; subst hb
      by_cases hlt : i < e.kids.length
      · have e1 : ((i : Int) < (e.kids.length : Int)) := by omega
        have e3 : (e.kids.map PExpr.cells)[i]? = some (PExpr.cells e.kids[i]) := by simp [hlt]
        have hm := List.getElem_mem hlt
        have c1 := ih e.kids[i] hm
        simp only [sims, core, pe, Nat.reduceAdd, Int.reduceBEq, Int.reduceBNe, Int.reduceLT, Int.reduceLE, fx_104, ty, e1, e3, c1 _]
        cases hc0 : exprB made e.kids[i]
        · simp only [sims, core, pe, Nat.reduceAdd, Int.reduceBEq, Int.reduceBNe, Int.reduceLT, Int.reduceLE, fx_104, ty, e1, e3, c1 _, hc0]
          exact .inr ⟨_, _, rfl, by simp, .inr ⟨by simp only [List.drop_eq_getElem_cons hlt, List.all_cons, hc0, Bool.false_and, Bool.and_false], rfl, by simp only [At, ats, Int.natCast_zero, List.drop_left, List.drop_length, List.append_nil]⟩⟩
        · simp only [sims, core, pe, Nat.reduceAdd, Int.reduceBEq, Int.reduceBNe, Int.reduceLT, Int.reduceLE, fx_104, ty, e1, e3, c1 _, hc0, wrap_nat (show i ≤ lenTop by omega)]
          exact .inl ⟨i + 1, _, rfl, hlt, by simp only [At, ats, Int.natCast_zero, List.drop_left, List.drop_length, List.append_nil], by simp only []; omega, by simp only [List.drop_eq_getElem_cons hlt, List.all_cons, hc0, Bool.true_and]⟩
      · have e1 : ¬ ((i : Int) < (e.kids.length : Int)) := by omega
        simp only [sims, core, pe, Nat.reduceAdd, Int.reduceBEq, Int.reduceBNe, Int.reduceLT, Int.reduceLE, fx_104, e1]
        exact .inr ⟨_, _, rfl, by simp, .inl ⟨by simp only []; rw [List.drop_eq_nil_of_le (by omega)]; rfl, rfl, by simp only [At, ats, Int.natCast_zero, List.drop_left, List.drop_length, List.append_nil]⟩⟩)
  rw [List.drop_zero] at h2
  rcases h2 with ⟨hr1, rfl, h2⟩ | ⟨hr1, rfl, h2⟩
  · obtain ⟨j, H, d, rfl⟩ := h2.elim
    clear hl
    simp only [sims, core, pe, Nat.reduceAdd, Int.reduceBEq, Int.reduceBNe, Int.reduceLT, Int.reduceLE, fx_104, hr1]
  · obtain ⟨j, H, d, rfl⟩ := h2.elim
    clear hl
    simp only [sims, core, pe, Nat.reduceAdd, Int.reduceBEq, Int.reduceBNe, Int.reduceLT, Int.reduceLE, fx_104, hr1]
theorem rexpr_c (made : Bool) (e : PExpr) : e.Small → Ret C 104 [.agg e.cells, .bool made] (.bool (exprB made e)) := by
  induction e using PExpr.induct with
  | h op name n cons kids ih =>
    intro hs
    exact rexpr_loop made _ hs (fun k hk => ih k hk (hs.kids.2 k hk))
theorem req_c (made : Bool) (q : PEq) (hs : q.Small) : Ret C 103 [.agg q.cells, .bool made] (.bool (eqB made q)) := by
  refine Ret.mk (by simp [refsL, refs, q.norefs]) rfl ?_
  have e1 := rnames_c made q.names hs.1 1 6
  have e2 := rexpr_c made q.e hs.2
  rw [C_fn rfl Go.Proofs.Tryz.func103 rfl (by kernel_rfl) (m := 13) rfl]; simp only [sims, core, pe, Nat.reduceAdd, Int.reduceBEq, Int.reduceBNe, Int.reduceLT, Int.reduceLE, Go.Proofs.Tryz.f103, fx_103, ty, e1 _, e2 _]
  cases h1 : namesB made q.names 1 6
  · simp only [sims, core, pe, Nat.reduceAdd, Int.reduceBEq, Int.reduceBNe, Int.reduceLT, Int.reduceLE, fx_103, ty, h1, eqB]
  · simp only [sims, core, pe, Nat.reduceAdd, Int.reduceBEq, Int.reduceBNe, Int.reduceLT, Int.reduceLE, fx_103, ty, h1, e2 _, eqB]
end Go.Ab
