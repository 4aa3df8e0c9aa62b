/- Which programs may be. -/
import Derived.Test.YtnmejllfnndcbaaGreatDoorAbEach
import Derived.Test.YtnmejllfnndcbaaGreatDoorAbReadT
set_option linter.unusedSimpArgs false
set_option linter.unusedVariables false
namespace Go.Ab
open Go Go.Ab.Tab
set_option maxRecDepth 100000
set_option maxHeartbeats 4000000
set_option linter.unusedSimpArgs false
def AllPostE (id : Nat) (junk junk' : List Nat) (slot : Nat) (ts : List AVal) (H : AHeap) (r : Bool) (ex : AEx) (s : St) : Prop :=
  (r = true ∧ ex = .exit id ∧ At junk ts H [] s) ∨ (r = false ∧ ex = .ret ∧ At junk' ts H [(slot, .bool false)] s)
theorem PExpr.Rng.n {e : PExpr} (h : e.Rng) : i64ok e.n := by cases h; assumption
theorem PExpr.Rng.kids {e : PExpr} (h : e.Rng) : ∀ k ∈ e.kids, k.Rng := by cases h; assumption
theorem expr2_c (made : Bool) (x : PExpr) (b : Bool) (h : Ret C 151 [fieldA made, .agg x.cells] (.bool b)) : C 166 [.agg x.cells, .ptr 0 0] [.box [.bool made]] = some (.ret (.bool (!b)) .same) := by
  unfold fieldA at h
  rw [C_fn rfl Go.Proofs.Tryz.func166 rfl (by kernel_rfl) (m := 6) rfl]; simp only [sims, core, pe, Nat.reduceAdd, Int.reduceBEq, Int.reduceBNe, Int.reduceLT, Int.reduceLE, Go.Proofs.Tryz.f166, fx_166, h _, leave_clean 1 _ _ [] (by simp)]
theorem expr_c (made : Bool) (e : PExpr) : e.Small → e.Rng → Ret C 151 [fieldA made, .agg e.cells] (.bool (exprB made e)) := by
  induction e using PExpr.induct with
  | h op name n cons kids ih =>
    intro hs hr
    obtain ⟨e, he⟩ : ∃ e, e = PExpr.mk op name n cons kids := ⟨_, rfl⟩
    rw [← he] at hs hr ⊢
    have hkids : e.kids = kids := by rw [he]; rfl
    have hk : ∀ H, callA C (.box [.bool made] :: H) 165 [.slice (e.kids.map PExpr.cells) .free, .func 166 [] [.ptr 0 0]] = some (.ret (.bool (e.kids.any fun x => !exprB made x)) .same) := fun H =>
      callA_box1 (b := 0) _ rfl rfl rfl (contains_PExpr_c e.kids hs.kids.1 _ _ rfl (fun x => !exprB made x) (fun x hx H =>
        callA_box1 (b := 0) _ (by simp [refsL, refs, x.norefs]) rfl rfl (by
          simp only [renL, ren, ren_pure x.norefs]
          exact expr2_c made x _ (ih x (hkids ▸ hx) (hs.kids.2 x hx) (hr.kids x hx))) rfl)) rfl
    have ha : refsL [fieldA made, .agg e.cells] = [] := by simp [refsL, refs, e.norefs, fieldA]
    refine Ret.mk ha rfl ?_
    by_cases h : ∀ i ∈ [1, 2, 3, 4, 5, 6, 7, 8, 9, 10, 11, 12, 13, 14, 15], e.op ≠ i
    · have hw : exprB made e = false := by
        have : wnt made e.op = none := by
          simp only [List.forall_mem_cons] at h
          obtain ⟨h1, h2, h3, h4, h5, h6, h7, h8, h9, h10, h11, h12, h13, h14, h15, -⟩ := h
          unfold wnt
          rw [if_neg h1, if_neg h2, if_neg h3, if_neg h4, if_neg h5, if_neg h6, if_neg h7, if_neg h8, if_neg h9, if_neg h10, if_neg h11, if_neg h12, if_neg h13, if_neg h14, if_neg h15]
        rw [exprB_eq, this]; rfl
      rw [hw]
      have e1 := of_none made e.op h
      unfold fieldA at e1
      rw [C_fn rfl Go.Proofs.Tryz.func151 rfl (by kernel_rfl) (m := 107) rfl]; simp only [sims, core, pe, Nat.reduceAdd, Int.reduceBEq, Int.reduceBNe, Int.reduceLT, Int.reduceLE, Go.Proofs.Tryz.f151, fx_151, fieldA, e1 _]
    · simp only [List.forall_mem_cons, Classical.not_and_iff_not_or_not, Classical.not_not, ne_eq] at h
      rcases h with h | h | h | h | h | h | h | h | h | h | h | h | h | h | h | h
      · exact expr_1 made e h hs hr.n hk
      · exact expr_2 made e h hs hr.n hk
      · exact expr_3 made e h hs hr.n hk
      · exact expr_4 made e h hs hr.n hk
      · exact expr_5 made e h hs hr.n hk
      · exact expr_6 made e h hs hr.n hk
      · exact expr_7 made e h hs hr.n hk
      · exact expr_8 made e h hs hr.n hk
      · exact expr_9 made e h hs hr.n hk
      · exact expr_10 made e h hs hr.n hk
      · exact expr_11 made e h hs hr.n hk
      · exact expr_12 made e h hs hr.n hk
      · exact expr_13 made e h hs hr.n hk
      · exact expr_14 made e h hs hr.n hk
      · exact expr_15 made e h hs hr.n hk
      · exact absurd (fun _ hx => by cases hx) h
def namesB (made : Bool) (l : List Str) (least most : Int) : Bool := decide (least ≤ (l.length : Int)) && decide ((l.length : Int) ≤ most) && !l.any fun s => !nameB made s
def consB (made : Bool) (l : List Str) (least most : Int) : Bool := decide (least ≤ (l.length : Int)) && decide ((l.length : Int) ≤ most) && !l.any fun s => !conB made s
theorem names_c (made : Bool) (l : List Str) (hl : StrsSmall l) (least most : Int) : Ret C 56 [encStrs l, .int .i64 least, .int .i64 most, .func 55 [.agg [.bool made]] []] (.bool (namesB made l least most)) :=
  all_c l hl.1 least most _ [.agg [.bool made]] rfl (nameB made) (fun x hx => name_c made x (hl.2 x hx))
theorem cons_c (made : Bool) (l : List Str) (hl : StrsSmall l) (least most : Int) : Ret C 56 [encStrs l, .int .i64 least, .int .i64 most, .func 57 [.agg [.bool made]] []] (.bool (consB made l least most)) :=
  all_c l hl.1 least most _ [.agg [.bool made]] rfl (conB made) (fun x hx => con_c made x (hl.2 x hx))
def eqB (made : Bool) (q : PEq) : Bool := namesB made q.names 1 6 && exprB made q.e
theorem eq_c (made : Bool) (q : PEq) (hs : q.Small) (hr : q.Rng) : Ret C 126 [fieldA made, .agg q.cells] (.bool (eqB made q)) := by
  refine Ret.mk (by simp [refsL, refs, q.norefs, fieldA]) rfl ?_
  have e1 := names_c made q.names hs.1 1 6
  have e2 := expr_c made q.e hs.2 hr
  unfold fieldA at *
  rw [C_fn rfl Go.Proofs.Tryz.func126 rfl (by kernel_rfl) (m := 14) rfl]; simp only [sims, core, pe, Nat.reduceAdd, Int.reduceBEq, Int.reduceBNe, Int.reduceLT, Int.reduceLE, Go.Proofs.Tryz.f126, fx_126, ty, e1 _, e2 _]
  cases h1 : namesB made q.names 1 6
  · simp only [sims, core, pe, Nat.reduceAdd, Int.reduceBEq, Int.reduceBNe, Int.reduceLT, Int.reduceLE, fx_126, ty, h1, eqB]
  · simp only [sims, core, pe, Nat.reduceAdd, Int.reduceBEq, Int.reduceBNe, Int.reduceLT, Int.reduceLE, fx_126, ty, h1, e2 _, eqB]
def stateB (made : Bool) (s : PState) : Bool := conB made s.name && !decide (24 < (s.eqs.length : Int)) && !decide (4 < (s.ways.length : Int)) && (s.eqs.all (eqB made)) && s.ways.all fun w => conB made w.to && exprB made w.cond
theorem state_c (made : Bool) (s : PState) (hs : s.Small) (hr : s.Rng) : Ret C 129 [fieldA made, .agg s.cells] (.bool (stateB made s)) := by
  refine Ret.mk (by simp [refsL, refs, s.norefs, fieldA]) rfl ?_
  have hl1 := hs.2.1
  have hl2 := hs.2.2.2.1
  have e1 := con_c made s.name hs.1
  have ce := fun (x : PEq) hx => eq_c made x (hs.2.2.1 x hx) (hr.1 x hx)
  have cc := fun (x : PWay) hx => con_c made x.to (hs.2.2.2.2 x hx).2
  have cx := fun (x : PWay) hx => expr_c made x.cond (hs.2.2.2.2 x hx).1 (hr.2 x hx)
  unfold fieldA at *
  unfold stateB
  rw [C_fn rfl Go.Proofs.Tryz.func129 rfl (by kernel_rfl) (m := 56) rfl]; simp only [sims, core, pe, Nat.reduceAdd, Int.reduceBEq, Int.reduceBNe, Int.reduceLT, Int.reduceLE, Go.Proofs.Tryz.f129, fx_129, ty, e1 _]
  cases h1 : conB made s.name
  · simp only [sims, core, pe, Nat.reduceAdd, Int.reduceBEq, Int.reduceBNe, Int.reduceLT, Int.reduceLE, fx_129, ty, h1]
  simp only [sims, core, pe, Nat.reduceAdd, Int.reduceBEq, Int.reduceBNe, Int.reduceLT, Int.reduceLE, fx_129, ty, h1]
  cases h2 : decide (24 < (s.eqs.length : Int))
  rotate_left
  · simp only [sims, core, pe, Nat.reduceAdd, Int.reduceBEq, Int.reduceBNe, Int.reduceLT, Int.reduceLE, fx_129, ty, h2]
  simp only [sims, core, pe, Nat.reduceAdd, Int.reduceBEq, Int.reduceBNe, Int.reduceLT, Int.reduceLE, fx_129, ty, h2]
  cases h3 : decide (4 < (s.ways.length : Int))
  rotate_left
  · simp only [sims, core, pe, Nat.reduceAdd, Int.reduceBEq, Int.reduceBNe, Int.reduceLT, Int.reduceLE, fx_129, ty, h3]
  simp only [sims, core, pe, Nat.reduceAdd, Int.reduceBEq, Int.reduceBNe, Int.reduceLT, Int.reduceLE, fx_129, ty, h3]
  generalize hb : codeB PP cmp0 C lpC _ = f; generalize hl : lpC f _ = r
  obtain ⟨ex, s', rfl, h2⟩ := lpC_at (α := Nat) hl [4, 6, 30, 31, 32, 33, 34, 35, 36, 37] (fun i => [(29, .int .i64 i)]) (fun i => i ≤ s.eqs.length) (fun i => s.eqs.length - i) (fun i => (s.eqs.drop i).all fun x => eqB made x)
    (AllPostE 0 [4, 6, 29, 30, 31, 32, 33, 34, 35, 36, 37] [6, 29, 30, 31, 32, 33, 34, 35, 36, 37] 4) 0 (Nat.zero_le _) (by simp only [At, ats, Int.natCast_zero, List.drop_left, List.drop_length, List.append_nil]) (by
      intro i j H d hi
      clear hl; subst hb
      by_cases hlt : i < s.eqs.length
      · have e1 : ((i : Int) < (s.eqs.length : Int)) := by omega
        have e3 : (s.eqs.map PEq.cells)[i]? = some (PEq.cells s.eqs[i]) := by simp [hlt]
        have hm := List.getElem_mem hlt
        have c1 := ce s.eqs[i] hm
        simp only [sims, core, pe, Nat.reduceAdd, Int.reduceBEq, Int.reduceBNe, Int.reduceLT, Int.reduceLE, fx_129, ty, e1, e3, c1 _]
        cases hc0 : eqB made s.eqs[i]
        · simp only [sims, core, pe, Nat.reduceAdd, Int.reduceBEq, Int.reduceBNe, Int.reduceLT, Int.reduceLE, fx_129, ty, e1, e3, c1 _, hc0]
          exact .inr ⟨_, _, rfl, by simp, .inr ⟨by simp only [List.drop_eq_getElem_cons hlt, List.all_cons, hc0, Bool.false_and, Bool.and_false], rfl, by simp only [At, ats, Int.natCast_zero, List.drop_left, List.drop_length, List.append_nil]⟩⟩
        · simp only [sims, core, pe, Nat.reduceAdd, Int.reduceBEq, Int.reduceBNe, Int.reduceLT, Int.reduceLE, fx_129, ty, e1, e3, c1 _, hc0, wrap_nat (show i ≤ lenTop by omega)]
          exact .inl ⟨i + 1, _, rfl, hlt, by simp only [At, ats, Int.natCast_zero, List.drop_left, List.drop_length, List.append_nil], by simp only []; omega, by simp only [List.drop_eq_getElem_cons hlt, List.all_cons, hc0, Bool.true_and]⟩
      · have e1 : ¬ ((i : Int) < (s.eqs.length : Int)) := by omega
        simp only [sims, core, pe, Nat.reduceAdd, Int.reduceBEq, Int.reduceBNe, Int.reduceLT, Int.reduceLE, fx_129, e1]
        exact .inr ⟨_, _, rfl, by simp, .inl ⟨by simp only []; rw [List.drop_eq_nil_of_le (by omega)]; rfl, rfl, by simp only [At, ats, Int.natCast_zero, List.drop_left, List.drop_length, List.append_nil]⟩⟩)
  rw [List.drop_zero] at h2
  rcases h2 with ⟨hr1, rfl, h2⟩ | ⟨hr1, rfl, h2⟩
  rotate_left
  · obtain ⟨j, H, d, rfl⟩ := h2.elim
    clear hl
    simp only [sims, core, pe, Nat.reduceAdd, Int.reduceBEq, Int.reduceBNe, Int.reduceLT, Int.reduceLE, hr1, (show (s.eqs.all (eqB made)) = false from hr1)]
  obtain ⟨j, H, d, rfl⟩ := h2.elim
  clear hl
  simp only [sims, core, pe, Nat.reduceAdd, Int.reduceBEq, Int.reduceBNe, Int.reduceLT, Int.reduceLE, fx_129, ty, hr1, (show (s.eqs.all (eqB made)) = true from hr1)]
  generalize hb : codeB PP cmp0 C lpC _ = f; generalize hl : lpC f _ = r
  obtain ⟨ex, s', rfl, h2⟩ := lpC_at (α := Nat) hl [4, 8, 42, 43, 44, 45, 46, 47, 48, 49, 50, 51, 52, 53, 54, 55, 56, 57] (fun i => [(41, .int .i64 i)]) (fun i => i ≤ s.ways.length) (fun i => s.ways.length - i) (fun i => (s.ways.drop i).all fun x => conB made x.to && exprB made x.cond)
    (AllPostE 2 [4, 8, 41, 42, 43, 44, 45, 46, 47, 48, 49, 50, 51, 52, 53, 54, 55, 56, 57] [8, 41, 42, 43, 44, 45, 46, 47, 48, 49, 50, 51, 52, 53, 54, 55, 56, 57] 4) 0 (Nat.zero_le _) (by simp only [At, ats, Int.natCast_zero, List.drop_left, List.drop_length, List.append_nil]) (by
      intro i j H d hi
      clear hl; subst hb
      by_cases hlt : i < s.ways.length
      · have e1 : ((i : Int) < (s.ways.length : Int)) := by omega
        have e3 : (s.ways.map PWay.cells)[i]? = some (PWay.cells s.ways[i]) := by simp [hlt]
        have hm := List.getElem_mem hlt
        have c1 := cc s.ways[i] hm
        have c2 := cx s.ways[i] hm
        simp only [sims, core, pe, Nat.reduceAdd, Int.reduceBEq, Int.reduceBNe, Int.reduceLT, Int.reduceLE, fx_129, ty, e1, e3, c1 _, c2 _]
        cases hc0 : conB made s.ways[i].to
        · simp only [sims, core, pe, Nat.reduceAdd, Int.reduceBEq, Int.reduceBNe, Int.reduceLT, Int.reduceLE, fx_129, ty, e1, e3, c1 _, c2 _, hc0]
          exact .inr ⟨_, _, rfl, by simp, .inr ⟨by simp only [List.drop_eq_getElem_cons hlt, List.all_cons, hc0, Bool.false_and, Bool.and_false], rfl, by simp only [At, ats, Int.natCast_zero, List.drop_left, List.drop_length, List.append_nil]⟩⟩
        cases hc1 : exprB made s.ways[i].cond
        · simp only [sims, core, pe, Nat.reduceAdd, Int.reduceBEq, Int.reduceBNe, Int.reduceLT, Int.reduceLE, fx_129, ty, e1, e3, c1 _, c2 _, hc0, hc1]
          exact .inr ⟨_, _, rfl, by simp, .inr ⟨by simp only [List.drop_eq_getElem_cons hlt, List.all_cons, hc0, hc1, Bool.false_and, Bool.and_false], rfl, by simp only [At, ats, Int.natCast_zero, List.drop_left, List.drop_length, List.append_nil]⟩⟩
        · simp only [sims, core, pe, Nat.reduceAdd, Int.reduceBEq, Int.reduceBNe, Int.reduceLT, Int.reduceLE, fx_129, ty, e1, e3, c1 _, c2 _, hc0, hc1, wrap_nat (show i ≤ lenTop by omega)]
          exact .inl ⟨i + 1, _, rfl, hlt, by simp only [At, ats, Int.natCast_zero, List.drop_left, List.drop_length, List.append_nil], by simp only []; omega, by simp only [List.drop_eq_getElem_cons hlt, List.all_cons, hc0, hc1, Bool.true_and]⟩
      · have e1 : ¬ ((i : Int) < (s.ways.length : Int)) := by omega
        simp only [sims, core, pe, Nat.reduceAdd, Int.reduceBEq, Int.reduceBNe, Int.reduceLT, Int.reduceLE, fx_129, e1]
        exact .inr ⟨_, _, rfl, by simp, .inl ⟨by simp only []; rw [List.drop_eq_nil_of_le (by omega)]; rfl, rfl, by simp only [At, ats, Int.natCast_zero, List.drop_left, List.drop_length, List.append_nil]⟩⟩)
  rw [List.drop_zero] at h2
  rcases h2 with ⟨hr2, rfl, h2⟩ | ⟨hr2, rfl, h2⟩
  · obtain ⟨j, H, d, rfl⟩ := h2.elim
    clear hl
    simp only [sims, core, pe, Nat.reduceAdd, Int.reduceBEq, Int.reduceBNe, Int.reduceLT, Int.reduceLE, fx_129, hr2]
  · obtain ⟨j, H, d, rfl⟩ := h2.elim
    clear hl
    simp only [sims, core, pe, Nat.reduceAdd, Int.reduceBEq, Int.reduceBNe, Int.reduceLT, Int.reduceLE, fx_129, hr2]
theorem anyState_c (made : Bool) (l : List PState) (hl : l.length ≤ lenTop) (p : PState → Bool) (h : ∀ x ∈ l, Ret C 129 [.agg [.bool made], .agg x.cells] (.bool (p x))) :
    ∀ H, callA C (.box [.bool made] :: H) 127 [.slice (l.map PState.cells) .free, .func 128 [] [.ptr 0 0]] = some (.ret (.bool (l.any fun x => !p x)) .same) := fun H =>
  callA_box1 (b := 0) _ rfl rfl rfl (contains_PState_c l hl _ _ rfl (fun x => !p x) (fun x hx H =>
    callA_box1 (b := 0) _ (by simp [refsL, refs, x.norefs]) rfl rfl (by
      simp only [renL, ren, ren_pure x.norefs]
      have e1 := h x hx
      rw [C_fn rfl Go.Proofs.Tryz.func128 rfl (by kernel_rfl) (m := 6) rfl]; simp only [sims, core, pe, Nat.reduceAdd, Int.reduceBEq, Int.reduceBNe, Int.reduceLT, Int.reduceLE, Go.Proofs.Tryz.f128, fx_128, ty, e1 _, leave_clean 1 _ _ [] (by simp)]) rfl)) rfl
theorem anyItem_c (made : Bool) (l : List PItem) (hl : l.length ≤ lenTop) (p : PItem → Bool) (h : ∀ x ∈ l, Ret C 100 [.agg [.bool made], .agg x.cells] (.bool (p x))) :
    ∀ H, callA C (.box [.bool made] :: H) 98 [.slice (l.map PItem.cells) .free, .func 99 [] [.ptr 0 0]] = some (.ret (.bool (l.any fun x => !p x)) .same) := fun H =>
  callA_box1 (b := 0) _ rfl rfl rfl (contains_PItem_c l hl _ _ rfl (fun x => !p x) (fun x hx H =>
    callA_box1 (b := 0) _ (by simp [refsL, refs, x.norefs]) rfl rfl (by
      simp only [renL, ren, ren_pure x.norefs]
      have e1 := h x hx
      rw [C_fn rfl Go.Proofs.Tryz.func99 rfl (by kernel_rfl) (m := 6) rfl]; simp only [sims, core, pe, Nat.reduceAdd, Int.reduceBEq, Int.reduceBNe, Int.reduceLT, Int.reduceLE, Go.Proofs.Tryz.f99, fx_99, ty, e1 _, leave_clean 1 _ _ [] (by simp)]) rfl)) rfl
theorem anyNode_c (made : Bool) (l : List PNode) (hl : l.length ≤ lenTop) (p : PNode → Bool) (h : ∀ x ∈ l, Ret C 60 [.agg [.bool made], .agg x.cells] (.bool (p x))) :
    ∀ H, callA C (.box [.bool made] :: H) 58 [.slice (l.map PNode.cells) .free, .func 59 [] [.ptr 0 0]] = some (.ret (.bool (l.any fun x => !p x)) .same) := fun H =>
  callA_box1 (b := 0) _ rfl rfl rfl (contains_PNode_c l hl _ _ rfl (fun x => !p x) (fun x hx H =>
    callA_box1 (b := 0) _ (by simp [refsL, refs, x.norefs]) rfl rfl (by
      simp only [renL, ren, ren_pure x.norefs]
      have e1 := h x hx
      rw [C_fn rfl Go.Proofs.Tryz.func59 rfl (by kernel_rfl) (m := 6) rfl]; simp only [sims, core, pe, Nat.reduceAdd, Int.reduceBEq, Int.reduceBNe, Int.reduceLT, Int.reduceLE, Go.Proofs.Tryz.f59, fx_59, ty, e1 _, leave_clean 1 _ _ [] (by simp)]) rfl)) rfl
def zeroE : PExpr := .mk 0 [] 0 [] []
def itemB (made : Bool) (x : PItem) : Bool := if ((x.states.length : Int) == 0) = true then eqB made x.eq else
  ((x.eq.names.length : Int) == 0) && x.eq.e.same zeroE && decide ((x.states.length : Int) ≤ 8) && !x.states.any fun s => !stateB made s
theorem item_c (made : Bool) (x : PItem) (hs : x.Small) (hr : x.Rng) : Ret C 100 [fieldA made, .agg x.cells] (.bool (itemB made x)) := by
  refine Ret.mk (by simp [refsL, refs, x.norefs, fieldA]) rfl ?_
  have e1 := eq_c made x.eq hs.1 hr.1
  have e2 : Ret C 23 [.agg x.eq.e.cells, .agg [.int .i64 0, .str [], .int .i64 0, .slice [] .free, .slice [] .free]] (.bool (x.eq.e.same zeroE)) := sameExpr_c x.eq.e zeroE hs.1.2
  have e3 := anyState_c made x.states hs.2.1 (stateB made) (fun s hx => state_c made s (hs.2.2 s hx) (hr.2 s hx))
  unfold fieldA at *
  unfold itemB
  rw [C_fn rfl Go.Proofs.Tryz.func100 rfl (by kernel_rfl) (m := 38) rfl]; simp only [sims, core, pe, Nat.reduceAdd, Int.reduceBEq, Int.reduceBNe, Int.reduceLT, Int.reduceLE, Go.Proofs.Tryz.f100, fx_100, ty]
  cases h1 : ((x.states.length : Int) == 0)
  rotate_left
  · simp only [sims, core, pe, Nat.reduceAdd, Int.reduceBEq, Int.reduceBNe, Int.reduceLT, Int.reduceLE, fx_100, ty, h1, e1 _]
  simp only [sims, core, pe, Nat.reduceAdd, Int.reduceBEq, Int.reduceBNe, Int.reduceLT, Int.reduceLE, fx_100, ty, h1, PItem.get_names, PItem.sub_e]
  cases h2 : ((x.eq.names.length : Int) == 0)
  · simp only [sims, core, pe, Nat.reduceAdd, Int.reduceBEq, Int.reduceBNe, Int.reduceLT, Int.reduceLE, fx_100, ty, h2]
  simp only [sims, core, pe, Nat.reduceAdd, Int.reduceBEq, Int.reduceBNe, Int.reduceLT, Int.reduceLE, fx_100, ty, h2, PItem.get_names, PItem.sub_e, e2 _]
  cases h3 : x.eq.e.same zeroE
  · simp only [sims, core, pe, Nat.reduceAdd, Int.reduceBEq, Int.reduceBNe, Int.reduceLT, Int.reduceLE, fx_100, ty, h3]
  simp only [sims, core, pe, Nat.reduceAdd, Int.reduceBEq, Int.reduceBNe, Int.reduceLT, Int.reduceLE, fx_100, ty, h3]
  cases h4 : decide ((x.states.length : Int) ≤ 8)
  · simp only [sims, core, pe, Nat.reduceAdd, Int.reduceBEq, Int.reduceBNe, Int.reduceLT, Int.reduceLE, fx_100, ty, h4]
  · simp only [sims, core, pe, Nat.reduceAdd, Int.reduceBEq, Int.reduceBNe, Int.reduceLT, Int.reduceLE, fx_100, ty, h4, e3]
def nodeB (made : Bool) (n : PNode) : Bool := nameB made n.name && namesB made n.funs 0 6 && namesB made n.ins 1 6 && namesB made n.outs 1 6 && (made || decide ((n.items.length : Int) ≤ 24)) && !n.items.any fun x => !itemB made x
theorem node_c (made : Bool) (n : PNode) (hs : n.Small) (hr : n.Rng) : Ret C 60 [fieldA made, .agg n.cells] (.bool (nodeB made n)) := by
  refine Ret.mk (by simp [refsL, refs, n.norefs, fieldA]) rfl ?_
  have e1 := name_c made n.name hs.1
  have e2 := names_c made n.funs hs.2.1 0 6
  have e3 := names_c made n.ins hs.2.2.1 1 6
  have e4 := names_c made n.outs hs.2.2.2.1 1 6
  have e5 := anyItem_c made n.items hs.2.2.2.2.1 (itemB made) (fun x hx => item_c made x (hs.2.2.2.2.2 x hx) (hr x hx))
  unfold fieldA at *
  unfold nodeB
  rw [C_fn rfl Go.Proofs.Tryz.func60 rfl (by kernel_rfl) (m := 47) rfl]; simp only [sims, core, pe, Nat.reduceAdd, Int.reduceBEq, Int.reduceBNe, Int.reduceLT, Int.reduceLE, Go.Proofs.Tryz.f60, fx_60, ty, e1 _, e2 _, e3 _, e4 _]
  cases h1 : nameB made n.name
  · simp only [sims, core, pe, Nat.reduceAdd, Int.reduceBEq, Int.reduceBNe, Int.reduceLT, Int.reduceLE, fx_60, ty, h1]
  simp only [sims, core, pe, Nat.reduceAdd, Int.reduceBEq, Int.reduceBNe, Int.reduceLT, Int.reduceLE, fx_60, ty, h1, e2 _]
  cases h2 : namesB made n.funs 0 6
  · simp only [sims, core, pe, Nat.reduceAdd, Int.reduceBEq, Int.reduceBNe, Int.reduceLT, Int.reduceLE, fx_60, ty, h2]
  simp only [sims, core, pe, Nat.reduceAdd, Int.reduceBEq, Int.reduceBNe, Int.reduceLT, Int.reduceLE, fx_60, ty, h2, e3 _]
  cases h3 : namesB made n.ins 1 6
  · simp only [sims, core, pe, Nat.reduceAdd, Int.reduceBEq, Int.reduceBNe, Int.reduceLT, Int.reduceLE, fx_60, ty, h3]
  simp only [sims, core, pe, Nat.reduceAdd, Int.reduceBEq, Int.reduceBNe, Int.reduceLT, Int.reduceLE, fx_60, ty, h3, e4 _]
  cases h4 : namesB made n.outs 1 6
  · simp only [sims, core, pe, Nat.reduceAdd, Int.reduceBEq, Int.reduceBNe, Int.reduceLT, Int.reduceLE, fx_60, ty, h4]
  simp only [sims, core, pe, Nat.reduceAdd, Int.reduceBEq, Int.reduceBNe, Int.reduceLT, Int.reduceLE, fx_60, ty, h4]
  cases made
  · simp only [sims, core, pe, Nat.reduceAdd, Int.reduceBEq, Int.reduceBNe, Int.reduceLT, Int.reduceLE, fx_60, ty]
    cases h5 : decide ((n.items.length : Int) ≤ 24)
    · simp only [sims, core, pe, Nat.reduceAdd, Int.reduceBEq, Int.reduceBNe, Int.reduceLT, Int.reduceLE, fx_60, ty, h5]
    · simp only [sims, core, pe, Nat.reduceAdd, Int.reduceBEq, Int.reduceBNe, Int.reduceLT, Int.reduceLE, fx_60, ty, h5, e5]
  · simp only [sims, core, pe, Nat.reduceAdd, Int.reduceBEq, Int.reduceBNe, Int.reduceLT, Int.reduceLE, fx_60, ty, e5]
def enumB (made : Bool) (t : PEnum) : Bool := nameB made t.name && consB made t.cons 1 8
def enumMost (made : Bool) : Int := if made = true then 32 else 8
def progB (made : Bool) (p : PProg) : Bool := !decide (enumMost made < (p.enums.length : Int)) && !((p.nodes.length : Int) == 0) && !decide (16 < (p.nodes.length : Int)) && (p.enums.all fun t => nameB made t.name && consB made t.cons 1 8) && !p.nodes.any fun n => !nodeB made n
theorem program_c (made : Bool) (p : PProg) (hs : p.Small) (hr : p.Rng) : Ret C 29 [fieldA made, .agg p.cells] (.bool (progB made p)) := by
  refine Ret.mk (by simp [refsL, refs, p.norefs, fieldA]) rfl ?_
  have hl1 := hs.1
  have c1 := fun (x : PEnum) hx => name_c made x.name (hs.2.1 x hx).1
  have c2 := fun (x : PEnum) hx => cons_c made x.cons (hs.2.1 x hx).2 1 8
  have e5 := anyNode_c made p.nodes hs.2.2.1 (nodeB made) (fun x hx => node_c made x (hs.2.2.2 x hx) (hr.2 x hx))
  unfold fieldA at *
  unfold progB
  have w32 : wrapF .i64 (8 + 24) = 32 := by decide
  have em : enumMost made = if made = true then 32 else 8 := rfl
  rw [C_fn rfl Go.Proofs.Tryz.func29 rfl (by kernel_rfl) (m := 53) rfl]; simp only [sims, core, pe, Nat.reduceAdd, Int.reduceBEq, Int.reduceBNe, Int.reduceLT, Int.reduceLE, Go.Proofs.Tryz.f29, fx_29, ty]
  cases made
  · have em : enumMost false = 8 := rfl
    simp only [sims, core, pe, Nat.reduceAdd, Int.reduceBEq, Int.reduceBNe, Int.reduceLT, Int.reduceLE, fx_29, ty, w32, em]
    cases h1 : decide ((8 : Int) < (p.enums.length : Int))
    rotate_left
    · simp only [sims, core, pe, Nat.reduceAdd, Int.reduceBEq, Int.reduceBNe, Int.reduceLT, Int.reduceLE, fx_29, ty, h1]
    simp only [sims, core, pe, Nat.reduceAdd, Int.reduceBEq, Int.reduceBNe, Int.reduceLT, Int.reduceLE, fx_29, ty, h1]
    cases h2 : ((p.nodes.length : Int) == 0)
    rotate_left
    · simp only [sims, core, pe, Nat.reduceAdd, Int.reduceBEq, Int.reduceBNe, Int.reduceLT, Int.reduceLE, fx_29, ty, h2]
    simp only [sims, core, pe, Nat.reduceAdd, Int.reduceBEq, Int.reduceBNe, Int.reduceLT, Int.reduceLE, fx_29, ty, h2]
    cases h3 : decide (16 < (p.nodes.length : Int))
    rotate_left
    · simp only [sims, core, pe, Nat.reduceAdd, Int.reduceBEq, Int.reduceBNe, Int.reduceLT, Int.reduceLE, fx_29, ty, h3]
    simp only [sims, core, pe, Nat.reduceAdd, Int.reduceBEq, Int.reduceBNe, Int.reduceLT, Int.reduceLE, fx_29, ty, h3]
    generalize hb : codeB PP cmp0 C lpC _ = f; generalize hl : lpC f _ = r
    obtain ⟨ex, s', rfl, h2⟩ := lpC_at (α := Nat) hl [4, 7, 33, 34, 35, 36, 37, 38, 39, 40, 41, 42, 43, 44, 45, 46, 47, 48, 49] (fun i => [(32, .int .i64 i)]) (fun i => i ≤ p.enums.length) (fun i => p.enums.length - i) (fun i => (p.enums.drop i).all fun x => nameB false x.name && consB false x.cons 1 8)
      (AllPostE 0 [4, 7, 32, 33, 34, 35, 36, 37, 38, 39, 40, 41, 42, 43, 44, 45, 46, 47, 48, 49] [7, 32, 33, 34, 35, 36, 37, 38, 39, 40, 41, 42, 43, 44, 45, 46, 47, 48, 49] 4) 0 (Nat.zero_le _) (by simp only [At, ats, Int.natCast_zero, List.drop_left, List.drop_length, List.append_nil]) (by
        intro i j H d hi
        clear hl; subst hb
        by_cases hlt : i < p.enums.length
        · have e1 : ((i : Int) < (p.enums.length : Int)) := by omega
          have e3 : (p.enums.map PEnum.cells)[i]? = some (PEnum.cells p.enums[i]) := by simp [hlt]
          have hm := List.getElem_mem hlt
          have c3 := c1 p.enums[i] hm
          have c4 := c2 p.enums[i] hm
          simp only [sims, core, pe, Nat.reduceAdd, Int.reduceBEq, Int.reduceBNe, Int.reduceLT, Int.reduceLE, fx_29, ty, e1, e3, c3 _, c4 _]
          cases hc0 : nameB false p.enums[i].name
          · simp only [sims, core, pe, Nat.reduceAdd, Int.reduceBEq, Int.reduceBNe, Int.reduceLT, Int.reduceLE, fx_29, ty, e1, e3, c3 _, c4 _, hc0]
            exact .inr ⟨_, _, rfl, by simp, .inr ⟨by simp only [List.drop_eq_getElem_cons hlt, List.all_cons, hc0, Bool.false_and, Bool.and_false], rfl, by simp only [At, ats, Int.natCast_zero, List.drop_left, List.drop_length, List.append_nil]⟩⟩
          cases hc1 : consB false p.enums[i].cons 1 8
          · simp only [sims, core, pe, Nat.reduceAdd, Int.reduceBEq, Int.reduceBNe, Int.reduceLT, Int.reduceLE, fx_29, ty, e1, e3, c3 _, c4 _, hc0, hc1]
            exact .inr ⟨_, _, rfl, by simp, .inr ⟨by simp only [List.drop_eq_getElem_cons hlt, List.all_cons, hc0, hc1, Bool.false_and, Bool.and_false], rfl, by simp only [At, ats, Int.natCast_zero, List.drop_left, List.drop_length, List.append_nil]⟩⟩
          · simp only [sims, core, pe, Nat.reduceAdd, Int.reduceBEq, Int.reduceBNe, Int.reduceLT, Int.reduceLE, fx_29, ty, e1, e3, c3 _, c4 _, hc0, hc1, wrap_nat (show i ≤ lenTop by omega)]
            exact .inl ⟨i + 1, _, rfl, hlt, by simp only [At, ats, Int.natCast_zero, List.drop_left, List.drop_length, List.append_nil], by simp only []; omega, by simp only [List.drop_eq_getElem_cons hlt, List.all_cons, hc0, hc1, Bool.true_and]⟩
        · have e1 : ¬ ((i : Int) < (p.enums.length : Int)) := by omega
          simp only [sims, core, pe, Nat.reduceAdd, Int.reduceBEq, Int.reduceBNe, Int.reduceLT, Int.reduceLE, fx_29, e1]
          exact .inr ⟨_, _, rfl, by simp, .inl ⟨by simp only []; rw [List.drop_eq_nil_of_le (by omega)]; rfl, rfl, by simp only [At, ats, Int.natCast_zero, List.drop_left, List.drop_length, List.append_nil]⟩⟩)
    rw [List.drop_zero] at h2
    rcases h2 with ⟨hr1, rfl, h2⟩ | ⟨hr1, rfl, h2⟩
    rotate_left
    · obtain ⟨j, H, d, rfl⟩ := h2.elim
      clear hl
      simp only [sims, core, pe, Nat.reduceAdd, Int.reduceBEq, Int.reduceBNe, Int.reduceLT, Int.reduceLE, hr1]
    obtain ⟨j, H, d, rfl⟩ := h2.elim
    clear hl
    simp only [sims, core, pe, Nat.reduceAdd, Int.reduceBEq, Int.reduceBNe, Int.reduceLT, Int.reduceLE, fx_29, ty, hr1, e5]
  · have em : enumMost true = 32 := rfl
    simp only [sims, core, pe, Nat.reduceAdd, Int.reduceBEq, Int.reduceBNe, Int.reduceLT, Int.reduceLE, fx_29, ty, w32, em]
    cases h1 : decide ((32 : Int) < (p.enums.length : Int))
    rotate_left
    · simp only [sims, core, pe, Nat.reduceAdd, Int.reduceBEq, Int.reduceBNe, Int.reduceLT, Int.reduceLE, fx_29, ty, h1]
    simp only [sims, core, pe, Nat.reduceAdd, Int.reduceBEq, Int.reduceBNe, Int.reduceLT, Int.reduceLE, fx_29, ty, h1]
    cases h2 : ((p.nodes.length : Int) == 0)
    rotate_left
    · simp only [sims, core, pe, Nat.reduceAdd, Int.reduceBEq, Int.reduceBNe, Int.reduceLT, Int.reduceLE, fx_29, ty, h2]
    simp only [sims, core, pe, Nat.reduceAdd, Int.reduceBEq, Int.reduceBNe, Int.reduceLT, Int.reduceLE, fx_29, ty, h2]
    cases h3 : decide (16 < (p.nodes.length : Int))
    rotate_left
    · simp only [sims, core, pe, Nat.reduceAdd, Int.reduceBEq, Int.reduceBNe, Int.reduceLT, Int.reduceLE, fx_29, ty, h3]
    simp only [sims, core, pe, Nat.reduceAdd, Int.reduceBEq, Int.reduceBNe, Int.reduceLT, Int.reduceLE, fx_29, ty, h3]
    generalize hb : codeB PP cmp0 C lpC _ = f; generalize hl : lpC f _ = r
    obtain ⟨ex, s', rfl, h2⟩ := lpC_at (α := Nat) hl [4, 7, 33, 34, 35, 36, 37, 38, 39, 40, 41, 42, 43, 44, 45, 46, 47, 48, 49] (fun i => [(32, .int .i64 i)]) (fun i => i ≤ p.enums.length) (fun i => p.enums.length - i) (fun i => (p.enums.drop i).all fun x => nameB true x.name && consB true x.cons 1 8)
      (AllPostE 0 [4, 7, 32, 33, 34, 35, 36, 37, 38, 39, 40, 41, 42, 43, 44, 45, 46, 47, 48, 49] [7, 32, 33, 34, 35, 36, 37, 38, 39, 40, 41, 42, 43, 44, 45, 46, 47, 48, 49] 4) 0 (Nat.zero_le _) (by simp only [At, ats, Int.natCast_zero, List.drop_left, List.drop_length, List.append_nil]) (by
        intro i j H d hi
        clear hl; subst hb
        by_cases hlt : i < p.enums.length
        · have e1 : ((i : Int) < (p.enums.length : Int)) := by omega
          have e3 : (p.enums.map PEnum.cells)[i]? = some (PEnum.cells p.enums[i]) := by simp [hlt]
          have hm := List.getElem_mem hlt
          have c3 := c1 p.enums[i] hm
          have c4 := c2 p.enums[i] hm
          simp only [sims, core, pe, Nat.reduceAdd, Int.reduceBEq, Int.reduceBNe, Int.reduceLT, Int.reduceLE, fx_29, ty, e1, e3, c3 _, c4 _]
          cases hc0 : nameB true p.enums[i].name
          · simp only [sims, core, pe, Nat.reduceAdd, Int.reduceBEq, Int.reduceBNe, Int.reduceLT, Int.reduceLE, fx_29, ty, e1, e3, c3 _, c4 _, hc0]
            exact .inr ⟨_, _, rfl, by simp, .inr ⟨by simp only [List.drop_eq_getElem_cons hlt, List.all_cons, hc0, Bool.false_and, Bool.and_false], rfl, by simp only [At, ats, Int.natCast_zero, List.drop_left, List.drop_length, List.append_nil]⟩⟩
          cases hc1 : consB true p.enums[i].cons 1 8
          · simp only [sims, core, pe, Nat.reduceAdd, Int.reduceBEq, Int.reduceBNe, Int.reduceLT, Int.reduceLE, fx_29, ty, e1, e3, c3 _, c4 _, hc0, hc1]
            exact .inr ⟨_, _, rfl, by simp, .inr ⟨by simp only [List.drop_eq_getElem_cons hlt, List.all_cons, hc0, hc1, Bool.false_and, Bool.and_false], rfl, by simp only [At, ats, Int.natCast_zero, List.drop_left, List.drop_length, List.append_nil]⟩⟩
          · simp only [sims, core, pe, Nat.reduceAdd, Int.reduceBEq, Int.reduceBNe, Int.reduceLT, Int.reduceLE, fx_29, ty, e1, e3, c3 _, c4 _, hc0, hc1, wrap_nat (show i ≤ lenTop by omega)]
            exact .inl ⟨i + 1, _, rfl, hlt, by simp only [At, ats, Int.natCast_zero, List.drop_left, List.drop_length, List.append_nil], by simp only []; omega, by simp only [List.drop_eq_getElem_cons hlt, List.all_cons, hc0, hc1, Bool.true_and]⟩
        · have e1 : ¬ ((i : Int) < (p.enums.length : Int)) := by omega
          simp only [sims, core, pe, Nat.reduceAdd, Int.reduceBEq, Int.reduceBNe, Int.reduceLT, Int.reduceLE, fx_29, e1]
          exact .inr ⟨_, _, rfl, by simp, .inl ⟨by simp only []; rw [List.drop_eq_nil_of_le (by omega)]; rfl, rfl, by simp only [At, ats, Int.natCast_zero, List.drop_left, List.drop_length, List.append_nil]⟩⟩)
    rw [List.drop_zero] at h2
    rcases h2 with ⟨hr1, rfl, h2⟩ | ⟨hr1, rfl, h2⟩
    rotate_left
    · obtain ⟨j, H, d, rfl⟩ := h2.elim
      clear hl
      simp only [sims, core, pe, Nat.reduceAdd, Int.reduceBEq, Int.reduceBNe, Int.reduceLT, Int.reduceLE, hr1]
    obtain ⟨j, H, d, rfl⟩ := h2.elim
    clear hl
    simp only [sims, core, pe, Nat.reduceAdd, Int.reduceBEq, Int.reduceBNe, Int.reduceLT, Int.reduceLE, fx_29, ty, hr1, e5]
end Go.Ab
/- Which programs may be, and aren't too great. -/
namespace Go.Ab
open Go Go.Ab.Tab
set_option maxRecDepth 100000
set_option maxHeartbeats 4000000
set_option linter.unusedSimpArgs false
def greatB (n : PNode) : Bool := decide (300 < (accE (0, 0) n.exprs).1) || decide (40 < (accE (0, 0) n.exprs).2)
def rightI (made : Bool) (p : PProg) : Int := if progB made p = true then (if (p.nodes.any greatB) = true then 9 else 0) else 10
def AnyPost (id : Nat) (junk junk' : List Nat) (slot : Nat) (v : AVal) (ts : List AVal) (H : AHeap) (r : Bool) (ex : AEx) (s : St) : Prop :=
  (r = false ∧ ex = .exit id ∧ At junk ts H [] s) ∨ (r = true ∧ ex = .ret ∧ At junk' ts H [(slot, v)] s)
theorem right_c (made : Bool) (p : PProg) (hs : p.Small) (hr : p.Rng) : Ret C 11 [.agg p.cells, .bool made] (.int .i64 (rightI made p)) := by
  refine Ret.mk (by simp [refsL, refs, p.norefs]) rfl ?_
  have hl1 := hs.2.2.1
  have e1 := program_c made p hs hr
  unfold fieldA at e1
  unfold rightI
  rw [C_fn rfl Go.Proofs.Tryz.func11 rfl (by kernel_rfl) (m := 29) rfl]; simp only [sims, core, pe, Nat.reduceAdd, Int.reduceBEq, Int.reduceBNe, Int.reduceLT, Int.reduceLE, Go.Proofs.Tryz.f11, fx_11, ty, e1 _]
  cases h1 : progB made p
  · simp only [sims, core, pe, Nat.reduceAdd, Int.reduceBEq, Int.reduceBNe, Int.reduceLT, Int.reduceLE, fx_11, ty, h1]
  simp only [sims, core, pe, Nat.reduceAdd, Int.reduceBEq, Int.reduceBNe, Int.reduceLT, Int.reduceLE, fx_11, ty, h1]
  generalize hb : codeB PP cmp0 C lpC _ = f; generalize hl : lpC f _ = r
  obtain ⟨ex, s', rfl, h2⟩ := lpC_at (α := Nat) hl [4, 6, 7, 8, 18, 19, 20, 21, 22, 23, 24, 25, 26, 27, 28, 29, 30] (fun i => [(17, .int .i64 i)]) (fun i => i ≤ p.nodes.length) (fun i => p.nodes.length - i) (fun i => (p.nodes.drop i).any greatB)
    (AnyPost 0 [4, 6, 7, 8, 17, 18, 19, 20, 21, 22, 23, 24, 25, 26, 27, 28, 29, 30] [6, 7, 8, 17, 18, 19, 20, 21, 22, 23, 24, 25, 26, 27, 28, 29, 30] 4 (.int .i64 9)) 0 (Nat.zero_le _) (by simp only [At, ats, Int.natCast_zero, List.drop_left, List.drop_length, List.append_nil]) (by
      intro i j H d hi
      clear hl; subst hb
      by_cases hlt : i < p.nodes.length
      · have e2 : ((i : Int) < (p.nodes.length : Int)) := by omega
        obtain ⟨x, hx⟩ : ∃ y, y = p.nodes[i] := ⟨_, rfl⟩
        have e3 : (p.nodes.map PNode.cells)[i]? = some x.cells := by simp [hlt, hx]
        have hm : x ∈ p.nodes := by rw [hx]; exact List.getElem_mem hlt
        simp only [sims, core, pe, Nat.reduceAdd, Int.reduceBEq, Int.reduceBNe, Int.reduceLT, Int.reduceLE, fx_11, ty, e2, e3]
        obtain ⟨E, hE1, hE2⟩ := callA_two keepC (H := .box p.cells :: (H ++ [.box x.cells, .box [.int .i64 0], .box [.int .i64 0]])) (f := 30) (args := [.agg x.cells, .func 31 [] [.ptr (H.length + 1 + 1) 0, .ptr (H.length + 2 + 1) 0]]) (v := .tuple []) (b1 := H.length + 1 + 1) (b2 := H.length + 2 + 1) (x0 := [.int .i64 0]) (x1 := [.int .i64 0]) (y0 := [.int .i64 (accE (0, 0) x.exprs).1]) (y1 := [.int .i64 (accE (0, 0) x.exprs).2])
          (by simp [refsL, refs, x.norefs]) (by omega) (by simp only [List.getElem?_cons_succ, heap_at, List.getElem?_cons_zero]) (by simp only [List.getElem?_cons_succ, heap_at, List.getElem?_cons_zero]) rfl rfl rfl rfl (by
            have e : renL (fun y => [H.length + 1 + 1, H.length + 2 + 1].idxOf y) [.agg x.cells, .func 31 [] [.ptr (H.length + 1 + 1) 0, .ptr (H.length + 2 + 1) 0]] = [.agg x.cells, .func 31 [] [.ptr 0 0, .ptr 1 0]] := by
              have hbe : (H.length + 1 + 1 == H.length + 2 + 1) = false := beq_false_of_ne (by omega)
              simp only [renL, ren, ren_pure x.norefs, List.idxOf_cons, hbe, beq_self_eq_true, cond_true, cond_false]
            rw [e]
            exact each_c x (hs.2.2.2 x hm) (0, 0)) rfl
        simp only [List.set_cons_succ, set_at, List.set_cons_zero] at hE2
        simp only [sims, core, pe, Nat.reduceAdd, Int.reduceBEq, Int.reduceBNe, Int.reduceLT, Int.reduceLE, effs, fx_11, ty, hE1, hE2]
        cases hc1 : decide (300 < (accE (0, 0) x.exprs).1)
        · simp only [sims, core, pe, Nat.reduceAdd, Int.reduceBEq, Int.reduceBNe, Int.reduceLT, Int.reduceLE, effs, fx_11, ty, hc1, hE2]
          cases hc2 : decide (40 < (accE (0, 0) x.exprs).2)
          · simp only [sims, core, pe, Nat.reduceAdd, Int.reduceBEq, Int.reduceBNe, Int.reduceLT, Int.reduceLE, fx_11, hc2, wrap_nat (show i ≤ lenTop by omega)]
            exact .inl ⟨i + 1, _, rfl, hlt, by simp only [At, ats, Int.natCast_zero, List.drop_left, List.drop_length, List.append_nil], by simp only []; omega, by simp only [List.drop_eq_getElem_cons hlt, List.any_cons, ← hx, greatB, hc1, hc2, Bool.or_self, Bool.false_or]⟩
          · simp only [sims, core, pe, Nat.reduceAdd, Int.reduceBEq, Int.reduceBNe, Int.reduceLT, Int.reduceLE, fx_11, hc2]
            exact .inr ⟨_, _, rfl, by simp, .inr ⟨by simp only [List.drop_eq_getElem_cons hlt, List.any_cons, ← hx, greatB, hc1, hc2, Bool.or_true, Bool.true_or], rfl, by simp only [At, ats, Int.natCast_zero, List.drop_left, List.drop_length, List.append_nil]⟩⟩
        · simp only [sims, core, pe, Nat.reduceAdd, Int.reduceBEq, Int.reduceBNe, Int.reduceLT, Int.reduceLE, fx_11, hc1]
          exact .inr ⟨_, _, rfl, by simp, .inr ⟨by simp only [List.drop_eq_getElem_cons hlt, List.any_cons, ← hx, greatB, hc1, Bool.true_or], rfl, by simp only [At, ats, Int.natCast_zero, List.drop_left, List.drop_length, List.append_nil]⟩⟩
      · have e2 : ¬ ((i : Int) < (p.nodes.length : Int)) := by omega
        simp only [sims, core, pe, Nat.reduceAdd, Int.reduceBEq, Int.reduceBNe, Int.reduceLT, Int.reduceLE, fx_11, e2]
        exact .inr ⟨_, _, rfl, by simp, .inl ⟨by simp only []; rw [List.drop_eq_nil_of_le (by omega)]; rfl, rfl, by simp only [At, ats, Int.natCast_zero, List.drop_left, List.drop_length, List.append_nil]⟩⟩)
  rw [List.drop_zero] at h2
  rcases h2 with ⟨hr1, rfl, h2⟩ | ⟨hr1, rfl, h2⟩
  · obtain ⟨j, H, d, rfl⟩ := h2.elim
    clear hl
    simp only [sims, core, pe, Nat.reduceAdd, Int.reduceBEq, Int.reduceBNe, Int.reduceLT, Int.reduceLE, fx_11, hr1]
  · obtain ⟨j, H, d, rfl⟩ := h2.elim
    clear hl
    simp only [sims, core, pe, Nat.reduceAdd, Int.reduceBEq, Int.reduceBNe, Int.reduceLT, Int.reduceLE, fx_11, hr1]
end Go.Ab
