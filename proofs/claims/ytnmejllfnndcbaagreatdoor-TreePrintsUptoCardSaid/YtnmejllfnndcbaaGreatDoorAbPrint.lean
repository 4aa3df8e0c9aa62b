/- A program's text. -/
import Derived.Test.YtnmejllfnndcbaaGreatDoorAbPrN
import Derived.Test.YtnmejllfnndcbaaGreatDoorAbRight
import Derived.Test.YtnmejllfnndcbaaGreatDoorAbTxt
import Derived.Test.YtnmejllfnndcbaaGreatDoorAbRShow
set_option linter.unusedSimpArgs false
set_option linter.unusedVariables false
namespace Go.Ab
open Go Go.Ab.Tab
set_option maxRecDepth 100000
set_option maxHeartbeats 4000000
set_option linter.unusedSimpArgs false
def enumW (t : PEnum) : List Str := [[116, 121, 112, 101], t.name, [61]] ++ listW t.cons [124] ++ [[59]]
def progW (p : PProg) : List Str := p.enums.flatMap enumW ++ p.nodes.flatMap nodeW
def printV (p : PProg) : AVal := if rightI false p = 0 then .tuple [.str (J (progW p)), .int .i64 0] else .tuple [.str [], .int .i64 (rightI false p)]
theorem print_c (p : PProg) (hs : p.Small) (hr : p.Rng) (hT : T (progW p) ≤ lenTop) : Ret C 13 [.agg p.cells] (printV p) := by
  refine Ret.mk (by simp [refsL, refs, p.norefs]) (by unfold printV; split <;> rfl) ?_
  have cr := right_c false p hs hr
  have hTl := T_len (progW p)
  have hlen : (progW p).length = (p.enums.flatMap enumW).length + (p.nodes.flatMap nodeW).length := by simp [progW]
  have hl1 := hs.1
  have hl2 := hs.2.2.1
  rw [C_fn rfl Go.Proofs.Tryz.func13 rfl (by kernel_rfl) (m := 49) rfl]; simp only [sims, core, pe, Nat.reduceAdd, Int.reduceBEq, Int.reduceBNe, Int.reduceLT, Int.reduceLE, Go.Proofs.Tryz.f13, fx_13, ty, cr _, bne]
  cases hz : rightI false p == 0
  · have hz' : ¬ rightI false p = 0 := by simpa using hz
    unfold printV
    rw [if_neg hz']
    simp only [sims, core, pe, Nat.reduceAdd, Int.reduceBEq, Int.reduceBNe, Int.reduceLT, Int.reduceLE, fx_13, hz]
  have hz' : rightI false p = 0 := by simpa using hz
  unfold printV
  rw [if_pos hz']
  have p0 : PrAt 9 [.box p.cells, .box [.slice [] .full]] 1 [] none := ⟨rfl, rfl⟩
  simp only [sims, core, pe, Nat.reduceAdd, Int.reduceBEq, Int.reduceBNe, Int.reduceLT, Int.reduceLE, effs, fx_13, ty, hz]
  generalize hbla : codeB PP cmp0 C lpC _ = fa; generalize hl0a : lpC fa _ = ra
  obtain ⟨exa, sa, rfl, rfl, h2a⟩ := lpC_inv (α := Nat) hl0a [7, 21, 22, 23, 24, 25, 26, 27, 28, 29, 30, 31, 32, 33, 34, 35, 36] (fun i => [(20, .int .i64 i)]) (fun i g => i ≤ p.enums.length ∧ (∃ tk, PrAt 9 g 1 ((p.enums.take i).flatMap enumW) tk) ∧ g[0]? = some (.box p.cells)) (fun i => p.enums.length - i) (fun _ => ()) (fun ts _ ex s => ex = .exit 0 ∧ OutT [7, 20, 21, 22, 23, 24, 25, 26, 27, 28, 29, 30, 31, 32, 33, 34, 35, 36] ts [] (fun g => (∃ tk, PrAt 9 g 1 (p.enums.flatMap enumW) tk) ∧ g[0]? = some (.box p.cells)) s) 0 ⟨Nat.zero_le _, ⟨none, by simpa using p0⟩, rfl⟩ (by simp only [AtT, ats, Int.natCast_zero]) (by
    rintro ia ja ga da ⟨hia, ⟨tka, pia⟩, qa_0⟩
    clear hl0a; subst hbla
    have hga0 : 1 < ga.length := by cases tka with
    | none => exact (List.getElem?_eq_some_iff.1 pia.2).1
    | some t => exact (List.getElem?_eq_some_iff.1 pia.1).1
    by_cases hlta : ia < p.enums.length
    · have e1a : ((ia : Int) < (p.enums.length : Int)) := by omega
      obtain ⟨xa, hxa⟩ : ∃ yy, yy = p.enums[ia] := ⟨_, rfl⟩
      have e3a : (p.enums.map PEnum.cells)[ia]? = some (PEnum.cells xa) := by simp [hlta, hxa]
      have hma : xa ∈ p.enums := by rw [hxa]; exact List.getElem_mem hlta
      have hqa := flat_take_len enumW p.enums (ia + 1)
      have hspa := flat_take enumW p.enums ia hlta
      rw [← hxa] at hspa
      rw [hspa] at hqa
      have hes := hs.2.1 xa hma
      have kl : PrV 35 [encStrs xa.cons, .str [124]] (listW xa.cons [124]) := list_c xa.cons [124] hes.2.1
      have hew : (enumW xa).length = 3 + (listW xa.cons [124]).length + 1 := by simp [enumW]; omega
      have bs_0 : (ga ++ [Blk.box xa.cells])[ga.length]? = some (.box xa.cells) := heap_at0 _ _
      have qb_0 : (ga ++ [Blk.box xa.cells])[0]? = some (.box p.cells) := Boxes.app _ _ _ _ qa_0
      simp only [sims, core, pe, Nat.reduceAdd, Int.reduceBEq, Int.reduceBNe, Int.reduceLT, Int.reduceLE, effs, fx_13, ty, bs_0, qb_0, e1a, e3a, qa_0]
      obtain ⟨E21, hE21, tt, htt, hnn, p21, o21, l21⟩ := pr_call keepC (show PrW 34 [.slice [[.str [116, 121, 112, 101]], [.str xa.name], [.str [61]]] .full] [[116, 121, 112, 101], xa.name, [61]] from put_c [[116, 121, 112, 101], xa.name, [61]] (by simp)) rfl (pia.app [.box xa.cells]) (by (try simp only [List.length_append, List.length_cons, List.length_nil] at hqa); (try simp only [List.length_append, List.length_cons, List.length_nil] at hlen); (try simp only [List.length_append, List.length_cons, List.length_nil]); omega)
      have bs_21 : (Eff.of (ga ++ [.box xa.cells]) E21)[ga.length]? = some (.box xa.cells) := o21 _ _ (by omega) bs_0
      have qb_21 : (Eff.of (ga ++ [.box xa.cells]) E21)[0]? = some (.box p.cells) := o21 _ _ (by omega) qb_0
      simp only [sims, core, pe, Nat.reduceAdd, Int.reduceBEq, Int.reduceBNe, Int.reduceLT, Int.reduceLE, effs, fx_13, ty, bs_21, qb_21, e1a, e3a, qa_0, hE21]
      clear hE21; generalize hh21 : Eff.of (ga ++ [.box xa.cells]) E21 = h21 at *; clear hh21
      obtain ⟨E22, hE22, p22, o22, l22⟩ := pr_callO keepC kl rfl p21 (by (try simp only [List.length_append, List.length_cons, List.length_nil] at hqa); (try simp only [List.length_append, List.length_cons, List.length_nil] at hlen); (try simp only [List.length_append, List.length_cons, List.length_nil]); omega)
      have bs_22 : (Eff.of h21 E22)[ga.length]? = some (.box xa.cells) := o22 _ _ (by omega) bs_21
      have qb_22 : (Eff.of h21 E22)[0]? = some (.box p.cells) := o22 _ _ (by omega) qb_21
      simp only [sims, core, pe, Nat.reduceAdd, Int.reduceBEq, Int.reduceBNe, Int.reduceLT, Int.reduceLE, effs, fx_13, ty, bs_22, qb_22, e1a, e3a, qa_0, hE22]
      clear hE22; generalize hh22 : Eff.of h21 E22 = h22 at *; clear hh22
      obtain ⟨E23, hE23, p23, o23, l23⟩ := pr_callO keepC (show PrW 34 [.slice [[.str [59]]] .full] [[59]] from put_c [[59]] (by simp)).own rfl p22 (by (try simp only [List.length_append, List.length_cons, List.length_nil] at hqa); (try simp only [List.length_append, List.length_cons, List.length_nil] at hlen); (try simp only [List.length_append, List.length_cons, List.length_nil]); omega)
      have bs_23 : (Eff.of h22 E23)[ga.length]? = some (.box xa.cells) := o23 _ _ (by omega) bs_22
      have qb_23 : (Eff.of h22 E23)[0]? = some (.box p.cells) := o23 _ _ (by omega) qb_22
      simp only [sims, core, pe, Nat.reduceAdd, Int.reduceBEq, Int.reduceBNe, Int.reduceLT, Int.reduceLE, effs, fx_13, ty, bs_23, qb_23, e1a, e3a, qa_0, hE23, wrap_nat (show ia ≤ lenTop by omega)]
      clear hE23; generalize hh23 : Eff.of h22 E23 = h23 at *; clear hh23
      exact .inl ⟨ia + 1, _, rfl, ⟨hlta, ⟨_, by rw [hspa, enumW]; simpa only [List.append_assoc, List.cons_append, List.nil_append] using p23⟩, qb_23⟩, by simp only [AtT, ats, Int.natCast_zero], by (try simp only []); omega, by first | rfl | trivial⟩
    · have e1a : ¬ ((ia : Int) < (p.enums.length : Int)) := by omega
      simp only [sims, core, pe, Nat.reduceAdd, Int.reduceBEq, Int.reduceBNe, Int.reduceLT, Int.reduceLE, effs, fx_13, ty, e1a]
      have : p.enums.take ia = p.enums := List.take_of_length_le (by omega)
      rw [this] at pia
      exact .inr ⟨_, _, rfl, by simp, rfl, ⟨by simp only [AtT, ats], ⟨tka, pia⟩, qa_0⟩⟩)
  obtain ⟨ja', Ha', da', ⟨⟨tka', pa'⟩, qa'⟩, rfl⟩ := h2a.elim
  clear hl0a
  simp only [sims, core, pe, Nat.reduceAdd, Int.reduceBEq, Int.reduceBNe, Int.reduceLT, Int.reduceLE, effs, fx_13, ty, qa']
  generalize hblb : codeB PP cmp0 C lpC _ = fb; generalize hl0b : lpC fb _ = rb
  obtain ⟨exb, sb, rfl, rfl, h2b⟩ := lpC_inv (α := Nat) hl0b [9, 41, 42, 43, 44, 45, 46, 47] (fun i => [(40, .int .i64 i)]) (fun i g => i ≤ p.nodes.length ∧ (∃ tk, PrAt 9 g 1 (p.enums.flatMap enumW ++ (p.nodes.take i).flatMap nodeW) tk) ∧ g[0]? = some (.box p.cells)) (fun i => p.nodes.length - i) (fun _ => ()) (fun ts _ ex s => ex = .exit 2 ∧ OutT [9, 40, 41, 42, 43, 44, 45, 46, 47] ts [] (fun g => (∃ tk, PrAt 9 g 1 (p.enums.flatMap enumW ++ p.nodes.flatMap nodeW) tk) ∧ g[0]? = some (.box p.cells)) s) 0 ⟨Nat.zero_le _, ⟨tka', by simpa using pa'⟩, qa'⟩ (by simp only [AtT, ats, Int.natCast_zero]) (by
    rintro ib jb gb db ⟨hib, ⟨tkb, pib⟩, qb_0⟩
    clear hl0b; subst hblb
    have hgb0 : 1 < gb.length := by cases tkb with
    | none => exact (List.getElem?_eq_some_iff.1 pib.2).1
    | some t => exact (List.getElem?_eq_some_iff.1 pib.1).1
    by_cases hltb : ib < p.nodes.length
    · have e1b : ((ib : Int) < (p.nodes.length : Int)) := by omega
      obtain ⟨xb, hxb⟩ : ∃ yy, yy = p.nodes[ib] := ⟨_, rfl⟩
      have e3b : (p.nodes.map PNode.cells)[ib]? = some (PNode.cells xb) := by simp [hltb, hxb]
      have hmb : xb ∈ p.nodes := by rw [hxb]; exact List.getElem_mem hltb
      have hqb := flat_take_len nodeW p.nodes (ib + 1)
      have hspb := flat_take nodeW p.nodes ib hltb
      rw [← hxb] at hspb
      rw [hspb] at hqb
      have kn := node_p xb (hs.2.2.2 xb hmb) (hr.2 xb hmb)
      have bs_0 : (gb ++ [Blk.box xb.cells])[gb.length]? = some (.box xb.cells) := heap_at0 _ _
      have qc_0 : (gb ++ [Blk.box xb.cells])[0]? = some (.box p.cells) := Boxes.app _ _ _ _ qb_0
      simp only [sims, core, pe, Nat.reduceAdd, Int.reduceBEq, Int.reduceBNe, Int.reduceLT, Int.reduceLE, effs, fx_13, ty, bs_0, qc_0, e1b, e3b, qb_0]
      obtain ⟨E41, hE41, tt, htt, hnn, p41, o41, l41⟩ := pr_call keepC kn (by simp [refsL, refs, xb.norefs]) (pib.app [.box xb.cells]) (by (try simp only [List.length_append, List.length_cons, List.length_nil] at hqb); (try simp only [List.length_append, List.length_cons, List.length_nil] at hlen); (try simp only [List.length_append, List.length_cons, List.length_nil]); omega)
      have bs_41 : (Eff.of (gb ++ [.box xb.cells]) E41)[gb.length]? = some (.box xb.cells) := o41 _ _ (by omega) bs_0
      have qc_41 : (Eff.of (gb ++ [.box xb.cells]) E41)[0]? = some (.box p.cells) := o41 _ _ (by omega) qc_0
      simp only [sims, core, pe, Nat.reduceAdd, Int.reduceBEq, Int.reduceBNe, Int.reduceLT, Int.reduceLE, effs, fx_13, ty, bs_41, qc_41, e1b, e3b, qb_0, hE41, wrap_nat (show ib ≤ lenTop by omega)]
      clear hE41; generalize hh41 : Eff.of (gb ++ [.box xb.cells]) E41 = h41 at *; clear hh41
      exact .inl ⟨ib + 1, _, rfl, ⟨hltb, ⟨_, by rw [hspb]; simpa only [List.append_assoc, List.cons_append, List.nil_append] using p41⟩, qc_41⟩, by simp only [AtT, ats, Int.natCast_zero], by (try simp only []); omega, by first | rfl | trivial⟩
    · have e1b : ¬ ((ib : Int) < (p.nodes.length : Int)) := by omega
      simp only [sims, core, pe, Nat.reduceAdd, Int.reduceBEq, Int.reduceBNe, Int.reduceLT, Int.reduceLE, effs, fx_13, ty, e1b]
      have : p.nodes.take ib = p.nodes := List.take_of_length_le (by omega)
      rw [this] at pib
      exact .inr ⟨_, _, rfl, by simp, rfl, ⟨by simp only [AtT, ats], ⟨tkb, pib⟩, qb_0⟩⟩)
  obtain ⟨jb', Hb', db', ⟨⟨tkb', pb'⟩, qb'⟩, rfl⟩ := h2b.elim
  clear hl0b
  have hne : p.nodes.length ≠ 0 := by
    intro h0
    unfold rightI progB at hz'
    rw [h0] at hz'
    simp at hz'
  obtain ⟨t, rfl⟩ : ∃ t, tkb' = some t := by
    cases tkb' with
    | some t => exact ⟨t, rfl⟩
    | none =>
      have h1 := pb'.1
      exfalso
      cases hn : p.nodes with
      | nil => rw [hn] at hne; exact hne rfl
      | cons n r => rw [hn] at h1; simp [nodeW] at h1
  have hx := pr_read pb' (text_c (progW p) hT) rfl
  simp only [sims, core, pe, Nat.reduceAdd, Int.reduceBEq, Int.reduceBNe, Int.reduceLT, Int.reduceLE, effs, fx_13, hx]
end Go.Ab
/- How long a program's text may be. -/
namespace Go.Ab
open Go Go.Ab.Tab
set_option maxRecDepth 100000
set_option maxHeartbeats 4000000
set_option linter.unusedSimpArgs false
theorem flat_T {X : Type} (f : X → List Str) (b : X → Nat) (h : ∀ x, T (f x) ≤ 60 * b x) (l : List X) : T (l.flatMap f) ≤ 60 * sumOf b l := by
  induction l with
  | nil => simp [T, sumOf]
  | cons x r ih =>
    have := h x
    simp only [List.flatMap_cons, T_app, sumOf]
    omega
theorem listW_T3 (l : List Str) (c : UInt8) : T (listW l [c]) ≤ 3 * consT l := by
  have h := listW_T l [c]
  have h2 := consT_len l
  simp only [List.length_cons, List.length_nil] at h
  omega
theorem namesW_T (l : List Str) : T (namesW l) ≤ 3 * consT l + 4 := by
  have := listW_T3 l 44
  simp only [namesW, T_app, T, List.length_cons, List.length_nil]
  omega
theorem headW_T (l : List Str) : T (headW l) ≤ 3 * consT l + 4 := by
  unfold headW
  split
  · simp only [T, consT, sumOf]; omega
  · exact namesW_T l
theorem eqW_T (q : PEq) : T (eqW q) ≤ 60 * q.bulk := by
  have h1 := headW_T q.names
  have h2 := words_T q.e
  unfold eqW PEq.bulk
  unfold consT at h1
  simp only [T_app, T, List.length_cons, List.length_nil]
  omega
theorem wayW_T (w : PWay) : T (wayW w) ≤ 60 * w.bulk := by
  have h2 := words_T w.cond
  unfold wayW PWay.bulk
  simp only [T_app, T, List.length_cons, List.length_nil]
  omega
theorem stateW_T (s : PState) : T (stateW s) ≤ 60 * s.bulk := by
  have h1 := flat_T eqW PEq.bulk eqW_T s.eqs
  have h2 := flat_T wayW PWay.bulk wayW_T s.ways
  unfold stateW PState.bulk
  simp only [T_app, T, List.length_cons, List.length_nil]
  omega
theorem itemW_T (x : PItem) : T (itemW x) ≤ 60 * x.bulk := by
  have h1 := flat_T stateW PState.bulk stateW_T x.states
  have h2 := eqW_T x.eq
  unfold itemW PItem.bulk
  split
  · omega
  · simp only [T_app, T, List.length_cons, List.length_nil]
    omega
theorem enumW_T (t : PEnum) : T (enumW t) ≤ 60 * t.bulk := by
  have h1 := listW_T3 t.cons 124
  unfold enumW PEnum.bulk
  unfold consT at h1
  simp only [T_app, T, List.length_cons, List.length_nil]
  omega
theorem brW_T (l : List Str) : T (brW l) ≤ 3 * consT l + 4 := by
  have := listW_T3 l 44
  unfold brW
  split
  · simp [T]
  · simp only [T_app, T, List.length_cons, List.length_nil]; omega
theorem nodeW_T (n : PNode) : T (nodeW n) ≤ 60 * n.bulk := by
  have h1 := flat_T itemW PItem.bulk itemW_T n.items
  have h2 := brW_T n.funs
  have h3 := namesW_T n.ins
  have h4 := namesW_T n.outs
  unfold nodeW PNode.bulk
  unfold consT at h2 h3 h4
  simp only [T_app, T, List.length_cons, List.length_nil]
  omega
theorem progW_T (p : PProg) : T (progW p) ≤ 60 * p.bulk := by
  have h1 := flat_T enumW PEnum.bulk enumW_T p.enums
  have h2 := flat_T nodeW PNode.bulk nodeW_T p.nodes
  unfold progW PProg.bulk
  simp only [T_app]
  omega
end Go.Ab
/- The reference: texts of names, equations and items. -/
namespace Go.Ab
open Go Go.Ab.Tab
set_option maxRecDepth 100000
set_option maxHeartbeats 4000000
set_option linter.unusedSimpArgs false
theorem pad_free (l : List Str) (hl : consT l ≤ 1048576) (H : AHeap) : callA C H 47 [encStrs l, .str [44]] = some (.ret (.str (padS l [44])) .same) := by
  have h1 := consT_eq l
  have h2 := T_len l
  have m2 : lenTop = 1099511627776 := rfl
  exact callA_tk2 (tk := .free) rfl (fun _ => rfl) (rpad_c l [44] (by simp only [List.length_cons, List.length_nil]; omega)) rfl (fun t h => by cases h)
theorem padS_len (l : List Str) (hl : consT l ≤ 1048576) : (padS l [44]).length ≤ 4194304 := by
  have h1 := consT_eq l
  have h2 := T_len l
  have h3 := LS_len [44] l
  simp only [List.length_cons, List.length_nil] at h3
  unfold padS
  split
  · simp
  · simp only [List.length_cons]; omega
theorem namesW_J (l : List Str) : J (namesW l) = 40 :: (padS l [44] ++ [32, 41]) := by
  unfold namesW padS
  split
  · rename_i hz
    have hw : listW l [44] = [] := by rw [List.eq_nil_of_length_eq_zero hz]; rfl
    rw [hw]
    simp only [J_one, J_cons, J_app, List.cons_append, List.nil_append, List.append_assoc, ne_eq, List.cons_ne_nil, List.append_eq_nil_iff, and_false, false_and, not_false_eq_true]
  · rename_i hz
    have hne := listW_ne l [44] hz
    rw [listW_J]
    simp only [hne, J_one, J_cons, J_app, List.cons_append, List.nil_append, List.append_assoc, ne_eq, List.cons_ne_nil, List.append_eq_nil_iff, and_false, false_and, not_false_eq_true]
theorem rnamesS_c (l : List Str) (hl : consT l ≤ 1048576) : Ret C 67 [encStrs l] (.str (J (namesW l))) := by
  refine Ret.mk rfl rfl ?_
  have cp := pad_free l hl
  have hp := padS_len l hl
  have m1 : strMax = 4611686018427387904 := rfl
  rw [namesW_J]
  rw [C_fn rfl Go.Proofs.Tryz.func67 rfl (by kernel_rfl) (m := 6) rfl]; simp only [sims, core, pe, Nat.reduceAdd, Int.reduceBEq, Int.reduceBNe, Int.reduceLT, Int.reduceLE, Go.Proofs.Tryz.f67, fx_67, cp]
  rw [bin_cat]
  case hl => ((try simp only [List.length_append, List.length_cons, List.length_nil]); omega)
  simp only [sims, core, pe, Nat.reduceAdd, Int.reduceBEq, Int.reduceBNe, Int.reduceLT, Int.reduceLE, effs, fx_67, cp]
  rw [bin_cat]
  case hl => ((try simp only [List.length_append, List.length_cons, List.length_nil]); omega)
  simp only [sims, core, pe, Nat.reduceAdd, Int.reduceBEq, Int.reduceBNe, Int.reduceLT, Int.reduceLE, effs, fx_67, cp]
theorem headW_ne (l : List Str) : headW l ≠ [] := by
  unfold headW
  split
  · simp
  · simp [namesW]
theorem eqW_ne (q : PEq) : eqW q ≠ [] := by simp [eqW]
theorem reqS_c (q : PEq) (hs : q.Small) (hr : q.Rng) (hb : q.bulk ≤ 1048576) : Ret C 106 [.agg q.cells] (.str (J (eqW q))) := by
  refine Ret.mk (by simp [refsL, refs, q.norefs]) rfl ?_
  have hcb : consT q.names ≤ 1048576 ∧ q.e.bulk ≤ 1048576 := by unfold PEq.bulk at hb; unfold consT; omega
  have c1 := rnamesS_c q.names hcb.1
  have c2 := rshow_c q.e hs.2 hr hcb.2
  have m1 : strMax = 4611686018427387904 := rfl
  have m2 : lenTop = 1099511627776 := rfl
  have hJ1 := J_len (headW q.names)
  have hJ2 := headW_T q.names
  have hJ3 := J_len q.e.words
  have hJ4 := words_T q.e
  have hne := headW_ne q.names
  have hne2 := words_ne q.e
  have hfin : J (eqW q) = J (headW q.names) ++ 32 :: 61 :: 32 :: (J q.e.words ++ [32, 59]) := by
    unfold eqW
    simp only [hne, hne2, J_one, J_cons, J_app, List.cons_append, List.nil_append, List.append_assoc, ne_eq, List.cons_ne_nil, List.append_eq_nil_iff, and_false, false_and, not_false_eq_true]
  rw [hfin]
  by_cases hz : q.names.length = 1
  · obtain ⟨x, hx⟩ := List.length_eq_one_iff.1 hz
    have e0 : ((q.names.length : Int) == 1) = true := by simp [hz]
    have hh : headW q.names = [x] := by rw [hx]; rfl
    have e3 : (q.names.map fun s => [AVal.str s])[0]? = some [.str x] := by rw [hx]; rfl
    rw [hh, J_one] at hJ1 ⊢
    rw [hh] at hJ2
    rw [C_fn rfl Go.Proofs.Tryz.func106 rfl (by kernel_rfl) (m := 21) rfl]; simp only [sims, core, pe, Nat.reduceAdd, Int.reduceBEq, Int.reduceBNe, Int.reduceLT, Int.reduceLE, Go.Proofs.Tryz.f106, fx_106, ty, c1 _, len_encStrs, e0]
    simp only [sims, core, pe, Nat.reduceAdd, Int.reduceBEq, Int.reduceBNe, Int.reduceLT, Int.reduceLE, effs, fx_106, ty, encStrs, e3, c2 _]
    rw [bin_cat]
    case hl => ((try simp only [List.length_append, List.length_cons, List.length_nil]); omega)
    simp only [sims, core, pe, Nat.reduceAdd, Int.reduceBEq, Int.reduceBNe, Int.reduceLT, Int.reduceLE, effs, fx_106, ty, encStrs, e3, c2 _]
    rw [bin_cat]
    case hl => ((try simp only [List.length_append, List.length_cons, List.length_nil]); omega)
    simp only [sims, core, pe, Nat.reduceAdd, Int.reduceBEq, Int.reduceBNe, Int.reduceLT, Int.reduceLE, effs, fx_106, ty, encStrs, e3, c2 _]
    rw [bin_cat]
    case hl => ((try simp only [List.length_append, List.length_cons, List.length_nil]); omega)
    simp only [sims, core, pe, Nat.reduceAdd, Int.reduceBEq, Int.reduceBNe, Int.reduceLT, Int.reduceLE, effs, fx_106, ty, encStrs, e3, c2 _]
  · have e0 : ((q.names.length : Int) == 1) = false := beq_false_of_ne (by omega)
    have hh : headW q.names = namesW q.names := by
      cases hq : q.names with
      | nil => rfl
      | cons x r =>
        cases r with
        | nil => rw [hq] at hz; simp at hz
        | cons y t => rfl
    rw [hh] at hJ1 hJ2 ⊢
    rw [C_fn rfl Go.Proofs.Tryz.func106 rfl (by kernel_rfl) (m := 21) rfl]; simp only [sims, core, pe, Nat.reduceAdd, Int.reduceBEq, Int.reduceBNe, Int.reduceLT, Int.reduceLE, Go.Proofs.Tryz.f106, fx_106, ty, c1 _, len_encStrs, e0]
    rw [bin_cat]
    case hl => ((try simp only [List.length_append, List.length_cons, List.length_nil]); omega)
    simp only [sims, core, pe, Nat.reduceAdd, Int.reduceBEq, Int.reduceBNe, Int.reduceLT, Int.reduceLE, effs, fx_106, ty, c2 _]
    rw [bin_cat]
    case hl => ((try simp only [List.length_append, List.length_cons, List.length_nil]); omega)
    simp only [sims, core, pe, Nat.reduceAdd, Int.reduceBEq, Int.reduceBNe, Int.reduceLT, Int.reduceLE, effs, fx_106, ty, c2 _]
    rw [bin_cat]
    case hl => ((try simp only [List.length_append, List.length_cons, List.length_nil]); omega)
    simp only [sims, core, pe, Nat.reduceAdd, Int.reduceBEq, Int.reduceBNe, Int.reduceLT, Int.reduceLE, effs, fx_106, ty, c2 _]
end Go.Ab
/- The reference: texts of items. -/
namespace Go.Ab
open Go Go.Ab.Tab
set_option maxRecDepth 100000
set_option maxHeartbeats 4000000
set_option linter.unusedSimpArgs false
theorem flatS {X : Type} (f : X → Str) (L : List X) (i : Nat) (h : i < L.length) : (L.take (i + 1)).flatMap f = (L.take i).flatMap f ++ f L[i] := by
  rw [List.take_succ_eq_append_getElem h, List.flatMap_append]; simp
theorem flatS_len {X : Type} (f : X → Str) (L : List X) (i : Nat) : ((L.take i).flatMap f).length ≤ (L.flatMap f).length := by
  have : L.flatMap f = (L.take i).flatMap f ++ (L.drop i).flatMap f := by rw [← List.flatMap_append, List.take_append_drop]
  rw [this, List.length_append]; omega
theorem J_flat {X : Type} (f : X → List Str) (hf : ∀ x, f x ≠ []) (L : List X) : ∀ (a : List Str), a ≠ [] → J (a ++ L.flatMap f) = J a ++ L.flatMap fun x => 32 :: J (f x) := by
  induction L with
  | nil => intro a _; simp
  | cons x r ih =>
    intro a ha
    have := ih (a ++ f x) (by simp [ha])
    simp only [List.flatMap_cons, List.append_assoc] at this ⊢
    rw [this, J_app a (f x) ha (hf x)]
    simp
def qS (q : PEq) : Str := 32 :: J (eqW q)
def wS (w : PWay) : Str := 32 :: J (wayW w)
def stS (s : PState) : Str := 32 :: J (stateW s)
theorem wayW_ne (w : PWay) : wayW w ≠ [] := by simp [wayW]
theorem stateW_ne (s : PState) : stateW s ≠ [] := by simp [stateW]
theorem wS_eq (w : PWay) : wS w = 32 :: 117 :: 110 :: 116 :: 105 :: 108 :: 32 :: (J w.cond.words ++ 32 :: 116 :: 104 :: 101 :: 110 :: 32 :: (w.to ++ [32, 59])) := by
  have hne := words_ne w.cond
  unfold wS wayW
  simp only [hne, J_one, J_cons, J_app, List.cons_append, List.nil_append, List.append_assoc, ne_eq, List.cons_ne_nil, List.append_eq_nil_iff, and_false, false_and, not_false_eq_true]
theorem stS_eq (s : PState) : stS s = 32 :: 115 :: 116 :: 97 :: 116 :: 101 :: 32 :: (s.name ++ 32 :: 58 :: (s.eqs.flatMap qS ++ s.ways.flatMap wS)) := by
  unfold stS stateW
  rw [J_flat wayW wayW_ne s.ways _ (by simp), J_flat eqW eqW_ne s.eqs _ (by simp)]
  have h1 : (fun x => 32 :: J (eqW x)) = qS := rfl
  have h2 : (fun x => 32 :: J (wayW x)) = wS := rfl
  rw [h1, h2]
  simp only [J_one, J_cons, J_app, List.cons_append, List.nil_append, List.append_assoc, ne_eq, List.cons_ne_nil, List.append_eq_nil_iff, and_false, false_and, not_false_eq_true]
theorem ritemS_c (x : PItem) (hs : x.Small) (hr : x.Rng) (hb : x.bulk ≤ 1048576) : Ret C 68 [.agg x.cells] (.str (J (itemW x))) := by
  refine Ret.mk (by simp [refsL, refs, x.norefs]) rfl ?_
  have hbe : x.eq.bulk ≤ 1048576 ∧ ∀ s ∈ x.states, s.bulk ≤ 1048576 := by
    unfold PItem.bulk at hb
    exact ⟨by omega, fun s hs => by have := sumOf_mem PState.bulk x.states s hs; omega⟩
  have c1 := reqS_c x.eq hs.1 hr.1 hbe.1
  have m1 : strMax = 4611686018427387904 := rfl
  have m2 : lenTop = 1099511627776 := rfl
  have hl1 := hs.2.1
  have ht1 := J_len (itemW x)
  have ht2 := itemW_T x
  by_cases hz : x.states.length = 0
  · have e0 : ((x.states.length : Int) == 0) = true := by simp [hz]
    have hw : itemW x = eqW x.eq := if_pos hz
    rw [hw]
    rw [C_fn rfl Go.Proofs.Tryz.func68 rfl (by kernel_rfl) (m := 76) rfl]; simp only [sims, core, pe, Nat.reduceAdd, Int.reduceBEq, Int.reduceBNe, Int.reduceLT, Int.reduceLE, Go.Proofs.Tryz.f68, fx_68, ty, e0, c1 _]
  have e0 : ((x.states.length : Int) == 0) = false := beq_false_of_ne (by omega)
  have hw : itemW x = [[97, 117, 116, 111, 109, 97, 116, 111, 110]] ++ x.states.flatMap stateW ++ [[101, 110, 100], [59]] := if_neg hz
  have hfin : J (itemW x) = [97, 117, 116, 111, 109, 97, 116, 111, 110] ++ x.states.flatMap stS ++ [32, 101, 110, 100, 32, 59] := by
    rw [hw, J_app _ _ (by simp) (by simp), J_flat stateW stateW_ne x.states _ (by simp)]
    rfl
  rw [hfin] at ht1 ⊢
  simp only [List.length_append, List.length_cons, List.length_nil] at ht1
  rw [C_fn rfl Go.Proofs.Tryz.func68 rfl (by kernel_rfl) (m := 76) rfl]; simp only [sims, core, pe, Nat.reduceAdd, Int.reduceBEq, Int.reduceBNe, Int.reduceLT, Int.reduceLE, Go.Proofs.Tryz.f68, fx_68, ty, e0]
  generalize hbla : codeB PP cmp0 C lpC _ = fa; generalize hl0a : lpC fa _ = ra
  obtain ⟨exa, sa, rfl, rfl, h2a⟩ := lpC_at (α := Nat) hl0a [5, 6, 7, 15, 16, 17, 18, 19, 20, 21, 22, 23, 24, 25, 26, 27, 28, 29, 30, 31, 32, 33, 34, 35, 36, 37, 38, 39, 40, 41, 42, 43, 44, 45, 46, 47, 48, 49, 50, 51, 52, 53, 54, 55, 56, 57, 58, 59, 60, 61, 62, 63, 64, 65, 66, 67, 68, 69, 70, 71, 72, 73, 74] (fun i => [(4, .int .i64 i), (3, .str ([97, 117, 116, 111, 109, 97, 116, 111, 110] ++ (x.states.take i).flatMap stS))]) (fun i => i ≤ x.states.length) (fun i => x.states.length - i) (fun _ => ()) (fun ts H _ ex s => ex = .exit 0 ∧ At [4, 5, 6, 7, 15, 16, 17, 18, 19, 20, 21, 22, 23, 24, 25, 26, 27, 28, 29, 30, 31, 32, 33, 34, 35, 36, 37, 38, 39, 40, 41, 42, 43, 44, 45, 46, 47, 48, 49, 50, 51, 52, 53, 54, 55, 56, 57, 58, 59, 60, 61, 62, 63, 64, 65, 66, 67, 68, 69, 70, 71, 72, 73, 74] ts H [(3, .str ([97, 117, 116, 111, 109, 97, 116, 111, 110] ++ x.states.flatMap stS))] s) 0 (Nat.zero_le _) (At.of [] (by simp only [ats, Int.natCast_zero, List.take_zero, List.flatMap_nil, List.append_nil, List.append_assoc, List.cons_append, List.nil_append]) (by simp only [List.append_nil])) (by
    intro ia ja Ha da hia
    clear hl0a; subst hbla
    by_cases hlta : ia < x.states.length
    · have e1a : ((ia : Int) < (x.states.length : Int)) := by omega
      obtain ⟨xa, hxa⟩ : ∃ yy, yy = x.states[ia] := ⟨_, rfl⟩
      have e3a : (x.states.map PState.cells)[ia]? = some (PState.cells xa) := by simp [hlta, hxa]
      have hma : xa ∈ x.states := by rw [hxa]; exact List.getElem_mem hlta
      have hqa := flatS_len stS x.states (ia + 1)
      have hspa := flatS stS x.states ia hlta
      rw [← hxa] at hspa
      rw [hspa, List.length_append] at hqa
      have hsa := hs.2.2 xa hma
      have hra := hr.2 xa hma
      have hl2 := hsa.2.1
      have hl3 := hsa.2.2.2.1
      have hsl := congrArg List.length (stS_eq xa)
      simp only [List.length_append, List.length_cons, List.length_nil] at hsl
      simp only [sims, core, pe, Nat.reduceAdd, Int.reduceBEq, Int.reduceBNe, Int.reduceLT, Int.reduceLE, effs, fx_68, ty, e1a, e3a]
      rw [bin_cat]
      case hl => ((try simp only [List.length_append, List.length_cons, List.length_nil]); omega)
      simp only [sims, core, pe, Nat.reduceAdd, Int.reduceBEq, Int.reduceBNe, Int.reduceLT, Int.reduceLE, effs, fx_68, ty]
      rw [bin_cat]
      case hl => ((try simp only [List.length_append, List.length_cons, List.length_nil]); omega)
      simp only [sims, core, pe, Nat.reduceAdd, Int.reduceBEq, Int.reduceBNe, Int.reduceLT, Int.reduceLE, effs, fx_68, ty]
      rw [bin_cat]
      case hl => ((try simp only [List.length_append, List.length_cons, List.length_nil]); omega)
      simp only [sims, core, pe, Nat.reduceAdd, Int.reduceBEq, Int.reduceBNe, Int.reduceLT, Int.reduceLE, effs, fx_68, ty]
      generalize hblb : codeB PP cmp0 C lpC _ = fb; generalize hl0b : lpC fb _ = rb
      obtain ⟨exb, sb, rfl, rfl, h2b⟩ := lpC_at (α := Nat) hl0b [33, 34, 35, 36, 37, 38, 39, 40, 41, 42, 43, 44, 45, 46, 47, 48] (fun i => [(6, .int .i64 i), (3, .str (([97, 117, 116, 111, 109, 97, 116, 111, 110] ++ (x.states.take ia).flatMap stS ++ (32 :: 115 :: 116 :: 97 :: 116 :: 101 :: 32 :: (xa.name ++ [32, 58]))) ++ (xa.eqs.take i).flatMap qS))]) (fun i => i ≤ xa.eqs.length) (fun i => xa.eqs.length - i) (fun _ => ()) (fun ts H _ ex s => ex = .exit 2 ∧ At [6, 33, 34, 35, 36, 37, 38, 39, 40, 41, 42, 43, 44, 45, 46, 47, 48] ts H [(3, .str (([97, 117, 116, 111, 109, 97, 116, 111, 110] ++ (x.states.take ia).flatMap stS ++ (32 :: 115 :: 116 :: 97 :: 116 :: 101 :: 32 :: (xa.name ++ [32, 58]))) ++ xa.eqs.flatMap qS))] s) 0 (Nat.zero_le _) (At.of [] (by simp only [ats, Int.natCast_zero, List.take_zero, List.flatMap_nil, List.append_nil, List.append_assoc, List.cons_append, List.nil_append]) (by simp only [List.append_nil])) (by
        intro ib jb Hb db hib
        clear hl0b; subst hblb
        by_cases hltb : ib < xa.eqs.length
        · have e1b : ((ib : Int) < (xa.eqs.length : Int)) := by omega
          obtain ⟨xb, hxb⟩ : ∃ yy, yy = xa.eqs[ib] := ⟨_, rfl⟩
          have e3b : (xa.eqs.map PEq.cells)[ib]? = some (PEq.cells xb) := by simp [hltb, hxb]
          have hmb : xb ∈ xa.eqs := by rw [hxb]; exact List.getElem_mem hltb
          have hqb := flatS_len qS xa.eqs (ib + 1)
          have hspb := flatS qS xa.eqs ib hltb
          rw [← hxb] at hspb
          rw [hspb, List.length_append] at hqb
          have hbq : xb.bulk ≤ 1048576 := by have := sumOf_mem PEq.bulk xa.eqs xb hmb; have h3 := hbe.2 xa hma; unfold PState.bulk at h3; omega
          have ce := reqS_c xb (hsa.2.2.1 xb hmb) (hra.1 xb hmb) hbq
          have hel : (qS xb).length = (J (eqW xb)).length + 1 := by simp [qS]
          simp only [sims, core, pe, Nat.reduceAdd, Int.reduceBEq, Int.reduceBNe, Int.reduceLT, Int.reduceLE, effs, fx_68, ty, e1b, e3b, ce _]
          rw [bin_cat]
          case hl => ((try simp only [List.length_append, List.length_cons, List.length_nil]); omega)
          simp only [sims, core, pe, Nat.reduceAdd, Int.reduceBEq, Int.reduceBNe, Int.reduceLT, Int.reduceLE, effs, fx_68, ty]
          rw [bin_cat]
          case hl => ((try simp only [List.length_append, List.length_cons, List.length_nil]); omega)
          simp only [sims, core, pe, Nat.reduceAdd, Int.reduceBEq, Int.reduceBNe, Int.reduceLT, Int.reduceLE, effs, fx_68, ty, wrap_nat (show ib ≤ lenTop by omega)]
          exact .inl ⟨ib + 1, _, rfl, hltb, At.of _ (by simp only [ats, Int.natCast_zero, hspb, qS, List.append_assoc, List.cons_append, List.nil_append]) (by simp only [List.cons_append, List.append_assoc, List.nil_append]; rfl), by (try simp only []); omega, rfl⟩
        · have e1b : ¬ ((ib : Int) < (xa.eqs.length : Int)) := by omega
          simp only [sims, core, pe, Nat.reduceAdd, Int.reduceBEq, Int.reduceBNe, Int.reduceLT, Int.reduceLE, effs, fx_68, ty, e1b]
          have : xa.eqs.take ib = xa.eqs := List.take_of_length_le (by omega)
          rw [this]
          exact .inr ⟨_, _, rfl, by simp, rfl, At.of _ (by simp only [ats, List.append_assoc, List.cons_append, List.nil_append]) (by simp only [List.cons_append, List.append_assoc, List.nil_append]; rfl)⟩)
      obtain ⟨jb', Hb', db', rfl⟩ := h2b.elim
      clear hl0b
      simp only [sims, core, pe, Nat.reduceAdd, Int.reduceBEq, Int.reduceBNe, Int.reduceLT, Int.reduceLE, effs, fx_68, ty]
      generalize hblc : codeB PP cmp0 C lpC _ = fc; generalize hl0c : lpC fc _ = rc
      obtain ⟨exc, sc, rfl, rfl, h2c⟩ := lpC_at (α := Nat) hl0c [49, 50, 51, 52, 53, 54, 55, 56, 57, 58, 59, 60, 61, 62, 63, 64, 65, 66, 67, 68, 69, 70, 71, 72, 73, 74] (fun i => [(7, .int .i64 i), (3, .str ((([97, 117, 116, 111, 109, 97, 116, 111, 110] ++ (x.states.take ia).flatMap stS ++ (32 :: 115 :: 116 :: 97 :: 116 :: 101 :: 32 :: (xa.name ++ [32, 58]))) ++ xa.eqs.flatMap qS) ++ (xa.ways.take i).flatMap wS))]) (fun i => i ≤ xa.ways.length) (fun i => xa.ways.length - i) (fun _ => ()) (fun ts H _ ex s => ex = .exit 4 ∧ At [7, 49, 50, 51, 52, 53, 54, 55, 56, 57, 58, 59, 60, 61, 62, 63, 64, 65, 66, 67, 68, 69, 70, 71, 72, 73, 74] ts H [(3, .str ((([97, 117, 116, 111, 109, 97, 116, 111, 110] ++ (x.states.take ia).flatMap stS ++ (32 :: 115 :: 116 :: 97 :: 116 :: 101 :: 32 :: (xa.name ++ [32, 58]))) ++ xa.eqs.flatMap qS) ++ xa.ways.flatMap wS))] s) 0 (Nat.zero_le _) (At.of [] (by simp only [ats, Int.natCast_zero, List.take_zero, List.flatMap_nil, List.append_nil, List.append_assoc, List.cons_append, List.nil_append]) (by simp only [List.append_nil])) (by
        intro ic jc Hc dc hic
        clear hl0c; subst hblc
        by_cases hltc : ic < xa.ways.length
        · have e1c : ((ic : Int) < (xa.ways.length : Int)) := by omega
          obtain ⟨xc, hxc⟩ : ∃ yy, yy = xa.ways[ic] := ⟨_, rfl⟩
          have e3c : (xa.ways.map PWay.cells)[ic]? = some (PWay.cells xc) := by simp [hltc, hxc]
          have hmc : xc ∈ xa.ways := by rw [hxc]; exact List.getElem_mem hltc
          have hqc := flatS_len wS xa.ways (ic + 1)
          have hspc := flatS wS xa.ways ic hltc
          rw [← hxc] at hspc
          rw [hspc, List.length_append] at hqc
          have h4c : xc.cond.bulk ≤ xc.bulk := by unfold PWay.bulk; omega
          have hbq : xc.cond.bulk ≤ 1048576 := by have := sumOf_mem PWay.bulk xa.ways xc hmc; have h3 := hbe.2 xa hma; unfold PState.bulk at h3; omega
          have ce := rshow_c xc.cond (hsa.2.2.2.2 xc hmc).1 (hra.2 xc hmc) hbq
          have hel := congrArg List.length (wS_eq xc)
          simp only [List.length_append, List.length_cons, List.length_nil] at hel
          have hpz : ∀ (l : AHeap) (y : Blk), decide (0 < (y :: l).length) = true := fun l y => decide_eq_true (by simp)
          simp only [sims, core, pe, Nat.reduceAdd, Int.reduceBEq, Int.reduceBNe, Int.reduceLT, Int.reduceLE, effs, fx_68, ty, e1c, e3c, ce _]
          rw [bin_cat]
          case hl => ((try simp only [List.length_append, List.length_cons, List.length_nil]); omega)
          simp only [sims, core, pe, Nat.reduceAdd, Int.reduceBEq, Int.reduceBNe, Int.reduceLT, Int.reduceLE, effs, fx_68, ty, e3c]
          rw [bin_cat]
          case hl => ((try simp only [List.length_append, List.length_cons, List.length_nil]); omega)
          simp only [sims, core, pe, Nat.reduceAdd, Int.reduceBEq, Int.reduceBNe, Int.reduceLT, Int.reduceLE, effs, fx_68, ty, e3c]
          rw [bin_cat]
          case hl => ((try simp only [List.length_append, List.length_cons, List.length_nil]); omega)
          simp only [sims, core, pe, Nat.reduceAdd, Int.reduceBEq, Int.reduceBNe, Int.reduceLT, Int.reduceLE, effs, fx_68, ty, e3c]
          rw [bin_cat]
          case hl => ((try simp only [List.length_append, List.length_cons, List.length_nil]); omega)
          simp only [sims, core, pe, Nat.reduceAdd, Int.reduceBEq, Int.reduceBNe, Int.reduceLT, Int.reduceLE, effs, fx_68, ty, e3c]
          rw [bin_cat]
          case hl => ((try simp only [List.length_append, List.length_cons, List.length_nil]); omega)
          simp only [sims, core, pe, Nat.reduceAdd, Int.reduceBEq, Int.reduceBNe, Int.reduceLT, Int.reduceLE, effs, fx_68, ty, e3c, wrap_nat (show ic ≤ lenTop by omega)]
          exact .inl ⟨ic + 1, _, rfl, hltc, At.of _ (by simp only [ats, Int.natCast_zero, hspc, wS_eq, List.append_assoc, List.cons_append, List.nil_append]) (by simp only [List.cons_append, List.append_assoc, List.nil_append]; rfl), by (try simp only []); omega, rfl⟩
        · have e1c : ¬ ((ic : Int) < (xa.ways.length : Int)) := by omega
          simp only [sims, core, pe, Nat.reduceAdd, Int.reduceBEq, Int.reduceBNe, Int.reduceLT, Int.reduceLE, effs, fx_68, ty, e1c]
          have : xa.ways.take ic = xa.ways := List.take_of_length_le (by omega)
          rw [this]
          exact .inr ⟨_, _, rfl, by simp, rfl, At.of _ (by simp only [ats, List.append_assoc, List.cons_append, List.nil_append]) (by simp only [List.cons_append, List.append_assoc, List.nil_append]; rfl)⟩)
      obtain ⟨jc', Hc', dc', rfl⟩ := h2c.elim
      clear hl0c
      simp only [sims, core, pe, Nat.reduceAdd, Int.reduceBEq, Int.reduceBNe, Int.reduceLT, Int.reduceLE, effs, fx_68, ty, wrap_nat (show ia ≤ lenTop by omega)]
      exact .inl ⟨ia + 1, _, rfl, hlta, At.of _ (by simp only [ats, Int.natCast_zero, hspa, stS_eq, List.append_assoc, List.cons_append, List.nil_append]) (by simp only [List.cons_append, List.append_assoc, List.nil_append]; rfl), by (try simp only []); omega, rfl⟩
    · have e1a : ¬ ((ia : Int) < (x.states.length : Int)) := by omega
      simp only [sims, core, pe, Nat.reduceAdd, Int.reduceBEq, Int.reduceBNe, Int.reduceLT, Int.reduceLE, effs, fx_68, ty, e1a]
      have : x.states.take ia = x.states := List.take_of_length_le (by omega)
      rw [this]
      exact .inr ⟨_, _, rfl, by simp, rfl, At.of _ (by simp only [ats, List.append_assoc, List.cons_append, List.nil_append]) (by simp only [List.cons_append, List.append_assoc, List.nil_append]; rfl)⟩)
  obtain ⟨ja', Ha', da', rfl⟩ := h2a.elim
  clear hl0a
  simp only [sims, core, pe, Nat.reduceAdd, Int.reduceBEq, Int.reduceBNe, Int.reduceLT, Int.reduceLE, effs, fx_68, ty]
  rw [bin_cat]
  case hl => ((try simp only [List.length_append, List.length_cons, List.length_nil]); omega)
  simp only [sims, core, pe, Nat.reduceAdd, Int.reduceBEq, Int.reduceBNe, Int.reduceLT, Int.reduceLE, effs, fx_68, ty]
end Go.Ab
