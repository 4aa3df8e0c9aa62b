/- Programs that may be: their texts tell them. -/
import Derived.Test.YtngklkmeknmloaaGreatDoorAbPrX
import Derived.Test.YtngklkmeknmloaaGreatDoorAbReadT
import Derived.Test.YtngklkmeknmloaaGreatDoorAbEach
import Derived.Test.YtngklkmeknmloaaGreatDoorAbGood
set_option linter.unusedSimpArgs false
set_option linter.unusedVariables false
set_option maxRecDepth 100000
set_option maxHeartbeats 4000000
open Go.Proofs
namespace Go.Ab
open Go Go.Ab.Tab
theorem strsA_enc (l : List Str) : qk5 (encS l) = some l := by
 induction l with
 | nil => rfl
 | cons x r ih => simp only [encS,List.map_cons] at ih ⊢; simp only [qk5,ih,Option.map_some]
theorem join_own (ws : List Str) (hl : T ws ≤ qac) (tk : Tk) (h : qaa) : C 107 [.slice (encS ws) tk,.str [32]] h = some (.ret (.str (J ws)) .same) := by
 have h1 := T_len ws
 have h2 := J_len ws
 have m2 : qac = 1099511627776 := rfl
 have m3 : qho = 140737488355328 := rfl
 unfold C
 rw [qtc ext_join]
 show (match qk5 (encS ws) with | some l => if l.length ≤ qho ∧ (qih [32] l).length ≤ qho then some (CR.ret (.str (qih [32] l)) Eff.same) else none | none => none) = _
 rw [strsA_enc]
 have h3 : ws.length ≤ qho ∧ (qih [32] ws).length ≤ qho := ⟨by omega,by unfold J at h2; omega⟩
 exact if_pos h3
theorem text_c (ws : List Str) (hl : T ws ≤ qac) : C 55 [.ptr 0 0] (pOwn 9 ws) = some (.ret (.str (J ws)) .same) := by
 have e1 : qak C [.box [.slice (encS ws) (.own 1)],.tok ws.length 9] 107 [.slice (encS ws) (.own 1),.str [32]] = some (.ret (.str (J ws)) .same) :=
  qn7 [1] rfl rfl (by
   have e : renL (fun x => List.idxOf x [1]) [.slice (encS ws) (.own 1),.str [32]] = [.slice (encS ws) (.own 0),.str [32]] := rfl
   rw [e]; exact join_own ws hl _ _) rfl
 rw [C_fn rfl Tryz.func55 rfl (by kernel_rfl) (m := 7) rfl]; simp only [Z3,Nat.reduceAdd,Nat.reduceBEq,Int.reduceBEq,Int.reduceBNe,Int.reduceLT,Int.reduceLE,Tryz.f55,fx_55,pOwn,e1,qaw 2 _ _ [] (by simp)]
theorem pr_read {f : FuncId} {v : AVal} {h : qaa} {b t : Nat} {ws : List Str} (p : PrAt 9 h b ws (some t)) (e : C f [.ptr 0 0] (pOwn 9 ws) = some (.ret v .same)) (hv : refs v = []) : qak C h f [.ptr b 0] = some (.ret v .same) := by
 obtain ⟨hb,ht⟩ := p
 have hne : t ≠ b := by intro e; subst e; rw [hb] at ht; cases ht
 have hnb : (b == t) = false := beq_false_of_ne (Ne.symm hne)
 refine qn7 [b,t] ?_ ?_ ?_ hv
 ·simp [qc5,qad,refs,hb,ht,hne]
 ·unfold qeh; simp [qad,refs,hb,ht,qet]
 ·have hsub : subH h [b,t] = pOwn 9 ws := by
   simp only [subH,List.map_cons,List.map_nil,List.getD_eq_getElem?_getD,hb,ht,Option.getD_some,renB,qrn,pOwn,List.idxOf_cons,hnb,beq_self_eq_true,cond_true,cond_false]
  rw [hsub]
  simp only [renL,ren,List.idxOf_cons,beq_self_eq_true,cond_true]
  exact e
theorem show_c (e : PExpr) (hs : e.Small) (hr : e.Rng) (hb : e.bulk ≤ 1048576) : Ret C 23 [.agg e.cells] (.str (J e.words)) := by
 refine Ret.mk (by simp [qad,refs,e.norefs]) rfl ?_
 have hT := qx3 e
 have hTl := T_len e.words
 have m2 : qac = 1099511627776 := rfl
 have p0 : PrAt 9 [.box e.cells,.box [.slice [] .full]] 1 [] none := ⟨rfl,rfl⟩
 rw [C_fn rfl Tryz.func23 rfl (by kernel_rfl) (m := 10) rfl]; simp only [Z3,Nat.reduceAdd,Nat.reduceBEq,Int.reduceBEq,Int.reduceBNe,Int.reduceLT,Int.reduceLE,Tryz.f23,fx_23]
 obtain ⟨E1,hE1,t,-,-,p1,o1,l1⟩ := qcq qaj (qvg e hs hr) (by simp [qad,refs,e.norefs]) p0 (by simp only [List.length_nil]; omega)
 have hx := pr_read p1 (text_c ([] ++ e.words) (by simp only [List.nil_append]; omega)) rfl
 simp only [Z3,Nat.reduceAdd,Nat.reduceBEq,Int.reduceBEq,Int.reduceBNe,Int.reduceLT,Int.reduceLE,effs,fx_23,hE1,hx]
end Go.Ab
namespace Go.Ab
open Go Go.Ab.Tab
def qfj (t : PEnum) : List Str := [[116,121,112,101],t.name,[61]] ++ qb8 t.cons [124] ++ [[59]]
def qdo (p : PProg) : List Str := p.enums.flatMap qfj ++ p.nodes.flatMap qe9
def qs2 (p : PProg) : AVal := if qfw false p = 0 then .tuple [.str (J (qdo p)),.int .i64 0] else .tuple [.str [],.int .i64 (qfw false p)]
theorem print_c (p : PProg) (hs : p.Small) (hr : p.Rng) (hT : T (qdo p) ≤ qac) : Ret C 27 [.agg p.cells] (qs2 p) := by
 refine Ret.mk (by simp [qad,refs,p.norefs]) (by unfold qs2; split <;> rfl) ?_
 have cr := right_c false p hs hr
 have hTl := T_len (qdo p)
 have hlen : (qdo p).length = (p.enums.flatMap qfj).length + (p.nodes.flatMap qe9).length := by simp [qdo]
 have hl1 := hs.1
 have hl2 := hs.2.2.1
 rw [C_fn rfl Tryz.func27 rfl (by kernel_rfl) (m := 49) rfl]; simp only [Z3,Nat.reduceAdd,Nat.reduceBEq,Int.reduceBEq,Int.reduceBNe,Int.reduceLT,Int.reduceLE,Tryz.f27,qil,ty,cr _,bne]
 cases hz : qfw false p == 0
 ·have hz' : ¬ qfw false p = 0 := by simpa using hz
  unfold qs2
  rw [if_neg hz']
  simp only [Z3,Nat.reduceAdd,Nat.reduceBEq,Int.reduceBEq,Int.reduceBNe,Int.reduceLT,Int.reduceLE,qil,hz]
 have hz' : qfw false p = 0 := by simpa using hz
 unfold qs2
 rw [if_pos hz']
 have p0 : PrAt 9 [.box p.cells,.box [.slice [] .full]] 1 [] none := ⟨rfl,rfl⟩
 simp only [Z3,Nat.reduceAdd,Nat.reduceBEq,Int.reduceBEq,Int.reduceBNe,Int.reduceLT,Int.reduceLE,effs,qil,ty,hz]
 generalize hbla : qan PP cmp0 C lpC _ = fa; generalize hl0a : lpC fa _ = ra
 obtain ⟨exa,sa,rfl,rfl,h2a⟩ := qcv (α := Nat) hl0a [7,21,22,23,24,25,26,27,28,29,30,31,32,33,34,35,36] (fun i => [(20,.int .i64 i)]) (fun i g => i ≤ p.enums.length ∧ (∃ tk,PrAt 9 g 1 ((p.enums.take i).flatMap qfj) tk) ∧ g[0]? = some (.box p.cells)) (fun i => p.enums.length - i) (fun _ => ()) (fun ts _ ex s => ex = .exit 0 ∧ OutT [7,20,21,22,23,24,25,26,27,28,29,30,31,32,33,34,35,36] ts [] (fun g => (∃ tk,PrAt 9 g 1 (p.enums.flatMap qfj) tk) ∧ g[0]? = some (.box p.cells)) s) 0 ⟨Nat.zero_le _,⟨none,by simpa using p0⟩,rfl⟩ (by simp only [AtT,ats,Int.natCast_zero]) (by
  rintro ia ja ga da ⟨hia,⟨tka,pia⟩,qa_0⟩
  clear hl0a; subst hbla
  have hga0 : 1 < ga.length := by cases tka with
  | none => exact (List.getElem?_eq_some_iff.1 pia.2).1
  | some t => exact (List.getElem?_eq_some_iff.1 pia.1).1
  by_cases hlta : ia < p.enums.length
  ·have e1a : ((ia : Int) < (p.enums.length : Int)) := by omega
   obtain ⟨xa,hxa⟩ : ∃ yy,yy = p.enums[ia] := ⟨_,rfl⟩
   have e3a : (p.enums.map PEnum.cells)[ia]? = some (PEnum.cells xa) := by simp [hlta,hxa]
   have hma : xa ∈ p.enums := by rw [hxa]; exact List.getElem_mem hlta
   have hqa := qfa qfj p.enums (ia + 1)
   have hspa := qid qfj p.enums ia hlta
   rw [← hxa] at hspa
   rw [hspa] at hqa
   have hes := hs.2.1 xa hma
   have kl : PrV 60 [qaf xa.cons,.str [124]] (qb8 xa.cons [124]) := qsq xa.cons [124] hes.2.1
   have hew : (qfj xa).length = 3 + (qb8 xa.cons [124]).length + 1 := by simp [qfj]; omega
   have bs_0 : (ga ++ [Blk.box xa.cells])[ga.length]? = some (.box xa.cells) := qbh _ _
   have qb_0 : (ga ++ [Blk.box xa.cells])[0]? = some (.box p.cells) := Boxes.app _ _ _ _ qa_0
   simp only [Z3,Nat.reduceAdd,Nat.reduceBEq,Int.reduceBEq,Int.reduceBNe,Int.reduceLT,Int.reduceLE,effs,qil,ty,bs_0,qb_0,e1a,e3a,qa_0]
   obtain ⟨E21,hE21,tt,htt,hnn,p21,o21,l21⟩ := qcq qaj (show PrW 59 [.slice [[.str [116,121,112,101]],[.str xa.name],[.str [61]]] .full] [[116,121,112,101],xa.name,[61]] from qa9 [[116,121,112,101],xa.name,[61]] (by simp)) rfl (pia.app [.box xa.cells]) (by (try simp only [List.length_append,List.length_cons,List.length_nil] at hqa); (try simp only [List.length_append,List.length_cons,List.length_nil] at hlen); (try simp only [List.length_append,List.length_cons,List.length_nil]); omega)
   have bs_21 : (Eff.of (ga ++ [.box xa.cells]) E21)[ga.length]? = some (.box xa.cells) := o21 _ _ (by omega) bs_0
   have qb_21 : (Eff.of (ga ++ [.box xa.cells]) E21)[0]? = some (.box p.cells) := o21 _ _ (by omega) qb_0
   simp only [Z3,Nat.reduceAdd,Nat.reduceBEq,Int.reduceBEq,Int.reduceBNe,Int.reduceLT,Int.reduceLE,effs,qil,ty,bs_21,qb_21,e1a,e3a,qa_0,hE21]
   clear hE21; generalize hh21 : Eff.of (ga ++ [.box xa.cells]) E21 = h21 at *; clear hh21
   obtain ⟨E22,hE22,p22,o22,l22⟩ := qah qaj kl rfl p21 (by (try simp only [List.length_append,List.length_cons,List.length_nil] at hqa); (try simp only [List.length_append,List.length_cons,List.length_nil] at hlen); (try simp only [List.length_append,List.length_cons,List.length_nil]); omega)
   have bs_22 : (Eff.of h21 E22)[ga.length]? = some (.box xa.cells) := o22 _ _ (by omega) bs_21
   have qb_22 : (Eff.of h21 E22)[0]? = some (.box p.cells) := o22 _ _ (by omega) qb_21
   simp only [Z3,Nat.reduceAdd,Nat.reduceBEq,Int.reduceBEq,Int.reduceBNe,Int.reduceLT,Int.reduceLE,effs,qil,ty,bs_22,qb_22,e1a,e3a,qa_0,hE22]
   clear hE22; generalize hh22 : Eff.of h21 E22 = h22 at *; clear hh22
   obtain ⟨E23,hE23,p23,o23,l23⟩ := qah qaj (show PrW 59 [.slice [[.str [59]]] .full] [[59]] from qa9 [[59]] (by simp)).own rfl p22 (by (try simp only [List.length_append,List.length_cons,List.length_nil] at hqa); (try simp only [List.length_append,List.length_cons,List.length_nil] at hlen); (try simp only [List.length_append,List.length_cons,List.length_nil]); omega)
   have bs_23 : (Eff.of h22 E23)[ga.length]? = some (.box xa.cells) := o23 _ _ (by omega) bs_22
   have qb_23 : (Eff.of h22 E23)[0]? = some (.box p.cells) := o23 _ _ (by omega) qb_22
   simp only [Z3,Nat.reduceAdd,Nat.reduceBEq,Int.reduceBEq,Int.reduceBNe,Int.reduceLT,Int.reduceLE,effs,qil,ty,bs_23,qb_23,e1a,e3a,qa_0,hE23,qas (show ia ≤ qac by omega)]
   clear hE23; generalize hh23 : Eff.of h22 E23 = h23 at *; clear hh23
   exact .inl ⟨ia + 1,_,rfl,⟨hlta,⟨_,by rw [hspa,qfj]; simpa only [List.append_assoc,List.cons_append,List.nil_append] using p23⟩,qb_23⟩,by simp only [AtT,ats,Int.natCast_zero],by (try simp only []); omega,by first | rfl | trivial⟩
  ·have e1a : ¬ ((ia : Int) < (p.enums.length : Int)) := by omega
   simp only [Z3,Nat.reduceAdd,Nat.reduceBEq,Int.reduceBEq,Int.reduceBNe,Int.reduceLT,Int.reduceLE,effs,qil,ty,e1a]
   have : p.enums.take ia = p.enums := List.take_of_length_le (by omega)
   rw [this] at pia
   exact .inr ⟨_,_,rfl,by simp,rfl,⟨by simp only [AtT,ats],⟨tka,pia⟩,qa_0⟩⟩)
 obtain ⟨ja',Ha',da',⟨⟨tka',pa'⟩,qa'⟩,rfl⟩ := h2a.elim
 clear hl0a
 simp only [Z3,Nat.reduceAdd,Nat.reduceBEq,Int.reduceBEq,Int.reduceBNe,Int.reduceLT,Int.reduceLE,effs,qil,ty,qa']
 generalize hblb : qan PP cmp0 C lpC _ = fb; generalize hl0b : lpC fb _ = rb
 obtain ⟨exb,sb,rfl,rfl,h2b⟩ := qcv (α := Nat) hl0b [9,41,42,43,44,45,46,47] (fun i => [(40,.int .i64 i)]) (fun i g => i ≤ p.nodes.length ∧ (∃ tk,PrAt 9 g 1 (p.enums.flatMap qfj ++ (p.nodes.take i).flatMap qe9) tk) ∧ g[0]? = some (.box p.cells)) (fun i => p.nodes.length - i) (fun _ => ()) (fun ts _ ex s => ex = .exit 2 ∧ OutT [9,40,41,42,43,44,45,46,47] ts [] (fun g => (∃ tk,PrAt 9 g 1 (p.enums.flatMap qfj ++ p.nodes.flatMap qe9) tk) ∧ g[0]? = some (.box p.cells)) s) 0 ⟨Nat.zero_le _,⟨tka',by simpa using pa'⟩,qa'⟩ (by simp only [AtT,ats,Int.natCast_zero]) (by
  rintro ib jb gb db ⟨hib,⟨tkb,pib⟩,qb_0⟩
  clear hl0b; subst hblb
  have hgb0 : 1 < gb.length := by cases tkb with
  | none => exact (List.getElem?_eq_some_iff.1 pib.2).1
  | some t => exact (List.getElem?_eq_some_iff.1 pib.1).1
  by_cases hltb : ib < p.nodes.length
  ·have e1b : ((ib : Int) < (p.nodes.length : Int)) := by omega
   obtain ⟨xb,hxb⟩ : ∃ yy,yy = p.nodes[ib] := ⟨_,rfl⟩
   have e3b : (p.nodes.map PNode.cells)[ib]? = some (PNode.cells xb) := by simp [hltb,hxb]
   have hmb : xb ∈ p.nodes := by rw [hxb]; exact List.getElem_mem hltb
   have hqb := qfa qe9 p.nodes (ib + 1)
   have hspb := qid qe9 p.nodes ib hltb
   rw [← hxb] at hspb
   rw [hspb] at hqb
   have kn := node_p xb (hs.2.2.2 xb hmb) (hr.2 xb hmb)
   have bs_0 : (gb ++ [Blk.box xb.cells])[gb.length]? = some (.box xb.cells) := qbh _ _
   have qc_0 : (gb ++ [Blk.box xb.cells])[0]? = some (.box p.cells) := Boxes.app _ _ _ _ qb_0
   simp only [Z3,Nat.reduceAdd,Nat.reduceBEq,Int.reduceBEq,Int.reduceBNe,Int.reduceLT,Int.reduceLE,effs,qil,ty,bs_0,qc_0,e1b,e3b,qb_0]
   obtain ⟨E41,hE41,tt,htt,hnn,p41,o41,l41⟩ := qcq qaj kn (by simp [qad,refs,xb.norefs]) (pib.app [.box xb.cells]) (by (try simp only [List.length_append,List.length_cons,List.length_nil] at hqb); (try simp only [List.length_append,List.length_cons,List.length_nil] at hlen); (try simp only [List.length_append,List.length_cons,List.length_nil]); omega)
   have bs_41 : (Eff.of (gb ++ [.box xb.cells]) E41)[gb.length]? = some (.box xb.cells) := o41 _ _ (by omega) bs_0
   have qc_41 : (Eff.of (gb ++ [.box xb.cells]) E41)[0]? = some (.box p.cells) := o41 _ _ (by omega) qc_0
   simp only [Z3,Nat.reduceAdd,Nat.reduceBEq,Int.reduceBEq,Int.reduceBNe,Int.reduceLT,Int.reduceLE,effs,qil,ty,bs_41,qc_41,e1b,e3b,qb_0,hE41,qas (show ib ≤ qac by omega)]
   clear hE41; generalize hh41 : Eff.of (gb ++ [.box xb.cells]) E41 = h41 at *; clear hh41
   exact .inl ⟨ib + 1,_,rfl,⟨hltb,⟨_,by rw [hspb]; simpa only [List.append_assoc,List.cons_append,List.nil_append] using p41⟩,qc_41⟩,by simp only [AtT,ats,Int.natCast_zero],by (try simp only []); omega,by first | rfl | trivial⟩
  ·have e1b : ¬ ((ib : Int) < (p.nodes.length : Int)) := by omega
   simp only [Z3,Nat.reduceAdd,Nat.reduceBEq,Int.reduceBEq,Int.reduceBNe,Int.reduceLT,Int.reduceLE,effs,qil,ty,e1b]
   have : p.nodes.take ib = p.nodes := List.take_of_length_le (by omega)
   rw [this] at pib
   exact .inr ⟨_,_,rfl,by simp,rfl,⟨by simp only [AtT,ats],⟨tkb,pib⟩,qb_0⟩⟩)
 obtain ⟨jb',Hb',db',⟨⟨tkb',pb'⟩,qb'⟩,rfl⟩ := h2b.elim
 clear hl0b
 have hne : p.nodes.length ≠ 0 := by
  intro h0
  unfold qfw qmc at hz'
  rw [h0] at hz'
  simp at hz'
 obtain ⟨t,rfl⟩ : ∃ t,tkb' = some t := by
  cases tkb' with
  | some t => exact ⟨t,rfl⟩
  | none =>
   have h1 := pb'.1
   exfalso
   cases hn : p.nodes with
   | nil => rw [hn] at hne; exact hne rfl
   | cons n r => rw [hn] at h1; simp [qe9] at h1
 have hx := pr_read pb' (text_c (qdo p) hT) rfl
 simp only [Z3,Nat.reduceAdd,Nat.reduceBEq,Int.reduceBEq,Int.reduceBNe,Int.reduceLT,Int.reduceLE,effs,qil,hx]
end Go.Ab
namespace Go.Ab
open Go Go.Ab.Tab
theorem back_all {e : PExpr} (g : Good e) : e.Rng → Back e ∧ Fst e := by
 induction g with
 | int n h =>
  intro hr
  refine ⟨?_,qes (.int n h) hr.n⟩
  intro o r _ _
  have hw : (eInt n).words = [decB n] := by rw [qaq]; rfl
  rw [hw,tw1,qyb h hr.n.2]; exact Ev.pure fun _ _ => rfl
 | bool n h =>
  intro hr
  refine ⟨?_,qes (.bool n h) hr.n⟩
  intro o r _ _
  rcases h with rfl | rfl <;> (rw [qaq]; exact Ev.pure fun _ _ => rfl)
 | con s h =>
  intro hr
  refine ⟨?_,qes (.con s h) hr.n⟩
  intro o r _ _
  have hw : (eCon s).words = [s] := by rw [qaq]; rfl
  rw [hw,tw1,qjz h]; exact Ev.pure fun _ _ => rfl
 | var s h =>
  intro hr
  refine ⟨?_,qes (.var s h) hr.n⟩
  intro o r _ hs
  have hw : (eVar s).words = [s] := by rw [qaq]; rfl
  rw [hw,tw1,qer h,tw0]
  refine Ev.congr (g := fun m n => if hasS [91] r || hasS [40] r then ql6 m (pE n) o s r else .ok (eVar s) r) (fun m n => rfl) (Ev.pure fun m n => ?_)
  rw [hs.1,hs.2]; rfl
 | un s k h g ih =>
  intro hr
  have i1 := ih (hr.kids k (by simp [eUn,PExpr.kids]))
  exact ⟨back_un s k h i1.1 i1.2,qes (.un s k h g) hr.n⟩
 | bin s a b h ga gb iha ihb =>
  intro hr
  have i1 := iha (hr.kids a (by simp [eBin,PExpr.kids])); have i2 := ihb (hr.kids b (by simp [eBin,PExpr.kids]))
  exact ⟨back_bin s a b h i1.1 i1.2 i2.1 i2.2,qes (.bin s a b h ga gb) hr.n⟩
 | cond a b c ga gb gc iha ihb ihc =>
  intro hr
  have i1 := iha (hr.kids a (by simp [eIf,PExpr.kids])); have i2 := ihb (hr.kids b (by simp [eIf,PExpr.kids])); have i3 := ihc (hr.kids c (by simp [eIf,PExpr.kids]))
  exact ⟨back_if a b c i1.1 i1.2 i2.1 i2.2 i3.1 i3.2,qes (.cond a b c ga gb gc) hr.n⟩
 | fby a b ga gb iha ihb =>
  intro hr
  have i1 := iha (hr.kids a (by simp [eFby,PExpr.kids])); have i2 := ihb (hr.kids b (by simp [eFby,PExpr.kids]))
  exact ⟨back_fby a b i1.1 i1.2 i2.1 i2.2,qes (.fby a b ga gb) hr.n⟩
 | pre k g ih =>
  intro hr
  have i1 := ih (hr.kids k (by simp [ePre,PExpr.kids]))
  exact ⟨back_pre k i1.1 i1.2,qes (.pre k g) hr.n⟩
 | arrow a b ga gb iha ihb =>
  intro hr
  have i1 := iha (hr.kids a (by simp [qgk,PExpr.kids])); have i2 := ihb (hr.kids b (by simp [qgk,PExpr.kids]))
  exact ⟨q5a a b i1.1 i1.2 i2.1 i2.2,qes (.arrow a b ga gb) hr.n⟩
 | when x c k hx hc g ih =>
  intro hr
  have i1 := ih (hr.kids k (by simp [qje,PExpr.kids]))
  exact ⟨back_when x c k hx hc i1.1 i1.2,qes (.when x c k hx hc g) hr.n⟩
 | arms op x cons kids hop hx hl h1 h2 hc hk ih =>
  intro hr
  refine ⟨?_,qes (.arms op x cons kids hop hx hl h1 h2 hc hk) hr.n⟩
  have hb := fun k hk => ih k hk (hr.kids k hk)
  rcases hop with rfl | rfl
  ·exact qzn 12 _ (.inl ⟨rfl,rfl⟩) x cons kids hx hl h1 hc hb
  ·exact qzn 13 _ (.inr ⟨rfl,rfl⟩) x cons kids hx hl h1 hc hb
 | call x cons kids hx h2 hc h3 h4 hk ih =>
  intro hr
  exact ⟨back_call x cons kids hx hc h3 (fun k hk => ih k hk (hr.kids k hk)),qes (.call x cons kids hx h2 hc h3 h4 hk) hr.n⟩
 | every a b hop ga gb iha ihb =>
  intro hr
  have i1 := iha (hr.kids a (by simp [qe3,PExpr.kids])); have i2 := ihb (hr.kids b (by simp [qe3,PExpr.kids]))
  exact ⟨q5b a b hop i1.1 i1.2 i2.1 i2.2,qes (.every a b hop ga gb) hr.n⟩
structure GoodE (e : PExpr) : Prop where
 g : Good e
 r : e.Rng
 d : nd e ≤ 50
theorem qzo {e : PExpr} (h : GoodE e) {r : List PTok} (hs : qoh r) : Ev (fun _ n => pE n 0 1 (toks e.words ++ r)) (.ok e r) := by
 obtain ⟨b,f⟩ := back_all h.g h.r
 have := h.d
 exact b.inf f (by decide) (by omega) (by omega) hs
theorem Ev.diag {α : Type} {f : Nat → Nat → α} {x : α} (h : Ev f x) : Ev (fun _ n => f n n) x := by
 obtain ⟨N,h⟩ := h
 exact ⟨N,fun m n _ b => h n n b b⟩
def NmL (l : List Str) : Prop := l ≠ [] ∧ ∀ x ∈ l,qch x = true
def CnL (l : List Str) : Prop := l ≠ [] ∧ ∀ x ∈ l,qfe x = true
theorem qrf {l : List Str} (h : NmL l) (r : List PTok) : Ev (fun m _ => qd7 m [40] [41] (toks (qdd l) ++ r)) (.ok l r) := by
 unfold qdd
 simp only [twa,tw1,tw0]
 refine Ev.congr (g := fun m _ => (qe6 1 [44] m (toks (qb8 l [44]) ++ tokW [41] :: r)).bind fun l ts => qau [41] ts fun ts => .ok l ts) (fun m n => rfl) ?_
 exact Ev.bind (k := fun _ _ l ts => qau [41] ts fun ts => .ok l ts) (qoi 1 [44] rfl l h.1 (fun x hx => qer (h.2 x hx)) (tokW [41] :: r) rfl) (Ev.pure fun _ _ => rfl)
structure qok (q : PEq) : Prop where
 n : NmL q.names
 e : GoodE q.e
theorem q3n {l : List Str} (h : NmL l) (r : List PTok) : qdb (toks (qhk l) ++ r) = true := by
 unfold qhk
 split
 ·rename_i x
  rw [tw1,qer (h.2 x (by simp))]; rfl
 ·rfl
theorem q2b (q : PEq) (r : List PTok) : toks (eqW q) ++ r = toks (qhk q.names) ++ (tokW [61] :: (toks q.e.words ++ tokW [59] :: r)) := by
 unfold eqW; simp only [twa,tw1,tw0]
theorem qzp {q : PEq} (h : qok q) (r : List PTok) : qdb (toks (eqW q) ++ r) = true := by
 rw [q2b]; exact q3n h.n _
theorem head_back {l : List Str} (h : NmL l) (R : List PTok) : Ev (fun m _ => if hasS [40] (toks (qhk l) ++ R) = true then qd7 m [40] [41] (toks (qhk l) ++ R) else qfh 1 (toks (qhk l) ++ R) fun s ts => .ok [s] ts) (.ok l R) := by
 match l,h with
 | [],h => exact absurd rfl h.1
 | [x],h =>
  have hw : qhk [x] = [x] := rfl
  rw [hw,tw1,qer (h.2 x (by simp)),tw0]
  exact Ev.pure fun _ _ => rfl
 | x :: y :: q,h =>
  have hw : qhk (x :: y :: q) = qdd (x :: y :: q) := rfl
  rw [hw]
  exact Ev.congr (fun m n => rfl) (qrf h R)
theorem eq_back {q : PEq} (h : qok q) (r : List PTok) : Ev (fun m n => pEq m (pE n) (toks (eqW q) ++ r)) (.ok q r) := by
 rw [q2b]
 obtain ⟨R,hR⟩ : ∃ t,t = tokW [61] :: (toks q.e.words ++ tokW [59] :: r) := ⟨_,rfl⟩
 rw [← hR]
 refine Ev.bind (k := fun m n l ts => qau [61] ts fun ts => (pE n 0 1 ts).bind fun e ts => qau [59] ts fun ts => .ok (PEq.mk l e) ts) (head_back h.n R) ?_
 rw [hR]
 refine Ev.congr (g := fun _ n => (pE n 0 1 (toks q.e.words ++ tokW [59] :: r)).bind fun e ts => qau [59] ts fun ts => .ok (PEq.mk q.names e) ts) (fun m n => rfl) ?_
 exact Ev.bind (k := fun _ _ e ts => qau [59] ts fun ts => .ok (PEq.mk q.names e) ts) (qzo h.e (stop_semi r)) (Ev.pure fun _ _ => rfl)
theorem q2c : ∀ (l : List PEq),(∀ q ∈ l,qok q) → ∀ r,qdb r = false → Ev (fun m n => pEqs (pE n) n m (toks (l.flatMap eqW) ++ r)) (.ok l r)
 | [],_,r,hr => Ev.succ (g := fun _ _ => .ok [] r) (fun m n => by simp only [List.flatMap_nil,tw0,pEqs,hr]; rfl) (Ev.pure fun _ _ => rfl)
 | q :: l,h,r,hr => by
  rw [List.flatMap_cons,twa]
  have hq := h q (by simp)
  refine Ev.succ (g := fun m n => (pEq n (pE n) (toks (eqW q) ++ (toks (l.flatMap eqW) ++ r))).bind fun q ts => (pEqs (pE n) n m ts).bind fun l ts => .ok (q :: l) ts) (fun m n => by simp only [pEqs,qzp hq]; rfl) ?_
  refine Ev.bind (k := fun m n q ts => (pEqs (pE n) n m ts).bind fun l ts => .ok (q :: l) ts) (Ev.diag (eq_back hq _)) ?_
  exact Ev.bind (k := fun m n l ts => .ok (q :: l) ts) (q2c l (fun x hx => h x (by simp [hx])) r hr) (Ev.pure fun _ _ => rfl)
structure GoodW (w : PWay) : Prop where
 t : qfe w.to = true
 e : GoodE w.cond
theorem qzq : ∀ (l : List PWay),(∀ w ∈ l,GoodW w) → ∀ r,hasS [117,110,116,105,108] r = false → Ev (fun m n => qgx (pE n) m (toks (l.flatMap wayW) ++ r)) (.ok l r)
 | [],_,r,hr => Ev.succ (g := fun _ _ => .ok [] r) (fun m n => by simp only [List.flatMap_nil,tw0,qgx,hr]; rfl) (Ev.pure fun _ _ => rfl)
 | w :: l,h,r,hr => by
  have hq := h w (by simp)
  obtain ⟨R,hR⟩ : ∃ t,t = toks (l.flatMap wayW) ++ r := ⟨_,rfl⟩
  have hw : toks ((w :: l).flatMap wayW) ++ r = tokW [117,110,116,105,108] :: (toks w.cond.words ++ tokW [116,104,101,110] :: ⟨2,w.to,0,0,0⟩ :: tokW [59] :: R) := by
   rw [List.flatMap_cons,twa,← hR,← qjz hq.t]; unfold wayW; simp only [twa,tw1,tw0]
  rw [hw]
  refine Ev.succ (g := fun m n => (pE n 0 1 (toks w.cond.words ++ tokW [116,104,101,110] :: ⟨2,w.to,0,0,0⟩ :: tokW [59] :: R)).bind fun e ts => qau [116,104,101,110] ts fun ts => qfh 2 ts fun c ts => qau [59] ts fun ts => (qgx (pE n) m ts).bind fun l ts => .ok (PWay.mk e c :: l) ts) (fun m n => rfl) ?_
  refine Ev.bind (k := fun m n e ts => qau [116,104,101,110] ts fun ts => qfh 2 ts fun c ts => qau [59] ts fun ts => (qgx (pE n) m ts).bind fun l ts => .ok (PWay.mk e c :: l) ts) (qzo hq.e (qzm _)) ?_
  refine Ev.congr (g := fun m n => (qgx (pE n) m R).bind fun l ts => .ok (PWay.mk w.cond w.to :: l) ts) (fun m n => rfl) ?_
  rw [hR]
  exact Ev.bind (k := fun m n l ts => .ok (PWay.mk w.cond w.to :: l) ts) (qzq l (fun x hx => h x (by simp [hx])) r hr) (Ev.pure fun _ _ => rfl)
structure qud (s : PState) : Prop where
 n : qfe s.name = true
 q : ∀ q ∈ s.eqs,qok q
 w : ∀ w ∈ s.ways,GoodW w
theorem q3o (l : List PWay) (r : List PTok) (h : qdb r = false) : qdb (toks (l.flatMap wayW) ++ r) = false := by
 cases l with
 | nil => exact h
 | cons w l => rfl
def qfq (s : PState) : List Str := [s.name,[58]] ++ s.eqs.flatMap eqW ++ s.ways.flatMap wayW
theorem qzr (s : PState) : qcs s = [115,116,97,116,101] :: qfq s := by unfold qcs qfq; rfl
theorem quw {s : PState} (h : qud s) (r : List PTok) (h1 : qdb r = false) (h2 : hasS [117,110,116,105,108] r = false) : Ev (fun _ n => qkl n (pE n) (toks (qfq s) ++ r)) (.ok s r) := by
 have hw : toks (qfq s) ++ r = ⟨2,s.name,0,0,0⟩ :: tokW [58] :: (toks (s.eqs.flatMap eqW) ++ (toks (s.ways.flatMap wayW) ++ r)) := by
  rw [← qjz h.n]; unfold qfq; simp only [twa,tw1,tw0]
 rw [hw]
 refine Ev.congr (g := fun _ n => (pEqs (pE n) n n (toks (s.eqs.flatMap eqW) ++ (toks (s.ways.flatMap wayW) ++ r))).bind fun q ts => (qgx (pE n) n ts).bind fun w ts => .ok (PState.mk s.name q w) ts) (fun m n => rfl) ?_
 refine Ev.bind (k := fun _ n q ts => (qgx (pE n) n ts).bind fun w ts => .ok (PState.mk s.name q w) ts) (Ev.diag (q2c s.eqs h.q _ (q3o _ _ h1))) ?_
 exact Ev.bind (k := fun _ _ w ts => .ok (PState.mk s.name s.eqs w) ts) (Ev.diag (qzq s.ways h.w r h2)) (Ev.pure fun _ _ => rfl)
theorem qux : ∀ (s : PState) (l : List PState),qud s → (∀ x ∈ l,qud x) → ∀ r,qdb r = false → hasS [117,110,116,105,108] r = false → hasS [115,116,97,116,101] r = false →
 Ev (fun m n => qdu (pE n) n m (toks (qfq s) ++ (toks (l.flatMap qcs) ++ r))) (.ok (s :: l) r)
 | s,[],h,_,r,h1,h2,h3 => by
  rw [List.flatMap_nil,tw0]
  refine Ev.succ (g := fun m n => (qkl n (pE n) (toks (qfq s) ++ r)).bind fun s ts => if hasS [115,116,97,116,101] ts = true then (qdu (pE n) n m ts.tail).bind fun l ts => .ok (s :: l) ts else .ok [s] ts) (fun m n => rfl) ?_
  refine Ev.bind (k := fun m n s ts => if hasS [115,116,97,116,101] ts = true then (qdu (pE n) n m ts.tail).bind fun l ts => .ok (s :: l) ts else .ok [s] ts) (quw h r h1 h2) (Ev.pure fun m n => ?_)
  rw [h3]; rfl
 | s,t :: l,h,hl,r,h1,h2,h3 => by
  have hw : toks ((t :: l).flatMap qcs) ++ r = tokW [115,116,97,116,101] :: (toks (qfq t) ++ (toks (l.flatMap qcs) ++ r)) := by
   rw [List.flatMap_cons,twa,qzr,tw1]
  rw [hw]
  refine Ev.succ (g := fun m n => (qkl n (pE n) (toks (qfq s) ++ tokW [115,116,97,116,101] :: (toks (qfq t) ++ (toks (l.flatMap qcs) ++ r)))).bind fun s ts => if hasS [115,116,97,116,101] ts = true then (qdu (pE n) n m ts.tail).bind fun l ts => .ok (s :: l) ts else .ok [s] ts) (fun m n => rfl) ?_
  refine Ev.bind (k := fun m n s ts => if hasS [115,116,97,116,101] ts = true then (qdu (pE n) n m ts.tail).bind fun l ts => .ok (s :: l) ts else .ok [s] ts) (quw h _ rfl rfl) ?_
  refine Ev.congr (g := fun m n => (qdu (pE n) n m (toks (qfq t) ++ (toks (l.flatMap qcs) ++ r))).bind fun l ts => .ok (s :: l) ts) (fun m n => rfl) ?_
  exact Ev.bind (k := fun m n l ts => .ok (s :: l) ts) (qux t l (hl t (by simp)) (fun x hx => hl x (by simp [hx])) r h1 h2 h3) (Ev.pure fun _ _ => rfl)
structure GoodI (x : PItem) : Prop where
 q : x.states = [] → qok x.eq
 z : x.states ≠ [] → x.eq = ⟨[],qjg⟩
 s : ∀ s ∈ x.states,qud s
theorem qxj : ∀ (l : List PItem),(∀ x ∈ l,GoodI x) → ∀ r,qdb r = false → hasS [97,117,116,111,109,97,116,111,110] r = false → Ev (fun m n => qdc (pE n) n m (toks (l.flatMap qd0) ++ r)) (.ok l r)
 | [],_,r,h1,h2 => Ev.succ (g := fun _ _ => .ok [] r) (fun m n => by simp only [List.flatMap_nil,tw0,qdc,h1,h2]; rfl) (Ev.pure fun _ _ => rfl)
 | x :: l,h,r,h1,h2 => by
  have hx := h x (by simp)
  have ih := qxj l (fun x hx => h x (by simp [hx])) r h1 h2
  obtain ⟨q,ss⟩ := x
  rw [List.flatMap_cons,twa]
  cases ss with
  | nil =>
   have hq : qok q := hx.q rfl
   have hw : qd0 ⟨q,[]⟩ = eqW q := rfl
   rw [hw]
   refine Ev.succ (g := fun m n => (pEq n (pE n) (toks (eqW q) ++ (toks (l.flatMap qd0) ++ r))).bind fun q ts => (qdc (pE n) n m ts).bind fun l ts => .ok (PItem.mk q [] :: l) ts) (fun m n => by simp only [qdc,qzp hq]; rfl) ?_
   refine Ev.bind (k := fun m n q ts => (qdc (pE n) n m ts).bind fun l ts => .ok (PItem.mk q [] :: l) ts) (Ev.diag (eq_back hq _)) ?_
   exact Ev.bind (k := fun m n l ts => .ok (PItem.mk q [] :: l) ts) ih (Ev.pure fun _ _ => rfl)
  | cons s ss =>
   have hz : q = ⟨[],qjg⟩ := hx.z (by simp)
   subst hz
   obtain ⟨R,hR⟩ : ∃ t,t = toks (l.flatMap qd0) ++ r := ⟨_,rfl⟩
   rw [← hR] at ih ⊢
   have hw : toks (qd0 ⟨⟨[],qjg⟩,s :: ss⟩) ++ R = tokW [97,117,116,111,109,97,116,111,110] :: tokW [115,116,97,116,101] :: (toks (qfq s) ++ (toks (ss.flatMap qcs) ++ tokW [101,110,100] :: tokW [59] :: R)) := by
    have : qd0 ⟨⟨[],qjg⟩,s :: ss⟩ = [[97,117,116,111,109,97,116,111,110]] ++ (s :: ss).flatMap qcs ++ [[101,110,100],[59]] := rfl
    rw [this,List.flatMap_cons,qzr]; simp only [twa,tw1,tw0]
   rw [hw]
   refine Ev.succ (g := fun m n => (qdu (pE n) n n (toks (qfq s) ++ (toks (ss.flatMap qcs) ++ tokW [101,110,100] :: tokW [59] :: R))).bind fun ss ts => qau [101,110,100] ts fun ts => qau [59] ts fun ts => (qdc (pE n) n m ts).bind fun l ts => .ok (PItem.mk ⟨[],qjg⟩ ss :: l) ts) (fun m n => rfl) ?_
   refine Ev.bind (k := fun m n ss ts => qau [101,110,100] ts fun ts => qau [59] ts fun ts => (qdc (pE n) n m ts).bind fun l ts => .ok (PItem.mk ⟨[],qjg⟩ ss :: l) ts) (Ev.diag (qux s ss (hx.s s (by simp)) (fun y hy => hx.s y (by simp [hy])) (tokW [101,110,100] :: tokW [59] :: R) rfl rfl rfl)) ?_
   refine Ev.congr (g := fun m n => (qdc (pE n) n m R).bind fun l ts => .ok (PItem.mk ⟨[],qjg⟩ (s :: ss) :: l) ts) (fun m n => rfl) ?_
   exact Ev.bind (k := fun m n l ts => .ok (PItem.mk ⟨[],qjg⟩ (s :: ss) :: l) ts) ih (Ev.pure fun _ _ => rfl)
structure que (x : PNode) : Prop where
 n : qch x.name = true
 f : ∀ s ∈ x.funs,qch s = true
 i : NmL x.ins
 u : NmL x.outs
 t : ∀ y ∈ x.items,GoodI y
theorem funs_back {l : List Str} (h : ∀ s ∈ l,qch s = true) (r : List PTok) (hr : hasS [91] r = false) : Ev (fun m _ => if hasS [91] (toks (brW l) ++ r) = true then qd7 m [91] [93] (toks (brW l) ++ r) else .ok [] (toks (brW l) ++ r)) (.ok l r) := by
 by_cases h0 : l.length = 0
 ·have : l = [] := List.eq_nil_of_length_eq_zero h0
  subst this
  have hbr : brW [] = [] := rfl
  rw [hbr,tw0]
  exact Ev.pure fun _ _ => by rw [hr]; rfl
 ·have hbr : brW l = [[91]] ++ qb8 l [44] ++ [[93]] := by unfold brW; rw [if_neg h0]
  rw [hbr]; simp only [twa,tw1,tw0]
  have hs := qoi 1 [44] rfl l (by intro e; rw [e] at h0; exact h0 rfl) (fun c hx => qer (h c hx)) (tokW [93] :: r) rfl
  refine Ev.congr (g := fun m n => (qe6 1 [44] m (toks (qb8 l [44]) ++ tokW [93] :: r)).bind fun l ts => qau [93] ts fun ts => .ok l ts) (fun m n => rfl) ?_
  exact Ev.bind (k := fun _ _ l ts => qau [93] ts fun ts => .ok l ts) hs (Ev.pure fun _ _ => rfl)
def qs3 (n : PNode) : List Str := [n.name] ++ (brW n.funs ++ (qdd n.ins ++ ([[61]] ++ (qdd n.outs ++ ([[119,104,101,114,101]] ++ (n.items.flatMap qd0 ++ [[101,110,100]]))))))
theorem nodeW_eq (n : PNode) : qe9 n = [110,111,100,101] :: qs3 n := by unfold qe9 qs3; simp
theorem node_back {x : PNode} (h : que x) (r : List PTok) : Ev (fun _ n => qn8 n (pE n) (toks (qs3 x) ++ r)) (.ok x r) := by
 unfold qs3
 simp only [twa,tw1,tw0]
 rw [qer h.n]
 obtain ⟨R4,hR4⟩ : ∃ t,t = toks (x.items.flatMap qd0) ++ tokW [101,110,100] :: r := ⟨_,rfl⟩
 obtain ⟨R3,hR3⟩ : ∃ t,t = toks (qdd x.outs) ++ tokW [119,104,101,114,101] :: R4 := ⟨_,rfl⟩
 obtain ⟨R2,hR2⟩ : ∃ t,t = toks (qdd x.ins) ++ tokW [61] :: R3 := ⟨_,rfl⟩
 have hR2' : hasS [91] R2 = false := by rw [hR2]; rfl
 rw [← hR4,← hR3,← hR2]
 refine Ev.congr (g := fun _ n => (if hasS [91] (toks (brW x.funs) ++ R2) = true then qd7 n [91] [93] (toks (brW x.funs) ++ R2) else .ok [] (toks (brW x.funs) ++ R2)).bind fun f ts => (qd7 n [40] [41] ts).bind fun i ts => qau [61] ts fun ts => (qd7 n [40] [41] ts).bind fun u ts =>
  qau [119,104,101,114,101] ts fun ts => (qdc (pE n) n n ts).bind fun l ts => qau [101,110,100] ts fun ts => .ok (PNode.mk x.name f i u l) ts) (fun m n => rfl) ?_
 refine Ev.bind (k := fun _ n f ts => (qd7 n [40] [41] ts).bind fun i ts => qau [61] ts fun ts => (qd7 n [40] [41] ts).bind fun u ts =>
  qau [119,104,101,114,101] ts fun ts => (qdc (pE n) n n ts).bind fun l ts => qau [101,110,100] ts fun ts => .ok (PNode.mk x.name f i u l) ts) (Ev.diag (funs_back h.f R2 hR2')) ?_
 rw [hR2]
 refine Ev.bind (k := fun _ n i ts => qau [61] ts fun ts => (qd7 n [40] [41] ts).bind fun u ts =>
  qau [119,104,101,114,101] ts fun ts => (qdc (pE n) n n ts).bind fun l ts => qau [101,110,100] ts fun ts => .ok (PNode.mk x.name x.funs i u l) ts) (Ev.diag (qrf h.i _)) ?_
 refine Ev.congr (g := fun _ n => (qd7 n [40] [41] R3).bind fun u ts =>
  qau [119,104,101,114,101] ts fun ts => (qdc (pE n) n n ts).bind fun l ts => qau [101,110,100] ts fun ts => .ok (PNode.mk x.name x.funs x.ins u l) ts) (fun m n => rfl) ?_
 rw [hR3]
 refine Ev.bind (k := fun _ n u ts => qau [119,104,101,114,101] ts fun ts => (qdc (pE n) n n ts).bind fun l ts => qau [101,110,100] ts fun ts => .ok (PNode.mk x.name x.funs x.ins u l) ts) (Ev.diag (qrf h.u _)) ?_
 refine Ev.congr (g := fun _ n => (qdc (pE n) n n R4).bind fun l ts => qau [101,110,100] ts fun ts => .ok (PNode.mk x.name x.funs x.ins x.outs l) ts) (fun m n => rfl) ?_
 rw [hR4]
 exact Ev.bind (k := fun _ n l ts => qau [101,110,100] ts fun ts => .ok (PNode.mk x.name x.funs x.ins x.outs l) ts) (Ev.diag (qxj x.items h.t (tokW [101,110,100] :: r) rfl rfl)) (Ev.pure fun _ _ => rfl)
structure GoodT (x : PEnum) : Prop where
 n : qch x.name = true
 c : CnL x.cons
def qs4 (t : PEnum) : List Str := [t.name,[61]] ++ qb8 t.cons [124] ++ [[59]]
theorem enumW_eq (t : PEnum) : qfj t = [116,121,112,101] :: qs4 t := by unfold qfj qs4; rfl
theorem enum_back {x : PEnum} (h : GoodT x) (r : List PTok) : Ev (fun m _ => qn9 m (toks (qs4 x) ++ r)) (.ok x r) := by
 unfold qs4
 simp only [twa,tw1,tw0]
 rw [qer h.n]
 have hs := qoi 2 [124] rfl x.cons h.c.1 (fun c hx => qjz (h.c.2 c hx)) (tokW [59] :: r) rfl
 refine Ev.congr (g := fun m n => (qe6 2 [124] m (toks (qb8 x.cons [124]) ++ tokW [59] :: r)).bind fun l ts => qau [59] ts fun ts => .ok (PEnum.mk x.name l) ts) (fun m n => rfl) ?_
 exact Ev.bind (k := fun _ _ l ts => qau [59] ts fun ts => .ok (PEnum.mk x.name l) ts) hs (Ev.pure fun _ _ => rfl)
structure GoodP (p : PProg) : Prop where
 t : ∀ x ∈ p.enums,GoodT x
 n : ∀ x ∈ p.nodes,que x
def tEnd : PTok := ⟨6,[],0,0,0⟩
theorem qxk : ∀ (l : List PNode),(∀ x ∈ l,que x) → Ev (fun m n => qgy (pE n) n m (toks (l.flatMap qe9) ++ [tEnd])) (.ok ⟨[],l⟩ [tEnd])
 | [],_ => Ev.succ (g := fun _ _ => .ok ⟨[],[]⟩ [tEnd]) (fun m n => rfl) (Ev.pure fun _ _ => rfl)
 | x :: l,h => by
  rw [List.flatMap_cons,twa,nodeW_eq,tw1]
  refine Ev.succ (g := fun m n => (qn8 n (pE n) (toks (qs3 x) ++ (toks (l.flatMap qe9) ++ [tEnd]))).bind fun x ts => (qgy (pE n) n m ts).bind fun p ts => .ok (PProg.mk p.enums (x :: p.nodes)) ts) (fun m n => rfl) ?_
  refine Ev.bind (k := fun m n x ts => (qgy (pE n) n m ts).bind fun p ts => .ok (PProg.mk p.enums (x :: p.nodes)) ts) (node_back (h x (by simp)) _) ?_
  exact Ev.bind (k := fun m n p ts => .ok (PProg.mk p.enums (x :: p.nodes)) ts) (qxk l (fun y hy => h y (by simp [hy]))) (Ev.pure fun _ _ => rfl)
theorem qxl : ∀ (l : List PEnum) (q : List PNode),(∀ x ∈ l,GoodT x) → (∀ x ∈ q,que x) → Ev (fun m n => qgy (pE n) n m (toks (l.flatMap qfj) ++ (toks (q.flatMap qe9) ++ [tEnd]))) (.ok ⟨l,q⟩ [tEnd])
 | [],q,_,hq => qxk q hq
 | x :: l,q,h,hq => by
  rw [List.flatMap_cons,twa,enumW_eq,tw1]
  refine Ev.succ (g := fun m n => (qn9 n (toks (qs4 x) ++ (toks (l.flatMap qfj) ++ (toks (q.flatMap qe9) ++ [tEnd])))).bind fun t ts => (qgy (pE n) n m ts).bind fun p ts => .ok (PProg.mk (t :: p.enums) p.nodes) ts) (fun m n => rfl) ?_
  refine Ev.bind (k := fun m n t ts => (qgy (pE n) n m ts).bind fun p ts => .ok (PProg.mk (t :: p.enums) p.nodes) ts) (Ev.diag (enum_back (h x (by simp)) _)) ?_
  exact Ev.bind (k := fun m n p ts => .ok (PProg.mk (x :: p.enums) p.nodes) ts) (qxl l q (fun y hy => h y (by simp [hy])) hq) (Ev.pure fun _ _ => rfl)
theorem prog_back {p : PProg} (h : GoodP p) : Ev (fun m n => qgy (pE n) n m (toks (qdo p) ++ [tEnd])) (.ok p [tEnd]) := by
 unfold qdo
 rw [twa]
 exact qxl p.enums p.nodes h.t h.n
end Go.Ab
namespace Go.Ab
open Go Go.Ab.Tab
theorem qvr (a b : Int) : imax a b = max a b := by unfold imax; omega
theorem depth_nd (e : PExpr) : nd e ≤ qac → e.depth = (nd e : Int) := by
 induction e using PExpr.induct with
 | h op name n cons ks ih =>
  intro h
  simp only [nd] at h ⊢
  have key : ∀ (l : List PExpr) (a : Nat),(∀ k ∈ l,k ∈ ks) → qlp l (a : Int) = ((max a (ndL l) : Nat) : Int) := by
   intro l
   induction l with
   | nil => intro a _; simp only [qlp,ndL]; omega
   | cons x r ihl =>
    intro a hm
    have hx : nd x ≤ qac := by have := nd_le (hm x (by simp)); omega
    have e1 := ih x (hm x (by simp)) hx
    simp only [qlp,ndL,e1,qvr]
    have : max (a : Int) (nd x : Int) = ((max a (nd x) : Nat) : Int) := by omega
    rw [this,ihl (max a (nd x)) (fun k hk => hm k (by simp [hk]))]
    omega
  have := key ks 0 (fun k hk => hk)
  simp only [PExpr.depth]
  have h0 : ((0 : Nat) : Int) = 0 := rfl
  rw [h0] at this
  rw [this]
  unfold wadd
  have hl : ndL ks ≤ qac := by omega
  have hm : max 0 (ndL ks) = ndL ks := by omega
  rw [hm,qas hl]
theorem nd_bulk (e : PExpr) : nd e ≤ e.bulk := by
 induction e using PExpr.induct with
 | h op name n cons ks ih =>
  simp only [nd,PExpr.bulk]
  have : ndL ks ≤ PExpr.bulkL ks := by
   clear name n cons op
   induction ks with
   | nil => simp [ndL]
   | cons x r ihl =>
    have h1 := ih x (by simp)
    have h2 := ihl (fun k hk => ih k (by simp [hk]))
    simp only [ndL,PExpr.bulkL]; omega
  omega
theorem accE_mono (p : Int × Int) (l : List PExpr) : p.2 ≤ (accE p l).2 := by
 induction l generalizing p with
 | nil => exact Int.le_refl _
 | cons x r ih =>
  rw [qg8]
  have := ih (wadd p.1 x.size,imax p.2 x.depth)
  have h2 : p.2 ≤ imax p.2 x.depth := by rw [qvr]; omega
  exact Int.le_trans h2 this
theorem accE_mem (p : Int × Int) (l : List PExpr) : ∀ x ∈ l,x.depth ≤ (accE p l).2 := by
 induction l generalizing p with
 | nil => intro x hx; cases hx
 | cons y r ih =>
  intro x hx
  rw [qg8]
  rcases List.mem_cons.1 hx with rfl | hx
  ·have := accE_mono (wadd p.1 x.size,imax p.2 x.depth) r
   have h2 : x.depth ≤ imax p.2 x.depth := by rw [qvr]; omega
   exact Int.le_trans h2 this
  ·exact ih _ x hx
theorem qol {l : List Str} {a b : Int} (h : qie false l a b = true) : a ≤ l.length ∧ l.length ≤ b ∧ ∀ x ∈ l,qch x = true := by
 unfold qie at h
 simp only [Bool.and_eq_true,decide_eq_true_eq,Bool.not_eq_true',List.any_eq_false,Bool.not_eq_true,qfm] at h
 exact ⟨h.1.1,h.1.2,fun x hx => by simpa using h.2 x hx⟩
theorem consB_nm {l : List Str} {a b : Int} (h : qoj false l a b = true) : a ≤ l.length ∧ l.length ≤ b ∧ ∀ x ∈ l,qfe x = true := by
 unfold qoj at h
 simp only [Bool.and_eq_true,decide_eq_true_eq,Bool.not_eq_true',List.any_eq_false,Bool.not_eq_true,qiq] at h
 exact ⟨h.1.1,h.1.2,fun x hx => by simpa using h.2 x hx⟩
theorem qom {l : List Str} (h : (1 : Int) ≤ l.length) : l ≠ [] := by
 intro e; rw [e] at h; simp at h
theorem q2d {q : PEq} (h : eqB false q = true) (hr : q.Rng) (hd : nd q.e ≤ 50) : qok q := by
 unfold eqB at h
 rw [Bool.and_eq_true] at h
 obtain ⟨a,_,c⟩ := qol h.1
 exact ⟨⟨qom a,c⟩,good_of _ h.2,hr,hd⟩
theorem same_zero {e : PExpr} (h : e.same qua = true) : e = qjg := (same_iff e qua).1 h
theorem goodS_of {s : PState} (h : qp0 false s = true) (hr : s.Rng) (hd : ∀ e ∈ s.exprs,nd e ≤ 50) : qud s := by
 unfold qp0 at h
 simp only [Bool.and_eq_true,List.all_eq_true,qiq] at h
 obtain ⟨⟨⟨⟨h1,_⟩,_⟩,h4⟩,h5⟩ := h
 refine ⟨h1,fun q hq => q2d (h4 q hq) (hr.1 q hq) (hd _ ?_),fun w hw => ⟨(h5 w hw).1,good_of _ (h5 w hw).2,hr.2 w hw,hd _ ?_⟩⟩
 ·exact List.mem_append_left _ (List.mem_map_of_mem (f := fun x : PEq => x.e) hq)
 ·exact List.mem_append_right _ (List.mem_map_of_mem (f := fun x : PWay => x.cond) hw)
theorem goodI_of {x : PItem} (h : qub false x = true) (hr : x.Rng) (hd : ∀ e ∈ x.exprs,nd e ≤ 50) : GoodI x := by
 unfold qub at h
 by_cases hz : x.states = []
 ·rw [if_pos (by simp [hz])] at h
  refine ⟨fun _ => q2d h hr.1 (hd _ ?_),fun hne => absurd hz hne,fun s hs => ?_⟩
  ·unfold PItem.exprs; simp [hz]
  ·rw [hz] at hs; cases hs
 ·have hl : ¬ ((x.states.length : Int) == 0) = true := by
   simp only [beq_iff_eq]; intro e; exact hz (List.eq_nil_of_length_eq_zero (by omega))
  rw [if_neg hl] at h
  simp only [Bool.and_eq_true,Bool.not_eq_true',List.any_eq_false,beq_iff_eq] at h
  obtain ⟨⟨⟨h1,h2⟩,_⟩,h4⟩ := h
  refine ⟨fun he => absurd he hz,fun _ => ?_,fun s hs => goodS_of (by simpa using h4 s hs) (hr.2 s hs) (fun e he => hd e ?_)⟩
  ·have e1 : x.eq.names = [] := List.eq_nil_of_length_eq_zero (by omega)
   have e2 := same_zero h2
   cases hx : x.eq with
   | mk n e => rw [hx] at e1 e2; simp only at e1 e2; rw [e1,e2]
  ·exact List.mem_append_right _ (List.mem_flatMap.2 ⟨s,hs,he⟩)
theorem goodN_of {n : PNode} (h : quc false n = true) (hr : n.Rng) (hd : ∀ e ∈ n.exprs,nd e ≤ 50) : que n := by
 unfold quc at h
 simp only [Bool.and_eq_true,Bool.not_eq_true',List.any_eq_false,qfm] at h
 obtain ⟨⟨⟨⟨⟨h1,h2⟩,h3⟩,h4⟩,_⟩,h6⟩ := h
 obtain ⟨_,_,f⟩ := qol h2
 obtain ⟨i1,_,i⟩ := qol h3
 obtain ⟨o1,_,o⟩ := qol h4
 exact ⟨h1,f,⟨qom i1,i⟩,⟨qom o1,o⟩,fun x hx => goodI_of (by simpa using h6 x hx) (hr x hx) (fun e he => hd e (List.mem_flatMap.2 ⟨x,hx,he⟩))⟩
theorem qxm {p : PProg} (h : qfw false p = 0) : qmc false p = true ∧ ∀ n ∈ p.nodes,qlt n = false := by
 unfold qfw at h
 cases hq : qmc false p with
 | false => rw [hq] at h; simp at h
 | true =>
  rw [hq,if_pos rfl] at h
  refine ⟨rfl,fun n hn => ?_⟩
  cases hg : p.nodes.any qlt with
  | true => rw [hg,if_pos rfl] at h; cases h
  | false => simpa using (List.any_eq_false.1 hg) n hn
theorem expr_bulk {p : PProg} {n : PNode} (hn : n ∈ p.nodes) {e : PExpr} (he : e ∈ n.exprs) : e.bulk ≤ p.bulk := by
 have h1 : n.bulk ≤ p.bulk := by
  have := qd6 PNode.bulk p.nodes n hn
  unfold PProg.bulk; omega
 obtain ⟨x,hx,he⟩ := List.mem_flatMap.1 he
 have h2 : x.bulk ≤ n.bulk := by
  have := qd6 PItem.bulk n.items x hx
  unfold PNode.bulk; omega
 have h3 : e.bulk ≤ x.bulk := by
  rcases List.mem_append.1 he with he | he
  ·by_cases hz : x.states.length = 0
   ·rw [if_pos hz] at he
    obtain rfl := List.mem_singleton.1 he
    unfold PItem.bulk PEq.bulk; omega
   ·rw [if_neg hz] at he; cases he
  ·obtain ⟨s,hs,he⟩ := List.mem_flatMap.1 he
   have h4 : s.bulk ≤ x.bulk := by
    have := qd6 PState.bulk x.states s hs
    unfold PItem.bulk; omega
   have h5 : e.bulk ≤ s.bulk := by
    rcases List.mem_append.1 he with he | he
    ·obtain ⟨q,hq,rfl⟩ := List.mem_map.1 he
     have := qd6 PEq.bulk s.eqs q hq
     have h6 : q.e.bulk ≤ q.bulk := by unfold PEq.bulk; omega
     unfold PState.bulk; omega
    ·obtain ⟨w,hw,rfl⟩ := List.mem_map.1 he
     have := qd6 PWay.bulk s.ways w hw
     have h6 : w.cond.bulk ≤ w.bulk := by unfold PWay.bulk; omega
     unfold PState.bulk; omega
   omega
 omega
theorem goodP_of {p : PProg} (h : qfw false p = 0) (hr : p.Rng) (hb : p.bulk ≤ qac) : GoodP p := by
 obtain ⟨h1,h2⟩ := qxm h
 unfold qmc at h1
 simp only [Bool.and_eq_true,Bool.not_eq_true',List.any_eq_false,List.all_eq_true,qfm] at h1
 obtain ⟨⟨_,ht⟩,hn⟩ := h1
 refine ⟨fun t hx => ?_,fun n hx => goodN_of (by simpa using hn n hx) (hr.2 n hx) (fun e he => ?_)⟩
 ·obtain ⟨a,_,c⟩ := consB_nm (ht t hx).2
  exact ⟨(ht t hx).1,qom a,c⟩
 ·have hg := h2 n hx
  unfold qlt at hg
  simp only [Bool.or_eq_false_iff,decide_eq_false_iff_not] at hg
  have h3 := accE_mem (0,0) n.exprs e he
  have h4 := nd_bulk e
  have h5 := expr_bulk hx he
  have h6 := depth_nd e (by omega)
  omega
def quf : List Str := [[45,62],[60,61],[60,62],[40],[41],[91],[93],[60],[61],[44],[59],[58],[124],[43],[45],[42],[47],[37]]
inductive WOk : Str → Prop where
 | name {s : Str} : qch s = true → WOk s
 | con {s : Str} : qfe s = true → WOk s
 | word {s : Str} : s ∈ wordL → WOk s
 | sign {s : Str} : s ∈ quf → WOk s
 | int (n : Int) : 0 ≤ n → n ≤ 9223372036854775807 → WOk (decB n)
def Oks (l : List Str) : Prop := ∀ w ∈ l,WOk w
theorem qyh : Oks [] := fun w h => by cases h
theorem qcl {w : Str} {l : List Str} (h : WOk w) (k : Oks l) : Oks (w :: l) := fun x hx => by
 rcases List.mem_cons.1 hx with rfl | hx
 ·exact h
 ·exact k x hx
theorem qaz {a b : List Str} (h : Oks a) (k : Oks b) : Oks (a ++ b) := fun x hx => by
 rcases List.mem_append.1 hx with hx | hx
 ·exact h x hx
 ·exact k x hx
theorem qa6 {w : Str} (h : WOk w) : Oks [w] := qcl h qyh
theorem qyi {s : Str} (hs : WOk s) {L : List (List Str)} (h : ∀ x ∈ L,Oks x) : Oks (sepW s L) := by
 cases L with
 | nil => exact qyh
 | cons x r =>
  refine qaz (h x (by simp)) (fun w hw => ?_)
  obtain ⟨y,hy,hw⟩ := List.mem_flatMap.1 hw
  exact qcl hs (h y (by simp [hy])) w hw
theorem qrg {s : Str} (hs : WOk s) {l : List Str} (h : ∀ x ∈ l,WOk x) : Oks (qb8 l s) := by
 refine qyi hs (fun x hx => ?_)
 obtain ⟨y,hy,rfl⟩ := List.mem_map.1 hx
 exact qa6 (h y hy)
theorem oks_br {l : List Str} (h : ∀ x ∈ l,WOk x) : Oks (brW l) := by
 unfold brW
 split
 ·exact qyh
 ·exact qaz (qaz (qa6 (.sign (by decide))) (qrg (.sign (by decide)) h)) (qa6 (.sign (by decide)))
theorem unL_ok {s : Str} (h : s ∈ unL) : WOk s := by
 simp only [unL,List.mem_cons,List.not_mem_nil,or_false] at h
 rcases h with rfl | rfl
 ·exact .word (by decide)
 ·exact .sign (by decide)
theorem binL_ok {s : Str} (h : s ∈ binL) : WOk s := by
 simp only [binL,List.mem_cons,List.not_mem_nil,or_false] at h
 rcases h with rfl | rfl | rfl | rfl | rfl | rfl | rfl | rfl | rfl | rfl | rfl <;> first | exact .sign (by decide) | exact .word (by decide)
theorem qug {a b : List Str} {s : Str} (ha : Oks a) (hs : WOk s) (hb : Oks b) : Oks (btwW a s b) :=
 qaz (qaz (qaz (qaz (qa6 (.sign (by decide))) ha) (qa6 hs)) hb) (qa6 (.sign (by decide)))
theorem q2e {e : PExpr} (g : Good e) : e.Rng → Oks e.words := by
 induction g with
 | int n h => intro hr; rw [qaq]; exact qa6 (.int n h hr.n.2)
 | bool n h => intro hr; rw [qaq]; rcases h with rfl | rfl <;> exact qa6 (.word (by decide))
 | con s h => intro hr; rw [qaq]; exact qa6 (.con h)
 | var s h => intro hr; rw [qaq]; exact qa6 (.name h)
 | un s k h g ih =>
  intro hr; rw [qaq]
  exact qaz (qaz (qcl (.sign (by decide)) (qa6 (unL_ok h))) (ih (hr.kids k (by simp [eUn,PExpr.kids])))) (qa6 (.sign (by decide)))
 | bin s a b h ga gb iha ihb =>
  intro hr; rw [qaq]
  exact qug (iha (hr.kids a (by simp [eBin,PExpr.kids]))) (binL_ok h) (ihb (hr.kids b (by simp [eBin,PExpr.kids])))
 | cond a b c ga gb gc iha ihb ihc =>
  intro hr; rw [qaq]
  exact qaz (qaz (qaz (qaz (qaz (qaz (qcl (.sign (by decide)) (qa6 (.word (by decide)))) (iha (hr.kids a (by simp [eIf,PExpr.kids])))) (qa6 (.word (by decide)))) (ihb (hr.kids b (by simp [eIf,PExpr.kids])))) (qa6 (.word (by decide)))) (ihc (hr.kids c (by simp [eIf,PExpr.kids])))) (qa6 (.sign (by decide)))
 | fby a b ga gb iha ihb =>
  intro hr; rw [qaq]
  exact qug (iha (hr.kids a (by simp [eFby,PExpr.kids]))) (.word (by decide)) (ihb (hr.kids b (by simp [eFby,PExpr.kids])))
 | pre k g ih =>
  intro hr; rw [qaq]
  exact qaz (qaz (qcl (.sign (by decide)) (qa6 (.word (by decide)))) (ih (hr.kids k (by simp [ePre,PExpr.kids])))) (qa6 (.sign (by decide)))
 | arrow a b ga gb iha ihb =>
  intro hr; rw [qaq]
  exact qug (iha (hr.kids a (by simp [qgk,PExpr.kids]))) (.sign (by decide)) (ihb (hr.kids b (by simp [qgk,PExpr.kids])))
 | when x c k hx hc g ih =>
  intro hr; rw [qaq]
  exact qaz (qaz (qaz (qaz (qa6 (.sign (by decide))) (ih (hr.kids k (by simp [qje,PExpr.kids])))) (qa6 (.word (by decide)))) (qrg (.sign (by decide)) (fun y hy => by obtain rfl := List.mem_singleton.1 hy; exact .con hc))) (qcl (.sign (by decide)) (qcl (.name hx) (qcl (.sign (by decide)) (qa6 (.sign (by decide))))))
 | arms op x cons kids hop hx hl h1 h2 hc hk ih =>
  intro hr; rw [qaq]
  have key : Oks (sepW [124] (armL cons (kids.map PExpr.words))) := by
   refine qyi (.sign (by decide)) (fun z hz => ?_)
   unfold armL at hz
   obtain ⟨i,hi,rfl⟩ := List.getElem_of_mem hz
   simp only [List.getElem_zipWith,List.getElem_map]
   exact qaz (qcl (.con (hc _ (List.getElem_mem _))) (qa6 (.sign (by decide)))) (ih _ (List.getElem_mem _) (hr.kids _ (List.getElem_mem _)))
  rcases hop with rfl | rfl
  ·exact qaz (qaz (qcl (.word (by decide)) (qcl (.name hx) (qa6 (.sign (by decide))))) key) (qa6 (.sign (by decide)))
  ·exact qaz (qaz (qcl (.word (by decide)) (qcl (.name hx) (qa6 (.sign (by decide))))) key) (qa6 (.sign (by decide)))
 | call x cons kids hx h2 hc h3 h4 hk ih =>
  intro hr; rw [qaq]
  exact qaz (qaz (qaz (qaz (qa6 (.name hx)) (oks_br (fun c h => .name (hc c h)))) (qa6 (.sign (by decide)))) (qyi (.sign (by decide)) (fun z hz => by
   obtain ⟨k,hk',rfl⟩ := List.mem_map.1 hz
   exact ih k hk' (hr.kids k hk')))) (qa6 (.sign (by decide)))
 | every a b hop ga gb iha ihb =>
  intro hr; rw [qaq]
  exact qug (iha (hr.kids a (by simp [qe3,PExpr.kids]))) (.word (by decide)) (ihb (hr.kids b (by simp [qe3,PExpr.kids])))
theorem qs5 {l : List Str} (h : NmL l) : Oks (qdd l) :=
 qaz (qaz (qa6 (.sign (by decide))) (qrg (.sign (by decide)) (fun x hx => .name (h.2 x hx)))) (qa6 (.sign (by decide)))
theorem oks_eq {q : PEq} (h : qok q) : Oks (eqW q) := by
 have hh : Oks (qhk q.names) := by
  have hn := h.n
  unfold qhk
  split
  ·rename_i x hx; exact qa6 (.name (hn.2 x (by rw [hx]; simp)))
  ·exact qs5 hn
 exact qaz (qaz (qaz hh (qa6 (.sign (by decide)))) (q2e h.e.g h.e.r)) (qa6 (.sign (by decide)))
theorem qkx {α : Type} {f : α → List Str} {l : List α} (h : ∀ x ∈ l,Oks (f x)) : Oks (l.flatMap f) := fun w hw => by
 obtain ⟨x,hx,hw⟩ := List.mem_flatMap.1 hw
 exact h x hx w hw
theorem oks_state {s : PState} (h : qud s) : Oks (qcs s) :=
 qaz (qaz (qcl (.word (by decide)) (qcl (.con h.n) (qa6 (.sign (by decide))))) (qkx fun q hq => oks_eq (h.q q hq)))
  (qkx fun w hw => qaz (qaz (qa6 (.word (by decide))) (q2e (h.w w hw).e.g (h.w w hw).e.r)) (qcl (.word (by decide)) (qcl (.con (h.w w hw).t) (qa6 (.sign (by decide))))))
theorem oks_item {x : PItem} (h : GoodI x) : Oks (qd0 x) := by
 unfold qd0
 split
 ·rename_i hz; exact oks_eq (h.q (List.eq_nil_of_length_eq_zero hz))
 ·exact qaz (qaz (qa6 (.word (by decide))) (qkx fun s hs => oks_state (h.s s hs))) (qcl (.word (by decide)) (qa6 (.sign (by decide))))
theorem oks_node {x : PNode} (h : que x) : Oks (qe9 x) :=
 qaz (qaz (qaz (qaz (qaz (qaz (qaz (qcl (.word (by decide)) (qa6 (.name h.n))) (oks_br fun s hs => .name (h.f s hs))) (qs5 h.i)) (qa6 (.sign (by decide)))) (qs5 h.u)) (qa6 (.word (by decide)))) (qkx fun y hy => oks_item (h.t y hy))) (qa6 (.word (by decide)))
theorem oks_enum {x : PEnum} (h : GoodT x) : Oks (qfj x) :=
 qaz (qaz (qcl (.word (by decide)) (qcl (.name h.n) (qa6 (.sign (by decide))))) (qrg (.sign (by decide)) fun c hc => .con (h.c.2 c hc))) (qa6 (.sign (by decide)))
theorem oks_prog {p : PProg} (h : GoodP p) : Oks (qdo p) := qaz (qkx fun x hx => oks_enum (h.t x hx)) (qkx fun x hx => oks_node (h.n x hx))
def noB (w : Str) : Prop := w ≠ [] ∧ ∀ c ∈ w,c ≠ 32
theorem qyj {w : Str} (h : WOk w) : noB w := by
 cases h with
 | name h =>
  simp only [qch,Bool.and_eq_true] at h
  obtain ⟨c,r,rfl,_,_,hs⟩ := qfl h.1
  exact ⟨by simp,qpz _ hs⟩
 | con h =>
  obtain ⟨c,r,rfl,_,_,hs⟩ := qfl h
  exact ⟨by simp,qpz _ hs⟩
 | word h => 
  have : ∀ x ∈ wordL,x ≠ [] ∧ ∀ c ∈ x,c ≠ 32 := by decide
  exact this _ h
 | sign h =>
  have : ∀ x ∈ quf,x ≠ [] ∧ ∀ c ∈ x,c ≠ 32 := by decide
  exact this _ h
 | int n h0 h1 =>
  obtain ⟨a,_,c⟩ := qq8 h0 h1
  refine ⟨c,fun x hx e => ?_⟩
  subst e
  have := List.all_eq_true.1 a 32 hx
  revert this; decide
theorem node_ne (p : PProg) (h : qfw false p = 0) : qdo p ≠ [] := by
 obtain ⟨h1,_⟩ := qxm h
 unfold qmc at h1
 simp only [Bool.and_eq_true,Bool.not_eq_true',beq_eq_false_iff_ne,ne_eq] at h1
 obtain ⟨⟨⟨⟨_,h1⟩,_⟩,_⟩,_⟩ := h1
 cases hn : p.nodes with
 | nil => rw [hn] at h1; simp at h1
 | cons x l => unfold qdo; rw [hn]; simp [qe9]
end Go.Ab
