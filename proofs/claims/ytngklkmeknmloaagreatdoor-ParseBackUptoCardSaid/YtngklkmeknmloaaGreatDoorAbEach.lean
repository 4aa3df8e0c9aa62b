/- Which programs may be, and aren't too great. -/
import Derived.Test.YtngklkmeknmloaaGreatDoorAbBox
import Derived.Test.YtngklkmeknmloaaGreatDoorAbBox2
import Derived.Test.YtngklkmeknmloaaGreatDoorAbReadT
set_option linter.unusedSimpArgs false
set_option linter.unusedVariables false
set_option maxRecDepth 100000
set_option maxHeartbeats 4000000
open Go.Proofs
namespace Go.Ab
open Go Go.Ab.Tab
theorem PItem.get_names (x : PItem) : x.cells[0]? = some (qaf x.eq.names) := by unfold PItem.cells PEq.cells; rfl
theorem PItem.sub_e (x : PItem) : List.take 5 (List.drop 1 x.cells) = x.eq.e.cells := by
 unfold PItem.cells PEq.cells; exact x.eq.e.takeA _
theorem qrc (n : Nat) (h : qaa) (b : Nat) (k : IntKind) (z : Int) (hb : h[b]? = some (.box [.int k z])) : qh0 n h b := ⟨_,hb,fun mv => by
 unfold qgm; rw [hb]; rfl⟩
theorem stay2 {h : qaa} (h0 : qh0 2 h 0) (h1 : qh0 2 h 1) : ∀ b,b < 2 → qh0 2 h b := fun b hb => by
 rcases b with _ | _ | b
 ·exact h0
 ·exact h1
 ·omega
theorem right1_c (x : PExpr) (hx : x.Small) (a b : Int) : qbg C 82 [.agg x.cells,.ptr 0 0,.ptr 1 0] [.box [.int .i64 a],.box [.int .i64 b]] (.tuple []) [.box [.int .i64 (wadd a x.size)],.box [.int .i64 (imax b x.depth)]] := by
 have c17 := size_c x hx
 have c18 := depth_c x hx
 refine qa1 rfl Tryz.func82 rfl (by kernel_rfl) (m := 9) rfl ?_; simp only [Z3,Nat.reduceAdd,Nat.reduceBEq,Int.reduceBEq,Int.reduceBNe,Int.reduceLT,Int.reduceLE,Tryz.f82,fx_82,c17 _,c18 _]
 exact qcj (.inr rfl) rfl rfl rfl (stay2 (qrc _ _ _ _ _ rfl) (qrc _ _ _ _ _ rfl)) rfl
def PState.exprs (s : PState) : List PExpr := s.eqs.map (·.e) ++ s.ways.map (·.cond)
def PItem.exprs (x : PItem) : List PExpr := (if x.states.length = 0 then [x.eq.e] else []) ++ x.states.flatMap PState.exprs
def PNode.exprs (n : PNode) : List PExpr := n.items.flatMap PItem.exprs
def accE (p : Int × Int) (l : List PExpr) : Int × Int := l.foldl (fun p x => (wadd p.1 x.size,imax p.2 x.depth)) p
theorem qhl (p : Int × Int) : accE p [] = p := rfl
theorem qg8 (p : Int × Int) (x : PExpr) (l : List PExpr) : accE p (x :: l) = accE (wadd p.1 x.size,imax p.2 x.depth) l := rfl
theorem qrd (p : Int × Int) (l m : List PExpr) : accE p (l ++ m) = accE (accE p l) m := by simp [accE,List.foldl_append]
abbrev twoI (p : Int × Int) : qaa := [.box [.int .i64 p.1],.box [.int .i64 p.2]]
theorem each_c (n : PNode) (hn : n.Small) (p : Int × Int) : qbg C 81 [.agg n.cells,.func 82 [] [.ptr 0 0,.ptr 1 0]] (twoI p) (.tuple []) (twoI (accE p n.exprs)) := by
 have hdo : ∀ (x : PExpr),x.Small → ∀ (p : Int × Int) (H : qaa),qm5 C (.box [.int .i64 p.1] :: .box [.int .i64 p.2] :: H) 82 [.agg x.cells,.ptr 0 0,.ptr 1 0] (.tuple []) (.box [.int .i64 (wadd p.1 x.size)] :: .box [.int .i64 (imax p.2 x.depth)] :: H) := by
  intro x hx p H
  have := qy9 qaj (H := .box [.int .i64 p.1] :: .box [.int .i64 p.2] :: H) (f := 82) (args := [.agg x.cells,.ptr 0 0,.ptr 1 0]) (b1 := 0) (b2 := 1) (by simp [qad,refs,x.norefs]) (by decide) rfl rfl rfl rfl rfl rfl (by
   have e : renL (fun x => [0,1].idxOf x) [.agg x.cells,.ptr 0 0,.ptr 1 0] = [.agg x.cells,.ptr 0 0,.ptr 1 0] := by
    simp only [renL,ren,qb6 x.norefs]; rfl
   rw [e]
   exact right1_c x hx p.1 p.2) rfl
  exact this
 refine qa1 rfl Tryz.func81 rfl (by kernel_rfl) (m := 59) rfl ?_; simp only [Z3,Nat.reduceAdd,Nat.reduceBEq,Int.reduceBEq,Int.reduceBNe,Int.reduceLT,Int.reduceLE,Tryz.f81,qec,ty]
 generalize hb : qan PP cmp0 C lpC _ = f; generalize hl : lpC f _ = r
 obtain ⟨ex,s,rfl,rfl,h2⟩ := qfo (α := Nat × Int × Int) hl [5,7,9,11,16,17,18,19,20,21,22,23,24,25,26,27,28,29,30,31,32,33,34,35,36,37,38,39,40,41,42,43,44,45,46,47,48,49,50,51,52,53,54,55,56,57,58,59,60] (fun a => [(15,.int .i64 a.1)]) (fun a => .box [.int .i64 a.2.1] :: .box [.int .i64 a.2.2] :: [.box n.cells]) (fun a => a.1 ≤ n.items.length) (fun a => n.items.length - a.1) (fun a => accE a.2 ((n.items.drop a.1).flatMap PItem.exprs))
  (fun ts r ex s => ex = .exit 0 ∧ At [5,7,9,11,15,16,17,18,19,20,21,22,23,24,25,26,27,28,29,30,31,32,33,34,35,36,37,38,39,40,41,42,43,44,45,46,47,48,49,50,51,52,53,54,55,56,57,58,59,60] ts (.box [.int .i64 r.1] :: .box [.int .i64 r.2] :: [.box n.cells]) [] s) (0,p) (Nat.zero_le _) (At.of [] (by simp only [ats,Int.natCast_zero]) (by simp only [List.append_nil])) (by
   rintro ⟨i,p⟩ j H d hi
   clear hl; subst hb
   simp only at hi
   by_cases hlt : i < n.items.length
   ·have e1 : ((i : Int) < (n.items.length : Int)) := by omega
    obtain ⟨x,hx⟩ : ∃ yy,yy = n.items[i] := ⟨_,rfl⟩
    have e3 : (n.items.map PItem.cells)[i]? = some (PItem.cells x) := by simp [hlt,hx]
    have hm : x ∈ n.items := by rw [hx]; exact List.getElem_mem hlt
    have hl0 := hn.2.2.2.2.1
    have hxs := hn.2.2.2.2.2 x hm
    obtain ⟨E0,hE0⟩ := Classical.skolem.1 (hdo x.eq.e hxs.1.2 p)
    simp only [Z3,Nat.reduceAdd,Nat.reduceBEq,Int.reduceBEq,Int.reduceBNe,Int.reduceLT,Int.reduceLE,effs,qec,ty,e1,e3]
    cases hz : ((x.states.length : Int) == 0)
    ·have hz' : ¬ x.states.length = 0 := fun h => by simp [h] at hz
     simp only [Z3,Nat.reduceAdd,Nat.reduceBEq,Int.reduceBEq,Int.reduceBNe,Int.reduceLT,Int.reduceLE,effs,qec,ty,hz]
     generalize hba : qan PP cmp0 C lpC _ = fa; generalize hla : lpC fa _ = ra
     obtain ⟨exa,sa,rfl,rfl,h2a⟩ := qfo (α := Nat × Int × Int) hla [7,9,11,32,33,34,35,36,37,38,39,40,41,42,43,44,45,46,47,48,49,50,51,52,53,54,55,56,57,58,59] (fun a => [(31,.int .i64 a.1)]) (fun a => .box [.int .i64 a.2.1] :: .box [.int .i64 a.2.2] :: .box n.cells :: (H ++ [.box x.cells])) (fun a => a.1 ≤ x.states.length) (fun a => x.states.length - a.1) (fun a => accE a.2 ((x.states.drop a.1).flatMap PState.exprs))
      (fun ts r ex s => ex = .exit 2 ∧ At [7,9,11,31,32,33,34,35,36,37,38,39,40,41,42,43,44,45,46,47,48,49,50,51,52,53,54,55,56,57,58,59] ts (.box [.int .i64 r.1] :: .box [.int .i64 r.2] :: .box n.cells :: (H ++ [.box x.cells])) [] s) (0,p) (Nat.zero_le _) (At.of [] (by simp only [ats,Int.natCast_zero]) (by simp only [List.append_nil])) (by
       rintro ⟨ia,pa⟩ ja Ha da hia
       clear hla; subst hba
       simp only at hia
       by_cases hlta : ia < x.states.length
       ·have e1a : ((ia : Int) < (x.states.length : Int)) := by omega
        obtain ⟨xa,hxa⟩ : ∃ yy,yy = x.states[ia] := ⟨_,rfl⟩
        have e3a : (x.states.map PState.cells)[ia]? = some (PState.cells xa) := by simp [hlta,hxa]
        have hma : xa ∈ x.states := by rw [hxa]; exact List.getElem_mem hlta
        have hsa := hxs.2.2 xa hma
        have hl1 := hxs.2.1
        have hl2 := hsa.2.1
        have hl3 := hsa.2.2.2.1
        simp only [Z3,Nat.reduceAdd,Nat.reduceBEq,Int.reduceBEq,Int.reduceBNe,Int.reduceLT,Int.reduceLE,effs,qec,ty,e1a,e3a]
        generalize hbb : qan PP cmp0 C lpC _ = fb; generalize hlb : lpC fb _ = rb
        obtain ⟨exb,sb,rfl,rfl,h2b⟩ := qfo (α := Nat × Int × Int) hlb [9,39,40,41,42,43,44,45,46] (fun a => [(38,.int .i64 a.1)]) (fun a => .box [.int .i64 a.2.1] :: .box [.int .i64 a.2.2] :: .box n.cells :: (H ++ .box x.cells :: (Ha ++ [.box xa.cells]))) (fun a => a.1 ≤ xa.eqs.length) (fun a => xa.eqs.length - a.1) (fun a => accE a.2 ((xa.eqs.drop a.1).map (·.e)))
         (fun ts r ex s => ex = .exit 4 ∧ At [9,38,39,40,41,42,43,44,45,46] ts (.box [.int .i64 r.1] :: .box [.int .i64 r.2] :: .box n.cells :: (H ++ .box x.cells :: (Ha ++ [.box xa.cells]))) [] s) (0,pa) (Nat.zero_le _) (At.of [] (by simp only [ats,Int.natCast_zero]) (by simp only [List.append_nil])) (by
          rintro ⟨ib,pb⟩ jb Hb db hib
          clear hlb; subst hbb
          simp only at hib
          by_cases hltb : ib < xa.eqs.length
          ·have e1b : ((ib : Int) < (xa.eqs.length : Int)) := by omega
           obtain ⟨xb,hxb⟩ : ∃ yy,yy = xa.eqs[ib] := ⟨_,rfl⟩
           have e3b : (xa.eqs.map PEq.cells)[ib]? = some (PEq.cells xb) := by simp [hltb,hxb]
           have hmb : xb ∈ xa.eqs := by rw [hxb]; exact List.getElem_mem hltb
           obtain ⟨Eb,hEb⟩ := Classical.skolem.1 (hdo xb.e ((fun (y : PEq) hy => (hsa.2.2.1 y hy).2) xb hmb) pb)
           simp only [Z3,Nat.reduceAdd,Nat.reduceBEq,Int.reduceBEq,Int.reduceBNe,Int.reduceLT,Int.reduceLE,effs,qec,ty,e1b,e3b,(hEb _).1,(hEb _).2,qas (show ib ≤ qac by omega)]
           exact .inl ⟨(ib + 1,wadd pb.1 xb.e.size,imax pb.2 xb.e.depth),_,rfl,hltb,At.of _ (by simp only [ats,Int.natCast_zero]) (by simp only [List.cons_append,List.append_assoc,List.nil_append]; rfl),by simp only []; omega,by simp only [List.drop_eq_getElem_cons hltb,List.map_cons,← hxb,qg8]⟩
          ·have e1b : ¬ ((ib : Int) < (xa.eqs.length : Int)) := by omega
           simp only [Z3,Nat.reduceAdd,Nat.reduceBEq,Int.reduceBEq,Int.reduceBNe,Int.reduceLT,Int.reduceLE,qec,e1b]
           refine .inr ⟨_,_,rfl,by simp,rfl,?_⟩
           simp only [List.drop_eq_nil_of_le (Nat.le_of_not_lt hltb),List.map_nil,List.flatMap_nil,qhl]
           exact At.of _ (by simp only [ats,Int.natCast_zero]) (by simp only [List.cons_append,List.append_assoc,List.nil_append]; rfl))
        obtain ⟨jb',Hb',db',rfl⟩ := h2b.elim
        clear hlb
        simp only [Z3,Nat.reduceAdd,Nat.reduceBEq,Int.reduceBEq,Int.reduceBNe,Int.reduceLT,Int.reduceLE,effs,qec,ty]
        generalize hbc : qan PP cmp0 C lpC _ = fc; generalize hlc : lpC fc _ = rc
        obtain ⟨exc,sc,rfl,rfl,h2c⟩ := qfo (α := Nat × Int × Int) hlc [11,51,52,53,54,55,56,57,58] (fun a => [(50,.int .i64 a.1)]) (fun a => .box [.int .i64 a.2.1] :: .box [.int .i64 a.2.2] :: .box n.cells :: (H ++ .box x.cells :: (Ha ++ .box xa.cells :: Hb'))) (fun a => a.1 ≤ xa.ways.length) (fun a => xa.ways.length - a.1) (fun a => accE a.2 ((xa.ways.drop a.1).map (·.cond)))
         (fun ts r ex s => ex = .exit 6 ∧ At [11,50,51,52,53,54,55,56,57,58] ts (.box [.int .i64 r.1] :: .box [.int .i64 r.2] :: .box n.cells :: (H ++ .box x.cells :: (Ha ++ .box xa.cells :: Hb'))) [] s) (0,(accE pa (xa.eqs.map (·.e)))) (Nat.zero_le _) (At.of [] (by simp only [ats,Int.natCast_zero]) (by simp only [List.append_nil])) (by
          rintro ⟨ic,pc⟩ jc Hc dc hic
          clear hlc; subst hbc
          simp only at hic
          by_cases hltc : ic < xa.ways.length
          ·have e1c : ((ic : Int) < (xa.ways.length : Int)) := by omega
           obtain ⟨xc,hxc⟩ : ∃ yy,yy = xa.ways[ic] := ⟨_,rfl⟩
           have e3c : (xa.ways.map PWay.cells)[ic]? = some (PWay.cells xc) := by simp [hltc,hxc]
           have hmc : xc ∈ xa.ways := by rw [hxc]; exact List.getElem_mem hltc
           obtain ⟨Ec,hEc⟩ := Classical.skolem.1 (hdo xc.cond ((fun (y : PWay) hy => (hsa.2.2.2.2 y hy).1) xc hmc) pc)
           simp only [Z3,Nat.reduceAdd,Nat.reduceBEq,Int.reduceBEq,Int.reduceBNe,Int.reduceLT,Int.reduceLE,effs,qec,ty,e1c,e3c,(hEc _).1,(hEc _).2,qas (show ic ≤ qac by omega)]
           exact .inl ⟨(ic + 1,wadd pc.1 xc.cond.size,imax pc.2 xc.cond.depth),_,rfl,hltc,At.of _ (by simp only [ats,Int.natCast_zero]) (by simp only [List.cons_append,List.append_assoc,List.nil_append]; rfl),by simp only []; omega,by simp only [List.drop_eq_getElem_cons hltc,List.map_cons,← hxc,qg8]⟩
          ·have e1c : ¬ ((ic : Int) < (xa.ways.length : Int)) := by omega
           simp only [Z3,Nat.reduceAdd,Nat.reduceBEq,Int.reduceBEq,Int.reduceBNe,Int.reduceLT,Int.reduceLE,qec,e1c]
           refine .inr ⟨_,_,rfl,by simp,rfl,?_⟩
           simp only [List.drop_eq_nil_of_le (Nat.le_of_not_lt hltc),List.map_nil,List.flatMap_nil,qhl]
           exact At.of _ (by simp only [ats,Int.natCast_zero]) (by simp only [List.cons_append,List.append_assoc,List.nil_append]; rfl))
        obtain ⟨jc',Hc',dc',rfl⟩ := h2c.elim
        clear hlc
        simp only [Z3,Nat.reduceAdd,Nat.reduceBEq,Int.reduceBEq,Int.reduceBNe,Int.reduceLT,Int.reduceLE,qec,ty,qas (show ia ≤ qac by omega)]
        exact .inl ⟨(ia + 1,(accE (accE pa (xa.eqs.map (·.e))) (xa.ways.map (·.cond)))),_,rfl,hlta,At.of _ (by simp only [ats,Int.natCast_zero]) (by simp only [List.cons_append,List.append_assoc,List.nil_append]; rfl),by simp only []; omega,by simp only [List.drop_eq_getElem_cons hlta,List.flatMap_cons,← hxa,PState.exprs,qrd,List.drop_zero]⟩
       ·have e1a : ¬ ((ia : Int) < (x.states.length : Int)) := by omega
        simp only [Z3,Nat.reduceAdd,Nat.reduceBEq,Int.reduceBEq,Int.reduceBNe,Int.reduceLT,Int.reduceLE,qec,e1a]
        refine .inr ⟨_,_,rfl,by simp,rfl,?_⟩
        simp only [List.drop_eq_nil_of_le (Nat.le_of_not_lt hlta),List.map_nil,List.flatMap_nil,qhl]
        exact At.of _ (by simp only [ats,Int.natCast_zero]) (by simp only [List.cons_append,List.append_assoc,List.nil_append]; rfl))
     obtain ⟨ja',Ha',da',rfl⟩ := h2a.elim
     clear hla
     simp only [Z3,Nat.reduceAdd,Nat.reduceBEq,Int.reduceBEq,Int.reduceBNe,Int.reduceLT,Int.reduceLE,effs,qec,ty,qas (show i ≤ qac by omega)]
     exact .inl ⟨(i + 1,(accE p (x.states.flatMap PState.exprs))),_,rfl,hlt,At.of _ (by simp only [ats,Int.natCast_zero]) (by simp only [List.cons_append,List.append_assoc,List.nil_append]; rfl),by simp only []; omega,by simp only [List.drop_eq_getElem_cons hlt,List.flatMap_cons,← hx,PItem.exprs,if_neg hz',qrd,qg8,qhl,List.drop_zero,List.nil_append,List.singleton_append]⟩
    ·have hz' : x.states.length = 0 := by simpa using hz
     simp only [Z3,Nat.reduceAdd,Nat.reduceBEq,Int.reduceBEq,Int.reduceBNe,Int.reduceLT,Int.reduceLE,effs,qec,ty,hz,PItem.sub_e,(hE0 _).1,(hE0 _).2]
     generalize hba : qan PP cmp0 C lpC _ = fa; generalize hla : lpC fa _ = ra
     obtain ⟨exa,sa,rfl,rfl,h2a⟩ := qfo (α := Nat × Int × Int) hla [7,9,11,32,33,34,35,36,37,38,39,40,41,42,43,44,45,46,47,48,49,50,51,52,53,54,55,56,57,58,59] (fun a => [(31,.int .i64 a.1)]) (fun a => .box [.int .i64 a.2.1] :: .box [.int .i64 a.2.2] :: .box n.cells :: (H ++ [.box x.cells])) (fun a => a.1 ≤ x.states.length) (fun a => x.states.length - a.1) (fun a => accE a.2 ((x.states.drop a.1).flatMap PState.exprs))
      (fun ts r ex s => ex = .exit 2 ∧ At [7,9,11,31,32,33,34,35,36,37,38,39,40,41,42,43,44,45,46,47,48,49,50,51,52,53,54,55,56,57,58,59] ts (.box [.int .i64 r.1] :: .box [.int .i64 r.2] :: .box n.cells :: (H ++ [.box x.cells])) [] s) (0,(wadd p.1 x.eq.e.size,imax p.2 x.eq.e.depth)) (Nat.zero_le _) (At.of [] (by simp only [ats,Int.natCast_zero]) (by simp only [List.append_nil])) (by
       rintro ⟨ia,pa⟩ ja Ha da hia
       clear hla; subst hba
       simp only at hia
       by_cases hlta : ia < x.states.length
       ·have e1a : ((ia : Int) < (x.states.length : Int)) := by omega
        obtain ⟨xa,hxa⟩ : ∃ yy,yy = x.states[ia] := ⟨_,rfl⟩
        have e3a : (x.states.map PState.cells)[ia]? = some (PState.cells xa) := by simp [hlta,hxa]
        have hma : xa ∈ x.states := by rw [hxa]; exact List.getElem_mem hlta
        have hsa := hxs.2.2 xa hma
        have hl1 := hxs.2.1
        have hl2 := hsa.2.1
        have hl3 := hsa.2.2.2.1
        simp only [Z3,Nat.reduceAdd,Nat.reduceBEq,Int.reduceBEq,Int.reduceBNe,Int.reduceLT,Int.reduceLE,effs,qec,ty,e1a,e3a]
        generalize hbb : qan PP cmp0 C lpC _ = fb; generalize hlb : lpC fb _ = rb
        obtain ⟨exb,sb,rfl,rfl,h2b⟩ := qfo (α := Nat × Int × Int) hlb [9,39,40,41,42,43,44,45,46] (fun a => [(38,.int .i64 a.1)]) (fun a => .box [.int .i64 a.2.1] :: .box [.int .i64 a.2.2] :: .box n.cells :: (H ++ .box x.cells :: (Ha ++ [.box xa.cells]))) (fun a => a.1 ≤ xa.eqs.length) (fun a => xa.eqs.length - a.1) (fun a => accE a.2 ((xa.eqs.drop a.1).map (·.e)))
         (fun ts r ex s => ex = .exit 4 ∧ At [9,38,39,40,41,42,43,44,45,46] ts (.box [.int .i64 r.1] :: .box [.int .i64 r.2] :: .box n.cells :: (H ++ .box x.cells :: (Ha ++ [.box xa.cells]))) [] s) (0,pa) (Nat.zero_le _) (At.of [] (by simp only [ats,Int.natCast_zero]) (by simp only [List.append_nil])) (by
          rintro ⟨ib,pb⟩ jb Hb db hib
          clear hlb; subst hbb
          simp only at hib
          by_cases hltb : ib < xa.eqs.length
          ·have e1b : ((ib : Int) < (xa.eqs.length : Int)) := by omega
           obtain ⟨xb,hxb⟩ : ∃ yy,yy = xa.eqs[ib] := ⟨_,rfl⟩
           have e3b : (xa.eqs.map PEq.cells)[ib]? = some (PEq.cells xb) := by simp [hltb,hxb]
           have hmb : xb ∈ xa.eqs := by rw [hxb]; exact List.getElem_mem hltb
           obtain ⟨Eb,hEb⟩ := Classical.skolem.1 (hdo xb.e ((fun (y : PEq) hy => (hsa.2.2.1 y hy).2) xb hmb) pb)
           simp only [Z3,Nat.reduceAdd,Nat.reduceBEq,Int.reduceBEq,Int.reduceBNe,Int.reduceLT,Int.reduceLE,effs,qec,ty,e1b,e3b,(hEb _).1,(hEb _).2,qas (show ib ≤ qac by omega)]
           exact .inl ⟨(ib + 1,wadd pb.1 xb.e.size,imax pb.2 xb.e.depth),_,rfl,hltb,At.of _ (by simp only [ats,Int.natCast_zero]) (by simp only [List.cons_append,List.append_assoc,List.nil_append]; rfl),by simp only []; omega,by simp only [List.drop_eq_getElem_cons hltb,List.map_cons,← hxb,qg8]⟩
          ·have e1b : ¬ ((ib : Int) < (xa.eqs.length : Int)) := by omega
           simp only [Z3,Nat.reduceAdd,Nat.reduceBEq,Int.reduceBEq,Int.reduceBNe,Int.reduceLT,Int.reduceLE,qec,e1b]
           refine .inr ⟨_,_,rfl,by simp,rfl,?_⟩
           simp only [List.drop_eq_nil_of_le (Nat.le_of_not_lt hltb),List.map_nil,List.flatMap_nil,qhl]
           exact At.of _ (by simp only [ats,Int.natCast_zero]) (by simp only [List.cons_append,List.append_assoc,List.nil_append]; rfl))
        obtain ⟨jb',Hb',db',rfl⟩ := h2b.elim
        clear hlb
        simp only [Z3,Nat.reduceAdd,Nat.reduceBEq,Int.reduceBEq,Int.reduceBNe,Int.reduceLT,Int.reduceLE,effs,qec,ty]
        generalize hbc : qan PP cmp0 C lpC _ = fc; generalize hlc : lpC fc _ = rc
        obtain ⟨exc,sc,rfl,rfl,h2c⟩ := qfo (α := Nat × Int × Int) hlc [11,51,52,53,54,55,56,57,58] (fun a => [(50,.int .i64 a.1)]) (fun a => .box [.int .i64 a.2.1] :: .box [.int .i64 a.2.2] :: .box n.cells :: (H ++ .box x.cells :: (Ha ++ .box xa.cells :: Hb'))) (fun a => a.1 ≤ xa.ways.length) (fun a => xa.ways.length - a.1) (fun a => accE a.2 ((xa.ways.drop a.1).map (·.cond)))
         (fun ts r ex s => ex = .exit 6 ∧ At [11,50,51,52,53,54,55,56,57,58] ts (.box [.int .i64 r.1] :: .box [.int .i64 r.2] :: .box n.cells :: (H ++ .box x.cells :: (Ha ++ .box xa.cells :: Hb'))) [] s) (0,(accE pa (xa.eqs.map (·.e)))) (Nat.zero_le _) (At.of [] (by simp only [ats,Int.natCast_zero]) (by simp only [List.append_nil])) (by
          rintro ⟨ic,pc⟩ jc Hc dc hic
          clear hlc; subst hbc
          simp only at hic
          by_cases hltc : ic < xa.ways.length
          ·have e1c : ((ic : Int) < (xa.ways.length : Int)) := by omega
           obtain ⟨xc,hxc⟩ : ∃ yy,yy = xa.ways[ic] := ⟨_,rfl⟩
           have e3c : (xa.ways.map PWay.cells)[ic]? = some (PWay.cells xc) := by simp [hltc,hxc]
           have hmc : xc ∈ xa.ways := by rw [hxc]; exact List.getElem_mem hltc
           obtain ⟨Ec,hEc⟩ := Classical.skolem.1 (hdo xc.cond ((fun (y : PWay) hy => (hsa.2.2.2.2 y hy).1) xc hmc) pc)
           simp only [Z3,Nat.reduceAdd,Nat.reduceBEq,Int.reduceBEq,Int.reduceBNe,Int.reduceLT,Int.reduceLE,effs,qec,ty,e1c,e3c,(hEc _).1,(hEc _).2,qas (show ic ≤ qac by omega)]
           exact .inl ⟨(ic + 1,wadd pc.1 xc.cond.size,imax pc.2 xc.cond.depth),_,rfl,hltc,At.of _ (by simp only [ats,Int.natCast_zero]) (by simp only [List.cons_append,List.append_assoc,List.nil_append]; rfl),by simp only []; omega,by simp only [List.drop_eq_getElem_cons hltc,List.map_cons,← hxc,qg8]⟩
          ·have e1c : ¬ ((ic : Int) < (xa.ways.length : Int)) := by omega
           simp only [Z3,Nat.reduceAdd,Nat.reduceBEq,Int.reduceBEq,Int.reduceBNe,Int.reduceLT,Int.reduceLE,qec,e1c]
           refine .inr ⟨_,_,rfl,by simp,rfl,?_⟩
           simp only [List.drop_eq_nil_of_le (Nat.le_of_not_lt hltc),List.map_nil,List.flatMap_nil,qhl]
           exact At.of _ (by simp only [ats,Int.natCast_zero]) (by simp only [List.cons_append,List.append_assoc,List.nil_append]; rfl))
        obtain ⟨jc',Hc',dc',rfl⟩ := h2c.elim
        clear hlc
        simp only [Z3,Nat.reduceAdd,Nat.reduceBEq,Int.reduceBEq,Int.reduceBNe,Int.reduceLT,Int.reduceLE,qec,ty,qas (show ia ≤ qac by omega)]
        exact .inl ⟨(ia + 1,(accE (accE pa (xa.eqs.map (·.e))) (xa.ways.map (·.cond)))),_,rfl,hlta,At.of _ (by simp only [ats,Int.natCast_zero]) (by simp only [List.cons_append,List.append_assoc,List.nil_append]; rfl),by simp only []; omega,by simp only [List.drop_eq_getElem_cons hlta,List.flatMap_cons,← hxa,PState.exprs,qrd,List.drop_zero]⟩
       ·have e1a : ¬ ((ia : Int) < (x.states.length : Int)) := by omega
        simp only [Z3,Nat.reduceAdd,Nat.reduceBEq,Int.reduceBEq,Int.reduceBNe,Int.reduceLT,Int.reduceLE,qec,e1a]
        refine .inr ⟨_,_,rfl,by simp,rfl,?_⟩
        simp only [List.drop_eq_nil_of_le (Nat.le_of_not_lt hlta),List.map_nil,List.flatMap_nil,qhl]
        exact At.of _ (by simp only [ats,Int.natCast_zero]) (by simp only [List.cons_append,List.append_assoc,List.nil_append]; rfl))
     obtain ⟨ja',Ha',da',rfl⟩ := h2a.elim
     clear hla
     simp only [Z3,Nat.reduceAdd,Nat.reduceBEq,Int.reduceBEq,Int.reduceBNe,Int.reduceLT,Int.reduceLE,effs,qec,ty,qas (show i ≤ qac by omega)]
     exact .inl ⟨(i + 1,(accE (wadd p.1 x.eq.e.size,imax p.2 x.eq.e.depth) (x.states.flatMap PState.exprs))),_,rfl,hlt,At.of _ (by simp only [ats,Int.natCast_zero]) (by simp only [List.cons_append,List.append_assoc,List.nil_append]; rfl),by simp only []; omega,by simp only [List.drop_eq_getElem_cons hlt,List.flatMap_cons,← hx,PItem.exprs,if_pos hz',qrd,qg8,qhl,List.drop_zero,List.nil_append,List.singleton_append]⟩
   ·have e1 : ¬ ((i : Int) < (n.items.length : Int)) := by omega
    simp only [Z3,Nat.reduceAdd,Nat.reduceBEq,Int.reduceBEq,Int.reduceBNe,Int.reduceLT,Int.reduceLE,qec,e1]
    refine .inr ⟨_,_,rfl,by simp,rfl,?_⟩
    simp only [List.drop_eq_nil_of_le (Nat.le_of_not_lt hlt),List.map_nil,List.flatMap_nil,qhl]
    exact At.of _ (by simp only [ats,Int.natCast_zero]) (by simp only [List.cons_append,List.append_assoc,List.nil_append]; rfl))
 obtain ⟨j',H',d',rfl⟩ := h2.elim
 clear hl
 rw [List.drop_zero]
 simp only [Z3,Nat.reduceAdd,Nat.reduceBEq,Int.reduceBEq,Int.reduceBNe,Int.reduceLT,Int.reduceLE,qec]
 exact qcj (.inr rfl) rfl rfl rfl (stay2 (qrc _ _ _ _ _ rfl) (qrc _ _ _ _ _ rfl)) rfl
end Go.Ab
namespace Go.Ab
open Go Go.Ab.Tab
def qhm (id : Nat) (junk junk' : List Nat) (slot : Nat) (ts : List AVal) (H : qaa) (r : Bool) (ex : AEx) (s : St) : Prop :=
 (r = true ∧ ex = .exit id ∧ At junk ts H [] s) ∨ (r = false ∧ ex = .ret ∧ At junk' ts H [(slot,.bool false)] s)
theorem PExpr.Rng.n {e : PExpr} (h : e.Rng) : qbr e.n := by cases h; assumption
theorem PExpr.Rng.kids {e : PExpr} (h : e.Rng) : ∀ k ∈ e.kids,k.Rng := by cases h; assumption
theorem expr2_c (made : Bool) (x : PExpr) (b : Bool) (h : Ret C 269 [qam made,.agg x.cells] (.bool b)) : C 285 [.agg x.cells,.ptr 0 0] [.box [.bool made]] = some (.ret (.bool (!b)) .same) := by
 unfold qam at h
 rw [C_fn rfl Tryz.func285 rfl (by kernel_rfl) (m := 6) rfl]; simp only [Z3,Nat.reduceAdd,Nat.reduceBEq,Int.reduceBEq,Int.reduceBNe,Int.reduceLT,Int.reduceLE,Tryz.f285,fx_285,h _,qaw 1 _ _ [] (by simp)]
theorem expr_c (made : Bool) (e : PExpr) : e.Small → e.Rng → Ret C 269 [qam made,.agg e.cells] (.bool (qax made e)) := by
 induction e using PExpr.induct with
 | h op name n cons kids ih =>
  intro hs hr
  obtain ⟨e,he⟩ : ∃ e,e = PExpr.mk op name n cons kids := ⟨_,rfl⟩
  rw [← he] at hs hr ⊢
  have hkids : e.kids = kids := by rw [he]; rfl
  have hk : ∀ H,qak C (.box [.bool made] :: H) 284 [.slice (e.kids.map PExpr.cells) .free,.func 285 [] [.ptr 0 0]] = some (.ret (.bool (e.kids.any fun x => !qax made x)) .same) := fun H =>
   qa7 (b := 0) _ rfl rfl rfl (qvc e.kids hs.kids.1 _ _ rfl (fun x => !qax made x) (fun x hx H =>
    qa7 (b := 0) _ (by simp [qad,refs,x.norefs]) rfl rfl (by
     simp only [renL,ren,qb6 x.norefs]
     exact expr2_c made x _ (ih x (hkids ▸ hx) (hs.kids.2 x hx) (hr.kids x hx))) rfl)) rfl
  have ha : qad [qam made,.agg e.cells] = [] := by simp [qad,refs,e.norefs,qam]
  refine Ret.mk ha rfl ?_
  by_cases h : ∀ i ∈ [1,2,3,4,5,6,7,8,9,10,11,12,13,14,15],e.op ≠ i
  ·have hw : qax made e = false := by
    have : wnt made e.op = none := by
     simp only [List.forall_mem_cons] at h
     obtain ⟨h1,h2,h3,h4,h5,h6,h7,h8,h9,h10,h11,h12,h13,h14,h15,-⟩ := h
     unfold wnt
     rw [if_neg h1,if_neg h2,if_neg h3,if_neg h4,if_neg h5,if_neg h6,if_neg h7,if_neg h8,if_neg h9,if_neg h10,if_neg h11,if_neg h12,if_neg h13,if_neg h14,if_neg h15]
    rw [qdj,this]; rfl
   rw [hw]
   have e1 := of_none made e.op h
   unfold qam at e1
   rw [C_fn rfl Tryz.func269 rfl (by kernel_rfl) (m := 107) rfl]; simp only [Z3,Nat.reduceAdd,Nat.reduceBEq,Int.reduceBEq,Int.reduceBNe,Int.reduceLT,Int.reduceLE,Tryz.f269,qag,qam,e1 _]
  ·simp only [List.forall_mem_cons,Classical.not_and_iff_not_or_not,Classical.not_not,ne_eq] at h
   rcases h with h | h | h | h | h | h | h | h | h | h | h | h | h | h | h | h
   ·exact expr_1 made e h hs hr.n hk
   ·exact expr_2 made e h hs hr.n hk
   ·exact expr_3 made e h hs hr.n hk
   ·exact expr_4 made e h hs hr.n hk
   ·exact expr_5 made e h hs hr.n hk
   ·exact expr_6 made e h hs hr.n hk
   ·exact expr_7 made e h hs hr.n hk
   ·exact expr_8 made e h hs hr.n hk
   ·exact expr_9 made e h hs hr.n hk
   ·exact expr_10 made e h hs hr.n hk
   ·exact expr_11 made e h hs hr.n hk
   ·exact expr_12 made e h hs hr.n hk
   ·exact expr_13 made e h hs hr.n hk
   ·exact expr_14 made e h hs hr.n hk
   ·exact expr_15 made e h hs hr.n hk
   ·exact absurd (fun _ hx => by cases hx) h
def qie (made : Bool) (l : List Str) (least most : Int) : Bool := decide (least ≤ (l.length : Int)) && decide ((l.length : Int) ≤ most) && !l.any fun s => !qco made s
def qoj (made : Bool) (l : List Str) (least most : Int) : Bool := decide (least ≤ (l.length : Int)) && decide ((l.length : Int) ≤ most) && !l.any fun s => !conB made s
theorem qt9 (made : Bool) (l : List Str) (hl : qe1 l) (least most : Int) : Ret C 138 [qaf l,.int .i64 least,.int .i64 most,.func 137 [.agg [.bool made]] []] (.bool (qie made l least most)) :=
 all_c l hl.1 least most _ [.agg [.bool made]] rfl (qco made) (fun x hx => qko made x (hl.2 x hx))
theorem cons_c (made : Bool) (l : List Str) (hl : qe1 l) (least most : Int) : Ret C 138 [qaf l,.int .i64 least,.int .i64 most,.func 139 [.agg [.bool made]] []] (.bool (qoj made l least most)) :=
 all_c l hl.1 least most _ [.agg [.bool made]] rfl (conB made) (fun x hx => qrb made x (hl.2 x hx))
def eqB (made : Bool) (q : PEq) : Bool := qie made q.names 1 6 && qax made q.e
theorem eq_c (made : Bool) (q : PEq) (hs : q.Small) (hr : q.Rng) : Ret C 243 [qam made,.agg q.cells] (.bool (eqB made q)) := by
 refine Ret.mk (by simp [qad,refs,q.norefs,qam]) rfl ?_
 have e1 := qt9 made q.names hs.1 1 6
 have e2 := expr_c made q.e hs.2 hr
 unfold qam at *
 rw [C_fn rfl Tryz.func243 rfl (by kernel_rfl) (m := 14) rfl]; simp only [Z3,Nat.reduceAdd,Nat.reduceBEq,Int.reduceBEq,Int.reduceBNe,Int.reduceLT,Int.reduceLE,Tryz.f243,fx_243,ty,e1 _,e2 _]
 cases h1 : qie made q.names 1 6
 ·simp only [Z3,Nat.reduceAdd,Nat.reduceBEq,Int.reduceBEq,Int.reduceBNe,Int.reduceLT,Int.reduceLE,fx_243,ty,h1,eqB]
 ·simp only [Z3,Nat.reduceAdd,Nat.reduceBEq,Int.reduceBEq,Int.reduceBNe,Int.reduceLT,Int.reduceLE,fx_243,ty,h1,e2 _,eqB]
def qp0 (made : Bool) (s : PState) : Bool := conB made s.name && !decide (24 < (s.eqs.length : Int)) && !decide (4 < (s.ways.length : Int)) && (s.eqs.all (eqB made)) && s.ways.all fun w => conB made w.to && qax made w.cond
theorem state_c (made : Bool) (s : PState) (hs : s.Small) (hr : s.Rng) : Ret C 246 [qam made,.agg s.cells] (.bool (qp0 made s)) := by
 refine Ret.mk (by simp [qad,refs,s.norefs,qam]) rfl ?_
 have hl1 := hs.2.1
 have hl2 := hs.2.2.2.1
 have e1 := qrb made s.name hs.1
 have ce := fun (x : PEq) hx => eq_c made x (hs.2.2.1 x hx) (hr.1 x hx)
 have cc := fun (x : PWay) hx => qrb made x.to (hs.2.2.2.2 x hx).2
 have cx := fun (x : PWay) hx => expr_c made x.cond (hs.2.2.2.2 x hx).1 (hr.2 x hx)
 unfold qam at *
 unfold qp0
 rw [C_fn rfl Tryz.func246 rfl (by kernel_rfl) (m := 56) rfl]; simp only [Z3,Nat.reduceAdd,Nat.reduceBEq,Int.reduceBEq,Int.reduceBNe,Int.reduceLT,Int.reduceLE,Tryz.f246,qen,ty,e1 _]
 cases h1 : conB made s.name
 ·simp only [Z3,Nat.reduceAdd,Nat.reduceBEq,Int.reduceBEq,Int.reduceBNe,Int.reduceLT,Int.reduceLE,qen,ty,h1]
 simp only [Z3,Nat.reduceAdd,Nat.reduceBEq,Int.reduceBEq,Int.reduceBNe,Int.reduceLT,Int.reduceLE,qen,ty,h1]
 cases h2 : decide (24 < (s.eqs.length : Int))
 rotate_left
 ·simp only [Z3,Nat.reduceAdd,Nat.reduceBEq,Int.reduceBEq,Int.reduceBNe,Int.reduceLT,Int.reduceLE,qen,ty,h2]
 simp only [Z3,Nat.reduceAdd,Nat.reduceBEq,Int.reduceBEq,Int.reduceBNe,Int.reduceLT,Int.reduceLE,qen,ty,h2]
 cases h3 : decide (4 < (s.ways.length : Int))
 rotate_left
 ·simp only [Z3,Nat.reduceAdd,Nat.reduceBEq,Int.reduceBEq,Int.reduceBNe,Int.reduceLT,Int.reduceLE,qen,ty,h3]
 simp only [Z3,Nat.reduceAdd,Nat.reduceBEq,Int.reduceBEq,Int.reduceBNe,Int.reduceLT,Int.reduceLE,qen,ty,h3]
 generalize hb : qan PP cmp0 C lpC _ = f; generalize hl : lpC f _ = r
 obtain ⟨ex,s',rfl,h2⟩ := qdv (α := Nat) hl [4,6,30,31,32,33,34,35,36,37] (fun i => [(29,.int .i64 i)]) (fun i => i ≤ s.eqs.length) (fun i => s.eqs.length - i) (fun i => (s.eqs.drop i).all fun x => eqB made x)
  (qhm 0 [4,6,29,30,31,32,33,34,35,36,37] [6,29,30,31,32,33,34,35,36,37] 4) 0 (Nat.zero_le _) (by simp only [At,ats,Int.natCast_zero,List.drop_left,List.drop_length,List.append_nil]) (by
   intro i j H d hi
   clear hl; subst hb
   by_cases hlt : i < s.eqs.length
   ·have e1 : ((i : Int) < (s.eqs.length : Int)) := by omega
    have e3 : (s.eqs.map PEq.cells)[i]? = some (PEq.cells s.eqs[i]) := by simp [hlt]
    have hm := List.getElem_mem hlt
    have c1 := ce s.eqs[i] hm
    simp only [Z3,Nat.reduceAdd,Nat.reduceBEq,Int.reduceBEq,Int.reduceBNe,Int.reduceLT,Int.reduceLE,qen,ty,e1,e3,c1 _]
    cases hc0 : eqB made s.eqs[i]
    ·simp only [Z3,Nat.reduceAdd,Nat.reduceBEq,Int.reduceBEq,Int.reduceBNe,Int.reduceLT,Int.reduceLE,qen,ty,e1,e3,c1 _,hc0]
     exact .inr ⟨_,_,rfl,by simp,.inr ⟨by simp only [List.drop_eq_getElem_cons hlt,List.all_cons,hc0,Bool.false_and,Bool.and_false],rfl,by simp only [At,ats,Int.natCast_zero,List.drop_left,List.drop_length,List.append_nil]⟩⟩
    ·simp only [Z3,Nat.reduceAdd,Nat.reduceBEq,Int.reduceBEq,Int.reduceBNe,Int.reduceLT,Int.reduceLE,qen,ty,e1,e3,c1 _,hc0,qas (show i ≤ qac by omega)]
     exact .inl ⟨i + 1,_,rfl,hlt,by simp only [At,ats,Int.natCast_zero,List.drop_left,List.drop_length,List.append_nil],by simp only []; omega,by simp only [List.drop_eq_getElem_cons hlt,List.all_cons,hc0,Bool.true_and]⟩
   ·have e1 : ¬ ((i : Int) < (s.eqs.length : Int)) := by omega
    simp only [Z3,Nat.reduceAdd,Nat.reduceBEq,Int.reduceBEq,Int.reduceBNe,Int.reduceLT,Int.reduceLE,qen,e1]
    exact .inr ⟨_,_,rfl,by simp,.inl ⟨by simp only []; rw [List.drop_eq_nil_of_le (by omega)]; rfl,rfl,by simp only [At,ats,Int.natCast_zero,List.drop_left,List.drop_length,List.append_nil]⟩⟩)
 rw [List.drop_zero] at h2
 rcases h2 with ⟨hr1,rfl,h2⟩ | ⟨hr1,rfl,h2⟩
 rotate_left
 ·obtain ⟨j,H,d,rfl⟩ := h2.elim
  clear hl
  simp only [Z3,Nat.reduceAdd,Nat.reduceBEq,Int.reduceBEq,Int.reduceBNe,Int.reduceLT,Int.reduceLE,hr1,(show (s.eqs.all (eqB made)) = false from hr1)]
 obtain ⟨j,H,d,rfl⟩ := h2.elim
 clear hl
 simp only [Z3,Nat.reduceAdd,Nat.reduceBEq,Int.reduceBEq,Int.reduceBNe,Int.reduceLT,Int.reduceLE,qen,ty,hr1,(show (s.eqs.all (eqB made)) = true from hr1)]
 generalize hb : qan PP cmp0 C lpC _ = f; generalize hl : lpC f _ = r
 obtain ⟨ex,s',rfl,h2⟩ := qdv (α := Nat) hl [4,8,42,43,44,45,46,47,48,49,50,51,52,53,54,55,56,57] (fun i => [(41,.int .i64 i)]) (fun i => i ≤ s.ways.length) (fun i => s.ways.length - i) (fun i => (s.ways.drop i).all fun x => conB made x.to && qax made x.cond)
  (qhm 2 [4,8,41,42,43,44,45,46,47,48,49,50,51,52,53,54,55,56,57] [8,41,42,43,44,45,46,47,48,49,50,51,52,53,54,55,56,57] 4) 0 (Nat.zero_le _) (by simp only [At,ats,Int.natCast_zero,List.drop_left,List.drop_length,List.append_nil]) (by
   intro i j H d hi
   clear hl; subst hb
   by_cases hlt : i < s.ways.length
   ·have e1 : ((i : Int) < (s.ways.length : Int)) := by omega
    have e3 : (s.ways.map PWay.cells)[i]? = some (PWay.cells s.ways[i]) := by simp [hlt]
    have hm := List.getElem_mem hlt
    have c1 := cc s.ways[i] hm
    have c2 := cx s.ways[i] hm
    simp only [Z3,Nat.reduceAdd,Nat.reduceBEq,Int.reduceBEq,Int.reduceBNe,Int.reduceLT,Int.reduceLE,qen,ty,e1,e3,c1 _,c2 _]
    cases hc0 : conB made s.ways[i].to
    ·simp only [Z3,Nat.reduceAdd,Nat.reduceBEq,Int.reduceBEq,Int.reduceBNe,Int.reduceLT,Int.reduceLE,qen,ty,e1,e3,c1 _,c2 _,hc0]
     exact .inr ⟨_,_,rfl,by simp,.inr ⟨by simp only [List.drop_eq_getElem_cons hlt,List.all_cons,hc0,Bool.false_and,Bool.and_false],rfl,by simp only [At,ats,Int.natCast_zero,List.drop_left,List.drop_length,List.append_nil]⟩⟩
    cases hc1 : qax made s.ways[i].cond
    ·simp only [Z3,Nat.reduceAdd,Nat.reduceBEq,Int.reduceBEq,Int.reduceBNe,Int.reduceLT,Int.reduceLE,qen,ty,e1,e3,c1 _,c2 _,hc0,hc1]
     exact .inr ⟨_,_,rfl,by simp,.inr ⟨by simp only [List.drop_eq_getElem_cons hlt,List.all_cons,hc0,hc1,Bool.false_and,Bool.and_false],rfl,by simp only [At,ats,Int.natCast_zero,List.drop_left,List.drop_length,List.append_nil]⟩⟩
    ·simp only [Z3,Nat.reduceAdd,Nat.reduceBEq,Int.reduceBEq,Int.reduceBNe,Int.reduceLT,Int.reduceLE,qen,ty,e1,e3,c1 _,c2 _,hc0,hc1,qas (show i ≤ qac by omega)]
     exact .inl ⟨i + 1,_,rfl,hlt,by simp only [At,ats,Int.natCast_zero,List.drop_left,List.drop_length,List.append_nil],by simp only []; omega,by simp only [List.drop_eq_getElem_cons hlt,List.all_cons,hc0,hc1,Bool.true_and]⟩
   ·have e1 : ¬ ((i : Int) < (s.ways.length : Int)) := by omega
    simp only [Z3,Nat.reduceAdd,Nat.reduceBEq,Int.reduceBEq,Int.reduceBNe,Int.reduceLT,Int.reduceLE,qen,e1]
    exact .inr ⟨_,_,rfl,by simp,.inl ⟨by simp only []; rw [List.drop_eq_nil_of_le (by omega)]; rfl,rfl,by simp only [At,ats,Int.natCast_zero,List.drop_left,List.drop_length,List.append_nil]⟩⟩)
 rw [List.drop_zero] at h2
 rcases h2 with ⟨hr2,rfl,h2⟩ | ⟨hr2,rfl,h2⟩
 ·obtain ⟨j,H,d,rfl⟩ := h2.elim
  clear hl
  simp only [Z3,Nat.reduceAdd,Nat.reduceBEq,Int.reduceBEq,Int.reduceBNe,Int.reduceLT,Int.reduceLE,qen,hr2]
 ·obtain ⟨j,H,d,rfl⟩ := h2.elim
  clear hl
  simp only [Z3,Nat.reduceAdd,Nat.reduceBEq,Int.reduceBEq,Int.reduceBNe,Int.reduceLT,Int.reduceLE,qen,hr2]
theorem q5d (made : Bool) (l : List PState) (hl : l.length ≤ qac) (p : PState → Bool) (h : ∀ x ∈ l,Ret C 246 [.agg [.bool made],.agg x.cells] (.bool (p x))) :
 ∀ H,qak C (.box [.bool made] :: H) 182 [.slice (l.map PState.cells) .free,.func 245 [] [.ptr 0 0]] = some (.ret (.bool (l.any fun x => !p x)) .same) := fun H =>
 qa7 (b := 0) _ rfl rfl rfl (quj l hl _ _ rfl (fun x => !p x) (fun x hx H =>
  qa7 (b := 0) _ (by simp [qad,refs,x.norefs]) rfl rfl (by
   simp only [renL,ren,qb6 x.norefs]
   have e1 := h x hx
   rw [C_fn rfl Tryz.func245 rfl (by kernel_rfl) (m := 6) rfl]; simp only [Z3,Nat.reduceAdd,Nat.reduceBEq,Int.reduceBEq,Int.reduceBNe,Int.reduceLT,Int.reduceLE,Tryz.f245,fx_245,ty,e1 _,qaw 1 _ _ [] (by simp)]) rfl)) rfl
theorem anyItem_c (made : Bool) (l : List PItem) (hl : l.length ≤ qac) (p : PItem → Bool) (h : ∀ x ∈ l,Ret C 209 [.agg [.bool made],.agg x.cells] (.bool (p x))) :
 ∀ H,qak C (.box [.bool made] :: H) 207 [.slice (l.map PItem.cells) .free,.func 208 [] [.ptr 0 0]] = some (.ret (.bool (l.any fun x => !p x)) .same) := fun H =>
 qa7 (b := 0) _ rfl rfl rfl (qvd l hl _ _ rfl (fun x => !p x) (fun x hx H =>
  qa7 (b := 0) _ (by simp [qad,refs,x.norefs]) rfl rfl (by
   simp only [renL,ren,qb6 x.norefs]
   have e1 := h x hx
   rw [C_fn rfl Tryz.func208 rfl (by kernel_rfl) (m := 6) rfl]; simp only [Z3,Nat.reduceAdd,Nat.reduceBEq,Int.reduceBEq,Int.reduceBNe,Int.reduceLT,Int.reduceLE,Tryz.f208,fx_208,ty,e1 _,qaw 1 _ _ [] (by simp)]) rfl)) rfl
theorem anyNode_c (made : Bool) (l : List PNode) (hl : l.length ≤ qac) (p : PNode → Bool) (h : ∀ x ∈ l,Ret C 142 [.agg [.bool made],.agg x.cells] (.bool (p x))) :
 ∀ H,qak C (.box [.bool made] :: H) 140 [.slice (l.map PNode.cells) .free,.func 141 [] [.ptr 0 0]] = some (.ret (.bool (l.any fun x => !p x)) .same) := fun H =>
 qa7 (b := 0) _ rfl rfl rfl (qve l hl _ _ rfl (fun x => !p x) (fun x hx H =>
  qa7 (b := 0) _ (by simp [qad,refs,x.norefs]) rfl rfl (by
   simp only [renL,ren,qb6 x.norefs]
   have e1 := h x hx
   rw [C_fn rfl Tryz.func141 rfl (by kernel_rfl) (m := 6) rfl]; simp only [Z3,Nat.reduceAdd,Nat.reduceBEq,Int.reduceBEq,Int.reduceBNe,Int.reduceLT,Int.reduceLE,Tryz.f141,fx_141,ty,e1 _,qaw 1 _ _ [] (by simp)]) rfl)) rfl
def qua : PExpr := .mk 0 [] 0 [] []
def qub (made : Bool) (x : PItem) : Bool := if ((x.states.length : Int) == 0) = true then eqB made x.eq else
 ((x.eq.names.length : Int) == 0) && x.eq.e.same qua && decide ((x.states.length : Int) ≤ 8) && !x.states.any fun s => !qp0 made s
theorem item_c (made : Bool) (x : PItem) (hs : x.Small) (hr : x.Rng) : Ret C 209 [qam made,.agg x.cells] (.bool (qub made x)) := by
 refine Ret.mk (by simp [qad,refs,x.norefs,qam]) rfl ?_
 have e1 := eq_c made x.eq hs.1 hr.1
 have e2 : Ret C 244 [.agg x.eq.e.cells,.agg [.int .i64 0,.str [],.int .i64 0,.slice [] .free,.slice [] .free]] (.bool (x.eq.e.same qua)) := q41 x.eq.e qua hs.1.2
 have e3 := q5d made x.states hs.2.1 (qp0 made) (fun s hx => state_c made s (hs.2.2 s hx) (hr.2 s hx))
 unfold qam at *
 unfold qub
 rw [C_fn rfl Tryz.func209 rfl (by kernel_rfl) (m := 38) rfl]; simp only [Z3,Nat.reduceAdd,Nat.reduceBEq,Int.reduceBEq,Int.reduceBNe,Int.reduceLT,Int.reduceLE,Tryz.f209,qkk,ty]
 cases h1 : ((x.states.length : Int) == 0)
 rotate_left
 ·simp only [Z3,Nat.reduceAdd,Nat.reduceBEq,Int.reduceBEq,Int.reduceBNe,Int.reduceLT,Int.reduceLE,qkk,ty,h1,e1 _]
 simp only [Z3,Nat.reduceAdd,Nat.reduceBEq,Int.reduceBEq,Int.reduceBNe,Int.reduceLT,Int.reduceLE,qkk,ty,h1,PItem.get_names,PItem.sub_e]
 cases h2 : ((x.eq.names.length : Int) == 0)
 ·simp only [Z3,Nat.reduceAdd,Nat.reduceBEq,Int.reduceBEq,Int.reduceBNe,Int.reduceLT,Int.reduceLE,qkk,ty,h2]
 simp only [Z3,Nat.reduceAdd,Nat.reduceBEq,Int.reduceBEq,Int.reduceBNe,Int.reduceLT,Int.reduceLE,qkk,ty,h2,PItem.get_names,PItem.sub_e,e2 _]
 cases h3 : x.eq.e.same qua
 ·simp only [Z3,Nat.reduceAdd,Nat.reduceBEq,Int.reduceBEq,Int.reduceBNe,Int.reduceLT,Int.reduceLE,qkk,ty,h3]
 simp only [Z3,Nat.reduceAdd,Nat.reduceBEq,Int.reduceBEq,Int.reduceBNe,Int.reduceLT,Int.reduceLE,qkk,ty,h3]
 cases h4 : decide ((x.states.length : Int) ≤ 8)
 ·simp only [Z3,Nat.reduceAdd,Nat.reduceBEq,Int.reduceBEq,Int.reduceBNe,Int.reduceLT,Int.reduceLE,qkk,ty,h4]
 ·simp only [Z3,Nat.reduceAdd,Nat.reduceBEq,Int.reduceBEq,Int.reduceBNe,Int.reduceLT,Int.reduceLE,qkk,ty,h4,e3]
def quc (made : Bool) (n : PNode) : Bool := qco made n.name && qie made n.funs 0 6 && qie made n.ins 1 6 && qie made n.outs 1 6 && (made || decide ((n.items.length : Int) ≤ 24)) && !n.items.any fun x => !qub made x
theorem node_c (made : Bool) (n : PNode) (hs : n.Small) (hr : n.Rng) : Ret C 142 [qam made,.agg n.cells] (.bool (quc made n)) := by
 refine Ret.mk (by simp [qad,refs,n.norefs,qam]) rfl ?_
 have e1 := qko made n.name hs.1
 have e2 := qt9 made n.funs hs.2.1 0 6
 have e3 := qt9 made n.ins hs.2.2.1 1 6
 have e4 := qt9 made n.outs hs.2.2.2.1 1 6
 have e5 := anyItem_c made n.items hs.2.2.2.2.1 (qub made) (fun x hx => item_c made x (hs.2.2.2.2.2 x hx) (hr x hx))
 unfold qam at *
 unfold quc
 rw [C_fn rfl Tryz.func142 rfl (by kernel_rfl) (m := 47) rfl]; simp only [Z3,Nat.reduceAdd,Nat.reduceBEq,Int.reduceBEq,Int.reduceBNe,Int.reduceLT,Int.reduceLE,Tryz.f142,qg4,ty,e1 _,e2 _,e3 _,e4 _]
 cases h1 : qco made n.name
 ·simp only [Z3,Nat.reduceAdd,Nat.reduceBEq,Int.reduceBEq,Int.reduceBNe,Int.reduceLT,Int.reduceLE,qg4,ty,h1]
 simp only [Z3,Nat.reduceAdd,Nat.reduceBEq,Int.reduceBEq,Int.reduceBNe,Int.reduceLT,Int.reduceLE,qg4,ty,h1,e2 _]
 cases h2 : qie made n.funs 0 6
 ·simp only [Z3,Nat.reduceAdd,Nat.reduceBEq,Int.reduceBEq,Int.reduceBNe,Int.reduceLT,Int.reduceLE,qg4,ty,h2]
 simp only [Z3,Nat.reduceAdd,Nat.reduceBEq,Int.reduceBEq,Int.reduceBNe,Int.reduceLT,Int.reduceLE,qg4,ty,h2,e3 _]
 cases h3 : qie made n.ins 1 6
 ·simp only [Z3,Nat.reduceAdd,Nat.reduceBEq,Int.reduceBEq,Int.reduceBNe,Int.reduceLT,Int.reduceLE,qg4,ty,h3]
 simp only [Z3,Nat.reduceAdd,Nat.reduceBEq,Int.reduceBEq,Int.reduceBNe,Int.reduceLT,Int.reduceLE,qg4,ty,h3,e4 _]
 cases h4 : qie made n.outs 1 6
 ·simp only [Z3,Nat.reduceAdd,Nat.reduceBEq,Int.reduceBEq,Int.reduceBNe,Int.reduceLT,Int.reduceLE,qg4,ty,h4]
 simp only [Z3,Nat.reduceAdd,Nat.reduceBEq,Int.reduceBEq,Int.reduceBNe,Int.reduceLT,Int.reduceLE,qg4,ty,h4]
 cases made
 ·simp only [Z3,Nat.reduceAdd,Nat.reduceBEq,Int.reduceBEq,Int.reduceBNe,Int.reduceLT,Int.reduceLE,qg4,ty]
  cases h5 : decide ((n.items.length : Int) ≤ 24)
  ·simp only [Z3,Nat.reduceAdd,Nat.reduceBEq,Int.reduceBEq,Int.reduceBNe,Int.reduceLT,Int.reduceLE,qg4,ty,h5]
  ·simp only [Z3,Nat.reduceAdd,Nat.reduceBEq,Int.reduceBEq,Int.reduceBNe,Int.reduceLT,Int.reduceLE,qg4,ty,h5,e5]
 ·simp only [Z3,Nat.reduceAdd,Nat.reduceBEq,Int.reduceBEq,Int.reduceBNe,Int.reduceLT,Int.reduceLE,qg4,ty,e5]
def qre (made : Bool) : Int := if made = true then 32 else 8
def qmc (made : Bool) (p : PProg) : Bool := !decide (qre made < (p.enums.length : Int)) && !((p.nodes.length : Int) == 0) && !decide (16 < (p.nodes.length : Int)) && (p.enums.all fun t => qco made t.name && qoj made t.cons 1 8) && !p.nodes.any fun n => !quc made n
theorem program_c (made : Bool) (p : PProg) (hs : p.Small) (hr : p.Rng) : Ret C 80 [qam made,.agg p.cells] (.bool (qmc made p)) := by
 refine Ret.mk (by simp [qad,refs,p.norefs,qam]) rfl ?_
 have hl1 := hs.1
 have c1 := fun (x : PEnum) hx => qko made x.name (hs.2.1 x hx).1
 have c2 := fun (x : PEnum) hx => cons_c made x.cons (hs.2.1 x hx).2 1 8
 have e5 := anyNode_c made p.nodes hs.2.2.1 (quc made) (fun x hx => node_c made x (hs.2.2.2 x hx) (hr.2 x hx))
 unfold qam at *
 unfold qmc
 have w32 : qeb .i64 (8 + 24) = 32 := by decide
 have em : qre made = if made = true then 32 else 8 := rfl
 rw [C_fn rfl Tryz.func80 rfl (by kernel_rfl) (m := 53) rfl]; simp only [Z3,Nat.reduceAdd,Nat.reduceBEq,Int.reduceBEq,Int.reduceBNe,Int.reduceLT,Int.reduceLE,Tryz.f80,qdm,ty]
 cases made
 ·have em : qre false = 8 := rfl
  simp only [Z3,Nat.reduceAdd,Nat.reduceBEq,Int.reduceBEq,Int.reduceBNe,Int.reduceLT,Int.reduceLE,qdm,ty,w32,em]
  cases h1 : decide ((8 : Int) < (p.enums.length : Int))
  rotate_left
  ·simp only [Z3,Nat.reduceAdd,Nat.reduceBEq,Int.reduceBEq,Int.reduceBNe,Int.reduceLT,Int.reduceLE,qdm,ty,h1]
  simp only [Z3,Nat.reduceAdd,Nat.reduceBEq,Int.reduceBEq,Int.reduceBNe,Int.reduceLT,Int.reduceLE,qdm,ty,h1]
  cases h2 : ((p.nodes.length : Int) == 0)
  rotate_left
  ·simp only [Z3,Nat.reduceAdd,Nat.reduceBEq,Int.reduceBEq,Int.reduceBNe,Int.reduceLT,Int.reduceLE,qdm,ty,h2]
  simp only [Z3,Nat.reduceAdd,Nat.reduceBEq,Int.reduceBEq,Int.reduceBNe,Int.reduceLT,Int.reduceLE,qdm,ty,h2]
  cases h3 : decide (16 < (p.nodes.length : Int))
  rotate_left
  ·simp only [Z3,Nat.reduceAdd,Nat.reduceBEq,Int.reduceBEq,Int.reduceBNe,Int.reduceLT,Int.reduceLE,qdm,ty,h3]
  simp only [Z3,Nat.reduceAdd,Nat.reduceBEq,Int.reduceBEq,Int.reduceBNe,Int.reduceLT,Int.reduceLE,qdm,ty,h3]
  generalize hb : qan PP cmp0 C lpC _ = f; generalize hl : lpC f _ = r
  obtain ⟨ex,s',rfl,h2⟩ := qdv (α := Nat) hl [4,7,33,34,35,36,37,38,39,40,41,42,43,44,45,46,47,48,49] (fun i => [(32,.int .i64 i)]) (fun i => i ≤ p.enums.length) (fun i => p.enums.length - i) (fun i => (p.enums.drop i).all fun x => qco false x.name && qoj false x.cons 1 8)
   (qhm 0 [4,7,32,33,34,35,36,37,38,39,40,41,42,43,44,45,46,47,48,49] [7,32,33,34,35,36,37,38,39,40,41,42,43,44,45,46,47,48,49] 4) 0 (Nat.zero_le _) (by simp only [At,ats,Int.natCast_zero,List.drop_left,List.drop_length,List.append_nil]) (by
    intro i j H d hi
    clear hl; subst hb
    by_cases hlt : i < p.enums.length
    ·have e1 : ((i : Int) < (p.enums.length : Int)) := by omega
     have e3 : (p.enums.map PEnum.cells)[i]? = some (PEnum.cells p.enums[i]) := by simp [hlt]
     have hm := List.getElem_mem hlt
     have c3 := c1 p.enums[i] hm
     have c4 := c2 p.enums[i] hm
     simp only [Z3,Nat.reduceAdd,Nat.reduceBEq,Int.reduceBEq,Int.reduceBNe,Int.reduceLT,Int.reduceLE,qdm,ty,e1,e3,c3 _,c4 _]
     cases hc0 : qco false p.enums[i].name
     ·simp only [Z3,Nat.reduceAdd,Nat.reduceBEq,Int.reduceBEq,Int.reduceBNe,Int.reduceLT,Int.reduceLE,qdm,ty,e1,e3,c3 _,c4 _,hc0]
      exact .inr ⟨_,_,rfl,by simp,.inr ⟨by simp only [List.drop_eq_getElem_cons hlt,List.all_cons,hc0,Bool.false_and,Bool.and_false],rfl,by simp only [At,ats,Int.natCast_zero,List.drop_left,List.drop_length,List.append_nil]⟩⟩
     cases hc1 : qoj false p.enums[i].cons 1 8
     ·simp only [Z3,Nat.reduceAdd,Nat.reduceBEq,Int.reduceBEq,Int.reduceBNe,Int.reduceLT,Int.reduceLE,qdm,ty,e1,e3,c3 _,c4 _,hc0,hc1]
      exact .inr ⟨_,_,rfl,by simp,.inr ⟨by simp only [List.drop_eq_getElem_cons hlt,List.all_cons,hc0,hc1,Bool.false_and,Bool.and_false],rfl,by simp only [At,ats,Int.natCast_zero,List.drop_left,List.drop_length,List.append_nil]⟩⟩
     ·simp only [Z3,Nat.reduceAdd,Nat.reduceBEq,Int.reduceBEq,Int.reduceBNe,Int.reduceLT,Int.reduceLE,qdm,ty,e1,e3,c3 _,c4 _,hc0,hc1,qas (show i ≤ qac by omega)]
      exact .inl ⟨i + 1,_,rfl,hlt,by simp only [At,ats,Int.natCast_zero,List.drop_left,List.drop_length,List.append_nil],by simp only []; omega,by simp only [List.drop_eq_getElem_cons hlt,List.all_cons,hc0,hc1,Bool.true_and]⟩
    ·have e1 : ¬ ((i : Int) < (p.enums.length : Int)) := by omega
     simp only [Z3,Nat.reduceAdd,Nat.reduceBEq,Int.reduceBEq,Int.reduceBNe,Int.reduceLT,Int.reduceLE,qdm,e1]
     exact .inr ⟨_,_,rfl,by simp,.inl ⟨by simp only []; rw [List.drop_eq_nil_of_le (by omega)]; rfl,rfl,by simp only [At,ats,Int.natCast_zero,List.drop_left,List.drop_length,List.append_nil]⟩⟩)
  rw [List.drop_zero] at h2
  rcases h2 with ⟨hr1,rfl,h2⟩ | ⟨hr1,rfl,h2⟩
  rotate_left
  ·obtain ⟨j,H,d,rfl⟩ := h2.elim
   clear hl
   simp only [Z3,Nat.reduceAdd,Nat.reduceBEq,Int.reduceBEq,Int.reduceBNe,Int.reduceLT,Int.reduceLE,hr1]
  obtain ⟨j,H,d,rfl⟩ := h2.elim
  clear hl
  simp only [Z3,Nat.reduceAdd,Nat.reduceBEq,Int.reduceBEq,Int.reduceBNe,Int.reduceLT,Int.reduceLE,qdm,ty,hr1,e5]
 ·have em : qre true = 32 := rfl
  simp only [Z3,Nat.reduceAdd,Nat.reduceBEq,Int.reduceBEq,Int.reduceBNe,Int.reduceLT,Int.reduceLE,qdm,ty,w32,em]
  cases h1 : decide ((32 : Int) < (p.enums.length : Int))
  rotate_left
  ·simp only [Z3,Nat.reduceAdd,Nat.reduceBEq,Int.reduceBEq,Int.reduceBNe,Int.reduceLT,Int.reduceLE,qdm,ty,h1]
  simp only [Z3,Nat.reduceAdd,Nat.reduceBEq,Int.reduceBEq,Int.reduceBNe,Int.reduceLT,Int.reduceLE,qdm,ty,h1]
  cases h2 : ((p.nodes.length : Int) == 0)
  rotate_left
  ·simp only [Z3,Nat.reduceAdd,Nat.reduceBEq,Int.reduceBEq,Int.reduceBNe,Int.reduceLT,Int.reduceLE,qdm,ty,h2]
  simp only [Z3,Nat.reduceAdd,Nat.reduceBEq,Int.reduceBEq,Int.reduceBNe,Int.reduceLT,Int.reduceLE,qdm,ty,h2]
  cases h3 : decide (16 < (p.nodes.length : Int))
  rotate_left
  ·simp only [Z3,Nat.reduceAdd,Nat.reduceBEq,Int.reduceBEq,Int.reduceBNe,Int.reduceLT,Int.reduceLE,qdm,ty,h3]
  simp only [Z3,Nat.reduceAdd,Nat.reduceBEq,Int.reduceBEq,Int.reduceBNe,Int.reduceLT,Int.reduceLE,qdm,ty,h3]
  generalize hb : qan PP cmp0 C lpC _ = f; generalize hl : lpC f _ = r
  obtain ⟨ex,s',rfl,h2⟩ := qdv (α := Nat) hl [4,7,33,34,35,36,37,38,39,40,41,42,43,44,45,46,47,48,49] (fun i => [(32,.int .i64 i)]) (fun i => i ≤ p.enums.length) (fun i => p.enums.length - i) (fun i => (p.enums.drop i).all fun x => qco true x.name && qoj true x.cons 1 8)
   (qhm 0 [4,7,32,33,34,35,36,37,38,39,40,41,42,43,44,45,46,47,48,49] [7,32,33,34,35,36,37,38,39,40,41,42,43,44,45,46,47,48,49] 4) 0 (Nat.zero_le _) (by simp only [At,ats,Int.natCast_zero,List.drop_left,List.drop_length,List.append_nil]) (by
    intro i j H d hi
    clear hl; subst hb
    by_cases hlt : i < p.enums.length
    ·have e1 : ((i : Int) < (p.enums.length : Int)) := by omega
     have e3 : (p.enums.map PEnum.cells)[i]? = some (PEnum.cells p.enums[i]) := by simp [hlt]
     have hm := List.getElem_mem hlt
     have c3 := c1 p.enums[i] hm
     have c4 := c2 p.enums[i] hm
     simp only [Z3,Nat.reduceAdd,Nat.reduceBEq,Int.reduceBEq,Int.reduceBNe,Int.reduceLT,Int.reduceLE,qdm,ty,e1,e3,c3 _,c4 _]
     cases hc0 : qco true p.enums[i].name
     ·simp only [Z3,Nat.reduceAdd,Nat.reduceBEq,Int.reduceBEq,Int.reduceBNe,Int.reduceLT,Int.reduceLE,qdm,ty,e1,e3,c3 _,c4 _,hc0]
      exact .inr ⟨_,_,rfl,by simp,.inr ⟨by simp only [List.drop_eq_getElem_cons hlt,List.all_cons,hc0,Bool.false_and,Bool.and_false],rfl,by simp only [At,ats,Int.natCast_zero,List.drop_left,List.drop_length,List.append_nil]⟩⟩
     cases hc1 : qoj true p.enums[i].cons 1 8
     ·simp only [Z3,Nat.reduceAdd,Nat.reduceBEq,Int.reduceBEq,Int.reduceBNe,Int.reduceLT,Int.reduceLE,qdm,ty,e1,e3,c3 _,c4 _,hc0,hc1]
      exact .inr ⟨_,_,rfl,by simp,.inr ⟨by simp only [List.drop_eq_getElem_cons hlt,List.all_cons,hc0,hc1,Bool.false_and,Bool.and_false],rfl,by simp only [At,ats,Int.natCast_zero,List.drop_left,List.drop_length,List.append_nil]⟩⟩
     ·simp only [Z3,Nat.reduceAdd,Nat.reduceBEq,Int.reduceBEq,Int.reduceBNe,Int.reduceLT,Int.reduceLE,qdm,ty,e1,e3,c3 _,c4 _,hc0,hc1,qas (show i ≤ qac by omega)]
      exact .inl ⟨i + 1,_,rfl,hlt,by simp only [At,ats,Int.natCast_zero,List.drop_left,List.drop_length,List.append_nil],by simp only []; omega,by simp only [List.drop_eq_getElem_cons hlt,List.all_cons,hc0,hc1,Bool.true_and]⟩
    ·have e1 : ¬ ((i : Int) < (p.enums.length : Int)) := by omega
     simp only [Z3,Nat.reduceAdd,Nat.reduceBEq,Int.reduceBEq,Int.reduceBNe,Int.reduceLT,Int.reduceLE,qdm,e1]
     exact .inr ⟨_,_,rfl,by simp,.inl ⟨by simp only []; rw [List.drop_eq_nil_of_le (by omega)]; rfl,rfl,by simp only [At,ats,Int.natCast_zero,List.drop_left,List.drop_length,List.append_nil]⟩⟩)
  rw [List.drop_zero] at h2
  rcases h2 with ⟨hr1,rfl,h2⟩ | ⟨hr1,rfl,h2⟩
  rotate_left
  ·obtain ⟨j,H,d,rfl⟩ := h2.elim
   clear hl
   simp only [Z3,Nat.reduceAdd,Nat.reduceBEq,Int.reduceBEq,Int.reduceBNe,Int.reduceLT,Int.reduceLE,hr1]
  obtain ⟨j,H,d,rfl⟩ := h2.elim
  clear hl
  simp only [Z3,Nat.reduceAdd,Nat.reduceBEq,Int.reduceBEq,Int.reduceBNe,Int.reduceLT,Int.reduceLE,qdm,ty,hr1,e5]
end Go.Ab
namespace Go.Ab
open Go Go.Ab.Tab
def qlt (n : PNode) : Bool := decide (300 < (accE (0,0) n.exprs).1) || decide (40 < (accE (0,0) n.exprs).2)
def qfw (made : Bool) (p : PProg) : Int := if qmc made p = true then (if (p.nodes.any qlt) = true then 9 else 0) else 10
def AnyPost (id : Nat) (junk junk' : List Nat) (slot : Nat) (v : AVal) (ts : List AVal) (H : qaa) (r : Bool) (ex : AEx) (s : St) : Prop :=
 (r = false ∧ ex = .exit id ∧ At junk ts H [] s) ∨ (r = true ∧ ex = .ret ∧ At junk' ts H [(slot,v)] s)
theorem right_c (made : Bool) (p : PProg) (hs : p.Small) (hr : p.Rng) : Ret C 38 [.agg p.cells,.bool made] (.int .i64 (qfw made p)) := by
 refine Ret.mk (by simp [qad,refs,p.norefs]) rfl ?_
 have hl1 := hs.2.2.1
 have e1 := program_c made p hs hr
 unfold qam at e1
 unfold qfw
 rw [C_fn rfl Tryz.func38 rfl (by kernel_rfl) (m := 29) rfl]; simp only [Z3,Nat.reduceAdd,Nat.reduceBEq,Int.reduceBEq,Int.reduceBNe,Int.reduceLT,Int.reduceLE,Tryz.f38,qjc,ty,e1 _]
 cases h1 : qmc made p
 ·simp only [Z3,Nat.reduceAdd,Nat.reduceBEq,Int.reduceBEq,Int.reduceBNe,Int.reduceLT,Int.reduceLE,qjc,ty,h1]
 simp only [Z3,Nat.reduceAdd,Nat.reduceBEq,Int.reduceBEq,Int.reduceBNe,Int.reduceLT,Int.reduceLE,qjc,ty,h1]
 generalize hb : qan PP cmp0 C lpC _ = f; generalize hl : lpC f _ = r
 obtain ⟨ex,s',rfl,h2⟩ := qdv (α := Nat) hl [4,6,7,8,18,19,20,21,22,23,24,25,26,27,28,29,30] (fun i => [(17,.int .i64 i)]) (fun i => i ≤ p.nodes.length) (fun i => p.nodes.length - i) (fun i => (p.nodes.drop i).any qlt)
  (AnyPost 0 [4,6,7,8,17,18,19,20,21,22,23,24,25,26,27,28,29,30] [6,7,8,17,18,19,20,21,22,23,24,25,26,27,28,29,30] 4 (.int .i64 9)) 0 (Nat.zero_le _) (by simp only [At,ats,Int.natCast_zero,List.drop_left,List.drop_length,List.append_nil]) (by
   intro i j H d hi
   clear hl; subst hb
   by_cases hlt : i < p.nodes.length
   ·have e2 : ((i : Int) < (p.nodes.length : Int)) := by omega
    obtain ⟨x,hx⟩ : ∃ y,y = p.nodes[i] := ⟨_,rfl⟩
    have e3 : (p.nodes.map PNode.cells)[i]? = some x.cells := by simp [hlt,hx]
    have hm : x ∈ p.nodes := by rw [hx]; exact List.getElem_mem hlt
    simp only [Z3,Nat.reduceAdd,Nat.reduceBEq,Int.reduceBEq,Int.reduceBNe,Int.reduceLT,Int.reduceLE,qjc,ty,e2,e3]
    obtain ⟨E,hE1,hE2⟩ := qy9 qaj (H := .box p.cells :: (H ++ [.box x.cells,.box [.int .i64 0],.box [.int .i64 0]])) (f := 81) (args := [.agg x.cells,.func 82 [] [.ptr (H.length + 1 + 1) 0,.ptr (H.length + 2 + 1) 0]]) (v := .tuple []) (b1 := H.length + 1 + 1) (b2 := H.length + 2 + 1) (x0 := [.int .i64 0]) (x1 := [.int .i64 0]) (y0 := [.int .i64 (accE (0,0) x.exprs).1]) (y1 := [.int .i64 (accE (0,0) x.exprs).2])
     (by simp [qad,refs,x.norefs]) (by omega) (by simp only [List.getElem?_cons_succ,qxv,List.getElem?_cons_zero]) (by simp only [List.getElem?_cons_succ,qxv,List.getElem?_cons_zero]) rfl rfl rfl rfl (by
      have e : renL (fun y => [H.length + 1 + 1,H.length + 2 + 1].idxOf y) [.agg x.cells,.func 82 [] [.ptr (H.length + 1 + 1) 0,.ptr (H.length + 2 + 1) 0]] = [.agg x.cells,.func 82 [] [.ptr 0 0,.ptr 1 0]] := by
       have hbe : (H.length + 1 + 1 == H.length + 2 + 1) = false := beq_false_of_ne (by omega)
       simp only [renL,ren,qb6 x.norefs,List.idxOf_cons,hbe,beq_self_eq_true,cond_true,cond_false]
      rw [e]
      exact each_c x (hs.2.2.2 x hm) (0,0)) rfl
    simp only [List.set_cons_succ,set_at,List.set_cons_zero] at hE2
    simp only [Z3,Nat.reduceAdd,Nat.reduceBEq,Int.reduceBEq,Int.reduceBNe,Int.reduceLT,Int.reduceLE,effs,qjc,ty,hE1,hE2]
    cases hc1 : decide (300 < (accE (0,0) x.exprs).1)
    ·simp only [Z3,Nat.reduceAdd,Nat.reduceBEq,Int.reduceBEq,Int.reduceBNe,Int.reduceLT,Int.reduceLE,effs,qjc,ty,hc1,hE2]
     cases hc2 : decide (40 < (accE (0,0) x.exprs).2)
     ·simp only [Z3,Nat.reduceAdd,Nat.reduceBEq,Int.reduceBEq,Int.reduceBNe,Int.reduceLT,Int.reduceLE,qjc,hc2,qas (show i ≤ qac by omega)]
      exact .inl ⟨i + 1,_,rfl,hlt,by simp only [At,ats,Int.natCast_zero,List.drop_left,List.drop_length,List.append_nil],by simp only []; omega,by simp only [List.drop_eq_getElem_cons hlt,List.any_cons,← hx,qlt,hc1,hc2,Bool.or_self,Bool.false_or]⟩
     ·simp only [Z3,Nat.reduceAdd,Nat.reduceBEq,Int.reduceBEq,Int.reduceBNe,Int.reduceLT,Int.reduceLE,qjc,hc2]
      exact .inr ⟨_,_,rfl,by simp,.inr ⟨by simp only [List.drop_eq_getElem_cons hlt,List.any_cons,← hx,qlt,hc1,hc2,Bool.or_true,Bool.true_or],rfl,by simp only [At,ats,Int.natCast_zero,List.drop_left,List.drop_length,List.append_nil]⟩⟩
    ·simp only [Z3,Nat.reduceAdd,Nat.reduceBEq,Int.reduceBEq,Int.reduceBNe,Int.reduceLT,Int.reduceLE,qjc,hc1]
     exact .inr ⟨_,_,rfl,by simp,.inr ⟨by simp only [List.drop_eq_getElem_cons hlt,List.any_cons,← hx,qlt,hc1,Bool.true_or],rfl,by simp only [At,ats,Int.natCast_zero,List.drop_left,List.drop_length,List.append_nil]⟩⟩
   ·have e2 : ¬ ((i : Int) < (p.nodes.length : Int)) := by omega
    simp only [Z3,Nat.reduceAdd,Nat.reduceBEq,Int.reduceBEq,Int.reduceBNe,Int.reduceLT,Int.reduceLE,qjc,e2]
    exact .inr ⟨_,_,rfl,by simp,.inl ⟨by simp only []; rw [List.drop_eq_nil_of_le (by omega)]; rfl,rfl,by simp only [At,ats,Int.natCast_zero,List.drop_left,List.drop_length,List.append_nil]⟩⟩)
 rw [List.drop_zero] at h2
 rcases h2 with ⟨hr1,rfl,h2⟩ | ⟨hr1,rfl,h2⟩
 ·obtain ⟨j,H,d,rfl⟩ := h2.elim
  clear hl
  simp only [Z3,Nat.reduceAdd,Nat.reduceBEq,Int.reduceBEq,Int.reduceBNe,Int.reduceLT,Int.reduceLE,qjc,hr1]
 ·obtain ⟨j,H,d,rfl⟩ := h2.elim
  clear hl
  simp only [Z3,Nat.reduceAdd,Nat.reduceBEq,Int.reduceBEq,Int.reduceBNe,Int.reduceLT,Int.reduceLE,qjc,hr1]
end Go.Ab
