/- Which programs may be, and aren't too great. -/
import Derived.Test.YtngklkmeknmloaaGreatDoorAbBox
import Derived.Test.YtngklkmeknmloaaGreatDoorAbBox2
import Derived.Test.YtngklkmeknmloaaGreatDoorAbReadT
set_option linter.unusedSimpArgs false
set_option linter.unusedVariables false
set_option maxRecDepth 100000
set_option maxHeartbeats 4000000
open Go.Proofs
open Int renaming natCast_zero→wa
open List renaming drop_eq_getElem_cons→wb,append_nil→wc,drop_length→wd,drop_left→we,drop_eq_nil_of_le→wf,append_assoc→wg,nil_append→wh,cons_append→wi,getElem_mem→wj,all_cons→wk,drop_zero→wm,flatMap_nil→wt,map_nil→ww,flatMap_cons→w6,map_cons→w7,getElem?_cons_succ→w9,getElem?_cons_zero→waa,singleton_append→wba,forall_mem_cons→wca,any_cons→wda
open Nat renaming zero_le→wo,le_of_not_lt→wq
open Bool renaming false_and→wu,and_false→wv,true_and→w8,true_or→wea
open Classical renaming skolem→wz
namespace Go.Ab
open Go Go.Ab.Tab
theorem PItem.get_names (x:PItem):x.cells[0]? =some (qag x.eq.names):=by unfold PItem.cells PEq.cells;rfl
theorem PItem.sub_e (x:PItem):List.take 5 (List.drop 1 x.cells)=x.eq.e.cells:=by
 unfold PItem.cells PEq.cells;exact x.eq.e.takeA _
theorem qrn (n:Nat) (h:qab) (b:Nat) (k:IntKind) (z:Int) (hb:h[b]? =some (.box [.int k z])):qih n h b:=⟨_,hb,fun mv=>by
 unfold qg5;rw[hb];rfl⟩
theorem stay2 {h:qab} (h0:qih 2 h 0) (h1:qih 2 h 1):∀b,b<2→qih 2 h b:=fun b hb=>by
 rcases b with _|_|b
 ·exact h0
 ·exact h1
 ·omega
theorem right1_c (x:PExpr) (hx:x.Small) (a b:Int):qbi C 82 [.agg x.cells,.ptr 0 0,.ptr 1 0] [.box [.int .i64 a],.box [.int .i64 b]] (.tuple []) [.box [.int .i64 (wadd a x.size)],.box [.int .i64 (imax b x.depth)]]:=by
 have c17:=size_c x hx
 have c18:=depth_c x hx
 refine qa6 rfl Tryz.func82 rfl (by kernel_rfl) (m:=9) rfl ?_;simp only[Z3,simprocAttr,Tryz.f82,fx_82,c17 _,c18 _]
 exact qcy (.inr rfl) rfl rfl rfl (stay2 (qrn _ _ _ _ _ rfl) (qrn _ _ _ _ _ rfl)) rfl
def PState.exprs (s:PState):List PExpr:=s.eqs.map (·.e)++s.ways.map (·.cond)
def PItem.exprs (x:PItem):List PExpr:=(if x.states.length=0 then[x.eq.e]else[])++x.states.flatMap PState.exprs
def PNode.exprs (n:PNode):List PExpr:=n.items.flatMap PItem.exprs
def accE (p:Int×Int) (l:List PExpr):Int×Int:=l.foldl (fun p x=>(wadd p.1 x.size,imax p.2 x.depth)) p
theorem qhv (p:Int×Int):accE p []=p:=rfl
theorem qkb (p:Int×Int) (x:PExpr) (l:List PExpr):accE p (x::l)=accE (wadd p.1 x.size,imax p.2 x.depth) l:=rfl
theorem qro (p:Int×Int) (l m:List PExpr):accE p (l++m)=accE (accE p l) m:=by simp[accE,List.foldl_append]
abbrev twoI (p:Int×Int):qab:=[.box [.int .i64 p.1],.box [.int .i64 p.2]]
theorem each_c (n:PNode) (hn:n.Small) (p:Int×Int):qbi C 81 [.agg n.cells,.func 82 [] [.ptr 0 0,.ptr 1 0]] (twoI p) (.tuple []) (twoI (accE p n.exprs)):=by
 have hdo:∀(x:PExpr),x.Small→∀(p:Int×Int) (H:qab),qnz C (.box [.int .i64 p.1]:: .box [.int .i64 p.2]::H) 82 [.agg x.cells,.ptr 0 0,.ptr 1 0] (.tuple []) (.box [.int .i64 (wadd p.1 x.size)]:: .box [.int .i64 (imax p.2 x.depth)]::H):=by
  intro x hx p H
  have:=qzh qaw (H:= .box [.int .i64 p.1]:: .box [.int .i64 p.2]::H) (f:=82) (args:=[.agg x.cells,.ptr 0 0,.ptr 1 0]) (b1:=0) (b2:=1) (by simp[qad,refs,x.norefs]) (by decide) rfl rfl rfl rfl rfl rfl (by
   have e:renL (fun x=>[0,1].idxOf x) [.agg x.cells,.ptr 0 0,.ptr 1 0]=[.agg x.cells,.ptr 0 0,.ptr 1 0]:=by
    simp only[renL,ren,qbs x.norefs];rfl
   rw[e]
   exact right1_c x hx p.1 p.2) rfl
  exact this
 refine qa6 rfl Tryz.func81 rfl (by kernel_rfl) (m:=59) rfl ?_;simp only[Z3,simprocAttr,Tryz.f81,qew,ty]
 generalize hb:qam PP cmp0 C lpC _=f;generalize hl:lpC f _=r
 obtain⟨ex,s,rfl,rfl,h2⟩:=qes (α:=Nat×Int×Int) hl [5,7,9,11,16,17,18,19,20,21,22,23,24,25,26,27,28,29,30,31,32,33,34,35,36,37,38,39,40,41,42,43,44,45,46,47,48,49,50,51,52,53,54,55,56,57,58,59,60] (fun a=>[(15,.int .i64 a.1)]) (fun a=> .box [.int .i64 a.2.1]:: .box [.int .i64 a.2.2]::[.box n.cells]) (fun a=>a.1≤n.items.length) (fun a=>n.items.length-a.1) (fun a=>accE a.2 ((n.items.drop a.1).flatMap PItem.exprs))
  (fun ts r ex s=>ex= .exit 0∧At [5,7,9,11,15,16,17,18,19,20,21,22,23,24,25,26,27,28,29,30,31,32,33,34,35,36,37,38,39,40,41,42,43,44,45,46,47,48,49,50,51,52,53,54,55,56,57,58,59,60] ts (.box [.int .i64 r.1]:: .box [.int .i64 r.2]::[.box n.cells]) [] s) (0,p) (wo _) (At.of [] (by simp only[ats,wa]) (by simp only[wc])) (by
   rintro⟨i,p⟩ j H d hi
   clear hl;subst hb
   simp only at hi
   by_cases hlt:i<n.items.length
   ·have e1:((i:Int)<(n.items.length:Int)):=by omega
    obtain⟨x,hx⟩:∃yy,yy=n.items[i]:=⟨_,rfl⟩
    have e3:(n.items.map PItem.cells)[i]? =some (PItem.cells x):=by simp[hlt,hx]
    have hm:x∈n.items:=by rw[hx];exact wj hlt
    have hl0:=hn.2.2.2.2.1
    have hxs:=hn.2.2.2.2.2 x hm
    obtain⟨E0,hE0⟩:=wz.1 (hdo x.eq.e hxs.1.2 p)
    simp only[Z3,simprocAttr,effs,qew,ty,e1,e3]
    cases hz:((x.states.length:Int)==0)
    ·have hz':¬x.states.length=0:=fun h=>by simp[h]at hz
     simp only[Z3,simprocAttr,effs,qew,ty,hz]
     generalize hba:qam PP cmp0 C lpC _=fa;generalize hla:lpC fa _=ra
     obtain⟨exa,sa,rfl,rfl,h2a⟩:=qes (α:=Nat×Int×Int) hla [7,9,11,32,33,34,35,36,37,38,39,40,41,42,43,44,45,46,47,48,49,50,51,52,53,54,55,56,57,58,59] (fun a=>[(31,.int .i64 a.1)]) (fun a=> .box [.int .i64 a.2.1]:: .box [.int .i64 a.2.2]:: .box n.cells::(H++[.box x.cells])) (fun a=>a.1≤x.states.length) (fun a=>x.states.length-a.1) (fun a=>accE a.2 ((x.states.drop a.1).flatMap PState.exprs))
      (fun ts r ex s=>ex= .exit 2∧At [7,9,11,31,32,33,34,35,36,37,38,39,40,41,42,43,44,45,46,47,48,49,50,51,52,53,54,55,56,57,58,59] ts (.box [.int .i64 r.1]:: .box [.int .i64 r.2]:: .box n.cells::(H++[.box x.cells])) [] s) (0,p) (wo _) (At.of [] (by simp only[ats,wa]) (by simp only[wc])) (by
       rintro⟨ia,pa⟩ ja Ha da hia
       clear hla;subst hba
       simp only at hia
       by_cases hlta:ia<x.states.length
       ·have e1a:((ia:Int)<(x.states.length:Int)):=by omega
        obtain⟨xa,hxa⟩:∃yy,yy=x.states[ia]:=⟨_,rfl⟩
        have e3a:(x.states.map PState.cells)[ia]? =some (PState.cells xa):=by simp[hlta,hxa]
        have hma:xa∈x.states:=by rw[hxa];exact wj hlta
        have hsa:=hxs.2.2 xa hma
        have hl1:=hxs.2.1
        have hl2:=hsa.2.1
        have hl3:=hsa.2.2.2.1
        simp only[Z3,simprocAttr,effs,qew,ty,e1a,e3a]
        generalize hbb:qam PP cmp0 C lpC _=fb;generalize hlb:lpC fb _=rb
        obtain⟨exb,sb,rfl,rfl,h2b⟩:=qes (α:=Nat×Int×Int) hlb [9,39,40,41,42,43,44,45,46] (fun a=>[(38,.int .i64 a.1)]) (fun a=> .box [.int .i64 a.2.1]:: .box [.int .i64 a.2.2]:: .box n.cells::(H++ .box x.cells::(Ha++[.box xa.cells]))) (fun a=>a.1≤xa.eqs.length) (fun a=>xa.eqs.length-a.1) (fun a=>accE a.2 ((xa.eqs.drop a.1).map (·.e)))
         (fun ts r ex s=>ex= .exit 4∧At [9,38,39,40,41,42,43,44,45,46] ts (.box [.int .i64 r.1]:: .box [.int .i64 r.2]:: .box n.cells::(H++ .box x.cells::(Ha++[.box xa.cells]))) [] s) (0,pa) (wo _) (At.of [] (by simp only[ats,wa]) (by simp only[wc])) (by
          rintro⟨ib,pb⟩ jb Hb db hib
          clear hlb;subst hbb
          simp only at hib
          by_cases hltb:ib<xa.eqs.length
          ·have e1b:((ib:Int)<(xa.eqs.length:Int)):=by omega
           obtain⟨xb,hxb⟩:∃yy,yy=xa.eqs[ib]:=⟨_,rfl⟩
           have e3b:(xa.eqs.map PEq.cells)[ib]? =some (PEq.cells xb):=by simp[hltb,hxb]
           have hmb:xb∈xa.eqs:=by rw[hxb];exact wj hltb
           obtain⟨Eb,hEb⟩:=wz.1 (hdo xb.e ((fun(y:PEq) hy=>(hsa.2.2.1 y hy).2) xb hmb) pb)
           simp only[Z3,simprocAttr,effs,qew,ty,e1b,e3b,(hEb _).1,(hEb _).2,qaz (show ib≤qac by omega)]
           exact .inl ⟨(ib+1,wadd pb.1 xb.e.size,imax pb.2 xb.e.depth),_,rfl,hltb,At.of _ (by simp only[ats,wa]) (by simp only[wi,wg,wh];rfl),by simp only[];omega,by simp only[wb hltb,w7,←hxb,qkb]⟩
          ·have e1b:¬((ib:Int)<(xa.eqs.length:Int)):=by omega
           simp only[Z3,simprocAttr,qew,e1b]
           refine .inr ⟨_,_,rfl,by simp,rfl,?_⟩
           simp only[wf (wq hltb),ww,wt,qhv]
           exact At.of _ (by simp only[ats,wa]) (by simp only[wi,wg,wh];rfl))
        obtain⟨jb',Hb',db',rfl⟩:=h2b.elim
        clear hlb
        simp only[Z3,simprocAttr,effs,qew,ty]
        generalize hbc:qam PP cmp0 C lpC _=fc;generalize hlc:lpC fc _=rc
        obtain⟨exc,sc,rfl,rfl,h2c⟩:=qes (α:=Nat×Int×Int) hlc [11,51,52,53,54,55,56,57,58] (fun a=>[(50,.int .i64 a.1)]) (fun a=> .box [.int .i64 a.2.1]:: .box [.int .i64 a.2.2]:: .box n.cells::(H++ .box x.cells::(Ha++ .box xa.cells::Hb'))) (fun a=>a.1≤xa.ways.length) (fun a=>xa.ways.length-a.1) (fun a=>accE a.2 ((xa.ways.drop a.1).map (·.cond)))
         (fun ts r ex s=>ex= .exit 6∧At [11,50,51,52,53,54,55,56,57,58] ts (.box [.int .i64 r.1]:: .box [.int .i64 r.2]:: .box n.cells::(H++ .box x.cells::(Ha++ .box xa.cells::Hb'))) [] s) (0,(accE pa (xa.eqs.map (·.e)))) (wo _) (At.of [] (by simp only[ats,wa]) (by simp only[wc])) (by
          rintro⟨ic,pc⟩ jc Hc dc hic
          clear hlc;subst hbc
          simp only at hic
          by_cases hltc:ic<xa.ways.length
          ·have e1c:((ic:Int)<(xa.ways.length:Int)):=by omega
           obtain⟨xc,hxc⟩:∃yy,yy=xa.ways[ic]:=⟨_,rfl⟩
           have e3c:(xa.ways.map PWay.cells)[ic]? =some (PWay.cells xc):=by simp[hltc,hxc]
           have hmc:xc∈xa.ways:=by rw[hxc];exact wj hltc
           obtain⟨Ec,hEc⟩:=wz.1 (hdo xc.cond ((fun(y:PWay) hy=>(hsa.2.2.2.2 y hy).1) xc hmc) pc)
           simp only[Z3,simprocAttr,effs,qew,ty,e1c,e3c,(hEc _).1,(hEc _).2,qaz (show ic≤qac by omega)]
           exact .inl ⟨(ic+1,wadd pc.1 xc.cond.size,imax pc.2 xc.cond.depth),_,rfl,hltc,At.of _ (by simp only[ats,wa]) (by simp only[wi,wg,wh];rfl),by simp only[];omega,by simp only[wb hltc,w7,←hxc,qkb]⟩
          ·have e1c:¬((ic:Int)<(xa.ways.length:Int)):=by omega
           simp only[Z3,simprocAttr,qew,e1c]
           refine .inr ⟨_,_,rfl,by simp,rfl,?_⟩
           simp only[wf (wq hltc),ww,wt,qhv]
           exact At.of _ (by simp only[ats,wa]) (by simp only[wi,wg,wh];rfl))
        obtain⟨jc',Hc',dc',rfl⟩:=h2c.elim
        clear hlc
        simp only[Z3,simprocAttr,qew,ty,qaz (show ia≤qac by omega)]
        exact .inl ⟨(ia+1,(accE (accE pa (xa.eqs.map (·.e))) (xa.ways.map (·.cond)))),_,rfl,hlta,At.of _ (by simp only[ats,wa]) (by simp only[wi,wg,wh];rfl),by simp only[];omega,by simp only[wb hlta,w6,←hxa,PState.exprs,qro,wm]⟩
       ·have e1a:¬((ia:Int)<(x.states.length:Int)):=by omega
        simp only[Z3,simprocAttr,qew,e1a]
        refine .inr ⟨_,_,rfl,by simp,rfl,?_⟩
        simp only[wf (wq hlta),ww,wt,qhv]
        exact At.of _ (by simp only[ats,wa]) (by simp only[wi,wg,wh];rfl))
     obtain⟨ja',Ha',da',rfl⟩:=h2a.elim
     clear hla
     simp only[Z3,simprocAttr,effs,qew,ty,qaz (show i≤qac by omega)]
     exact .inl ⟨(i+1,(accE p (x.states.flatMap PState.exprs))),_,rfl,hlt,At.of _ (by simp only[ats,wa]) (by simp only[wi,wg,wh];rfl),by simp only[];omega,by simp only[wb hlt,w6,←hx,PItem.exprs,if_neg hz',qro,qkb,qhv,wm,wh,wba]⟩
    ·have hz':x.states.length=0:=by simpa using hz
     simp only[Z3,simprocAttr,effs,qew,ty,hz,PItem.sub_e,(hE0 _).1,(hE0 _).2]
     generalize hba:qam PP cmp0 C lpC _=fa;generalize hla:lpC fa _=ra
     obtain⟨exa,sa,rfl,rfl,h2a⟩:=qes (α:=Nat×Int×Int) hla [7,9,11,32,33,34,35,36,37,38,39,40,41,42,43,44,45,46,47,48,49,50,51,52,53,54,55,56,57,58,59] (fun a=>[(31,.int .i64 a.1)]) (fun a=> .box [.int .i64 a.2.1]:: .box [.int .i64 a.2.2]:: .box n.cells::(H++[.box x.cells])) (fun a=>a.1≤x.states.length) (fun a=>x.states.length-a.1) (fun a=>accE a.2 ((x.states.drop a.1).flatMap PState.exprs))
      (fun ts r ex s=>ex= .exit 2∧At [7,9,11,31,32,33,34,35,36,37,38,39,40,41,42,43,44,45,46,47,48,49,50,51,52,53,54,55,56,57,58,59] ts (.box [.int .i64 r.1]:: .box [.int .i64 r.2]:: .box n.cells::(H++[.box x.cells])) [] s) (0,(wadd p.1 x.eq.e.size,imax p.2 x.eq.e.depth)) (wo _) (At.of [] (by simp only[ats,wa]) (by simp only[wc])) (by
       rintro⟨ia,pa⟩ ja Ha da hia
       clear hla;subst hba
       simp only at hia
       by_cases hlta:ia<x.states.length
       ·have e1a:((ia:Int)<(x.states.length:Int)):=by omega
        obtain⟨xa,hxa⟩:∃yy,yy=x.states[ia]:=⟨_,rfl⟩
        have e3a:(x.states.map PState.cells)[ia]? =some (PState.cells xa):=by simp[hlta,hxa]
        have hma:xa∈x.states:=by rw[hxa];exact wj hlta
        have hsa:=hxs.2.2 xa hma
        have hl1:=hxs.2.1
        have hl2:=hsa.2.1
        have hl3:=hsa.2.2.2.1
        simp only[Z3,simprocAttr,effs,qew,ty,e1a,e3a]
        generalize hbb:qam PP cmp0 C lpC _=fb;generalize hlb:lpC fb _=rb
        obtain⟨exb,sb,rfl,rfl,h2b⟩:=qes (α:=Nat×Int×Int) hlb [9,39,40,41,42,43,44,45,46] (fun a=>[(38,.int .i64 a.1)]) (fun a=> .box [.int .i64 a.2.1]:: .box [.int .i64 a.2.2]:: .box n.cells::(H++ .box x.cells::(Ha++[.box xa.cells]))) (fun a=>a.1≤xa.eqs.length) (fun a=>xa.eqs.length-a.1) (fun a=>accE a.2 ((xa.eqs.drop a.1).map (·.e)))
         (fun ts r ex s=>ex= .exit 4∧At [9,38,39,40,41,42,43,44,45,46] ts (.box [.int .i64 r.1]:: .box [.int .i64 r.2]:: .box n.cells::(H++ .box x.cells::(Ha++[.box xa.cells]))) [] s) (0,pa) (wo _) (At.of [] (by simp only[ats,wa]) (by simp only[wc])) (by
          rintro⟨ib,pb⟩ jb Hb db hib
          clear hlb;subst hbb
          simp only at hib
          by_cases hltb:ib<xa.eqs.length
          ·have e1b:((ib:Int)<(xa.eqs.length:Int)):=by omega
           obtain⟨xb,hxb⟩:∃yy,yy=xa.eqs[ib]:=⟨_,rfl⟩
           have e3b:(xa.eqs.map PEq.cells)[ib]? =some (PEq.cells xb):=by simp[hltb,hxb]
           have hmb:xb∈xa.eqs:=by rw[hxb];exact wj hltb
           obtain⟨Eb,hEb⟩:=wz.1 (hdo xb.e ((fun(y:PEq) hy=>(hsa.2.2.1 y hy).2) xb hmb) pb)
           simp only[Z3,simprocAttr,effs,qew,ty,e1b,e3b,(hEb _).1,(hEb _).2,qaz (show ib≤qac by omega)]
           exact .inl ⟨(ib+1,wadd pb.1 xb.e.size,imax pb.2 xb.e.depth),_,rfl,hltb,At.of _ (by simp only[ats,wa]) (by simp only[wi,wg,wh];rfl),by simp only[];omega,by simp only[wb hltb,w7,←hxb,qkb]⟩
          ·have e1b:¬((ib:Int)<(xa.eqs.length:Int)):=by omega
           simp only[Z3,simprocAttr,qew,e1b]
           refine .inr ⟨_,_,rfl,by simp,rfl,?_⟩
           simp only[wf (wq hltb),ww,wt,qhv]
           exact At.of _ (by simp only[ats,wa]) (by simp only[wi,wg,wh];rfl))
        obtain⟨jb',Hb',db',rfl⟩:=h2b.elim
        clear hlb
        simp only[Z3,simprocAttr,effs,qew,ty]
        generalize hbc:qam PP cmp0 C lpC _=fc;generalize hlc:lpC fc _=rc
        obtain⟨exc,sc,rfl,rfl,h2c⟩:=qes (α:=Nat×Int×Int) hlc [11,51,52,53,54,55,56,57,58] (fun a=>[(50,.int .i64 a.1)]) (fun a=> .box [.int .i64 a.2.1]:: .box [.int .i64 a.2.2]:: .box n.cells::(H++ .box x.cells::(Ha++ .box xa.cells::Hb'))) (fun a=>a.1≤xa.ways.length) (fun a=>xa.ways.length-a.1) (fun a=>accE a.2 ((xa.ways.drop a.1).map (·.cond)))
         (fun ts r ex s=>ex= .exit 6∧At [11,50,51,52,53,54,55,56,57,58] ts (.box [.int .i64 r.1]:: .box [.int .i64 r.2]:: .box n.cells::(H++ .box x.cells::(Ha++ .box xa.cells::Hb'))) [] s) (0,(accE pa (xa.eqs.map (·.e)))) (wo _) (At.of [] (by simp only[ats,wa]) (by simp only[wc])) (by
          rintro⟨ic,pc⟩ jc Hc dc hic
          clear hlc;subst hbc
          simp only at hic
          by_cases hltc:ic<xa.ways.length
          ·have e1c:((ic:Int)<(xa.ways.length:Int)):=by omega
           obtain⟨xc,hxc⟩:∃yy,yy=xa.ways[ic]:=⟨_,rfl⟩
           have e3c:(xa.ways.map PWay.cells)[ic]? =some (PWay.cells xc):=by simp[hltc,hxc]
           have hmc:xc∈xa.ways:=by rw[hxc];exact wj hltc
           obtain⟨Ec,hEc⟩:=wz.1 (hdo xc.cond ((fun(y:PWay) hy=>(hsa.2.2.2.2 y hy).1) xc hmc) pc)
           simp only[Z3,simprocAttr,effs,qew,ty,e1c,e3c,(hEc _).1,(hEc _).2,qaz (show ic≤qac by omega)]
           exact .inl ⟨(ic+1,wadd pc.1 xc.cond.size,imax pc.2 xc.cond.depth),_,rfl,hltc,At.of _ (by simp only[ats,wa]) (by simp only[wi,wg,wh];rfl),by simp only[];omega,by simp only[wb hltc,w7,←hxc,qkb]⟩
          ·have e1c:¬((ic:Int)<(xa.ways.length:Int)):=by omega
           simp only[Z3,simprocAttr,qew,e1c]
           refine .inr ⟨_,_,rfl,by simp,rfl,?_⟩
           simp only[wf (wq hltc),ww,wt,qhv]
           exact At.of _ (by simp only[ats,wa]) (by simp only[wi,wg,wh];rfl))
        obtain⟨jc',Hc',dc',rfl⟩:=h2c.elim
        clear hlc
        simp only[Z3,simprocAttr,qew,ty,qaz (show ia≤qac by omega)]
        exact .inl ⟨(ia+1,(accE (accE pa (xa.eqs.map (·.e))) (xa.ways.map (·.cond)))),_,rfl,hlta,At.of _ (by simp only[ats,wa]) (by simp only[wi,wg,wh];rfl),by simp only[];omega,by simp only[wb hlta,w6,←hxa,PState.exprs,qro,wm]⟩
       ·have e1a:¬((ia:Int)<(x.states.length:Int)):=by omega
        simp only[Z3,simprocAttr,qew,e1a]
        refine .inr ⟨_,_,rfl,by simp,rfl,?_⟩
        simp only[wf (wq hlta),ww,wt,qhv]
        exact At.of _ (by simp only[ats,wa]) (by simp only[wi,wg,wh];rfl))
     obtain⟨ja',Ha',da',rfl⟩:=h2a.elim
     clear hla
     simp only[Z3,simprocAttr,effs,qew,ty,qaz (show i≤qac by omega)]
     exact .inl ⟨(i+1,(accE (wadd p.1 x.eq.e.size,imax p.2 x.eq.e.depth) (x.states.flatMap PState.exprs))),_,rfl,hlt,At.of _ (by simp only[ats,wa]) (by simp only[wi,wg,wh];rfl),by simp only[];omega,by simp only[wb hlt,w6,←hx,PItem.exprs,if_pos hz',qro,qkb,qhv,wm,wh,wba]⟩
   ·have e1:¬((i:Int)<(n.items.length:Int)):=by omega
    simp only[Z3,simprocAttr,qew,e1]
    refine .inr ⟨_,_,rfl,by simp,rfl,?_⟩
    simp only[wf (wq hlt),ww,wt,qhv]
    exact At.of _ (by simp only[ats,wa]) (by simp only[wi,wg,wh];rfl))
 obtain⟨j',H',d',rfl⟩:=h2.elim
 clear hl
 rw[wm]
 simp only[Z3,simprocAttr,qew]
 exact qcy (.inr rfl) rfl rfl rfl (stay2 (qrn _ _ _ _ _ rfl) (qrn _ _ _ _ _ rfl)) rfl
end Go.Ab
namespace Go.Ab
open Go Go.Ab.Tab
def qhw (id:Nat) (junk junk':List Nat) (slot:Nat) (ts:List AVal) (H:qab) (r:Bool) (ex:AEx) (s:St):Prop:=
 (r=true∧ex= .exit id∧At junk ts H [] s)∨(r=false∧ex= .ret∧At junk' ts H [(slot,.bool false)] s)
theorem PExpr.Rng.n {e:PExpr} (h:e.Rng):qbp e.n:=by cases h;assumption
theorem PExpr.Rng.kids {e:PExpr} (h:e.Rng):∀k∈e.kids,k.Rng:=by cases h;assumption
theorem expr2_c (made:Bool) (x:PExpr) (b:Bool) (h:Ret C 269 [qan made,.agg x.cells] (.bool b)):C 285 [.agg x.cells,.ptr 0 0] [.box [.bool made]]=some (.ret (.bool (!b)) .same):=by
 unfold qan at h
 rw[C_fn rfl Tryz.func285 rfl (by kernel_rfl) (m:=6) rfl];simp only[Z3,Nat.reduceAdd,Nat.reduceBEq,Int.reduceBEq,Int.reduceBNe,Int.reduceLT,Int.reduceLE,Tryz.f285,fx_285,h _,qa0 1 _ _ [] (by simp)]
theorem expr_c (made:Bool) (e:PExpr):e.Small→e.Rng→Ret C 269 [qan made,.agg e.cells] (.bool (qa1 made e)):=by
 induction e using PExpr.induct with
 |h op name n cons kids ih=>
  intro hs hr
  obtain⟨e,he⟩:∃e,e=PExpr.mk op name n cons kids:=⟨_,rfl⟩
  rw[←he]at hs hr ⊢
  have hkids:e.kids=kids:=by rw[he];rfl
  have hk:∀H,qai C (.box [.bool made]::H) 284 [.slice (e.kids.map PExpr.cells) .free,.func 285 [] [.ptr 0 0]]=some (.ret (.bool (e.kids.any fun x=> !qa1 made x)) .same):=fun H=>
   qbd (b:=0) _ rfl rfl rfl (qvv e.kids hs.kids.1 _ _ rfl (fun x=> !qa1 made x) (fun x hx H=>
    qbd (b:=0) _ (by simp[qad,refs,x.norefs]) rfl rfl (by
     simp only[renL,ren,qbs x.norefs]
     exact expr2_c made x _ (ih x (hkids▸hx) (hs.kids.2 x hx) (hr.kids x hx))) rfl)) rfl
  have ha:qad [qan made,.agg e.cells]=[]:=by simp[qad,refs,e.norefs,qan]
  refine Ret.mk ha rfl ?_
  by_cases h:∀i∈[1,2,3,4,5,6,7,8,9,10,11,12,13,14,15],e.op≠i
  ·have hw:qa1 made e=false:=by
    have:wnt made e.op=none:=by
     simp only[wca]at h
     obtain⟨h1,h2,h3,h4,h5,h6,h7,h8,h9,h10,h11,h12,h13,h14,h15,-⟩:=h
     unfold wnt
     rw[if_neg h1,if_neg h2,if_neg h3,if_neg h4,if_neg h5,if_neg h6,if_neg h7,if_neg h8,if_neg h9,if_neg h10,if_neg h11,if_neg h12,if_neg h13,if_neg h14,if_neg h15]
    rw[qea,this];rfl
   rw[hw]
   have e1:=of_none made e.op h
   unfold qan at e1
   rw[C_fn rfl Tryz.func269 rfl (by kernel_rfl) (m:=107) rfl];simp only[Z3,Nat.reduceAdd,Nat.reduceBEq,Int.reduceBEq,Int.reduceBNe,Int.reduceLT,Int.reduceLE,Tryz.f269,qak,qan,e1 _]
  ·simp only[wca,Classical.not_and_iff_not_or_not,Classical.not_not,ne_eq]at h
   rcases h with h|h|h|h|h|h|h|h|h|h|h|h|h|h|h|h
   ·exact expr_1 made e h hs hr.n hk
   ·exact expr_2 made e h hs hr.n hk
   ·exact expr_3 made e h hs hr.n hk
   ·exact expr_4 made e h hs hr.n hk
   ·exact expr_5 made e h hs hr.n hk
   ·exact expr_6 made e h hs hr.n hk
   ·exact expr_7 made e h hs hr.n hk
   ·exact expr_8 made e h hs hr.n hk
   ·exact expr_9 made e h hs hr.n hk
   ·exact expr_10 made e h hs hr.n hk
   ·exact expr_11 made e h hs hr.n hk
   ·exact expr_12 made e h hs hr.n hk
   ·exact expr_13 made e h hs hr.n hk
   ·exact expr_14 made e h hs hr.n hk
   ·exact expr_15 made e h hs hr.n hk
   ·exact absurd (fun _ hx=>by cases hx) h
def qk3 (made:Bool) (l:List Str) (least most:Int):Bool:=decide (least≤(l.length:Int)) && decide ((l.length:Int)≤most) && !l.any fun s=> !qde made s
def qun (made:Bool) (l:List Str) (least most:Int):Bool:=decide (least≤(l.length:Int)) && decide ((l.length:Int)≤most) && !l.any fun s=> !conB made s
theorem qup (made:Bool) (l:List Str) (hl:qfm l) (least most:Int):Ret C 138 [qag l,.int .i64 least,.int .i64 most,.func 137 [.agg [.bool made]] []] (.bool (qk3 made l least most)):=
 all_c l hl.1 least most _ [.agg [.bool made]] rfl (qde made) (fun x hx=>qkx made x (hl.2 x hx))
theorem cons_c (made:Bool) (l:List Str) (hl:qfm l) (least most:Int):Ret C 138 [qag l,.int .i64 least,.int .i64 most,.func 139 [.agg [.bool made]] []] (.bool (qun made l least most)):=
 all_c l hl.1 least most _ [.agg [.bool made]] rfl (conB made) (fun x hx=>qrk made x (hl.2 x hx))
def eqB (made:Bool) (q:PEq):Bool:=qk3 made q.names 1 6 && qa1 made q.e
theorem eq_c (made:Bool) (q:PEq) (hs:q.Small) (hr:q.Rng):Ret C 243 [qan made,.agg q.cells] (.bool (eqB made q)):=by
 refine Ret.mk (by simp[qad,refs,q.norefs,qan]) rfl ?_
 have e1:=qup made q.names hs.1 1 6
 have e2:=expr_c made q.e hs.2 hr
 unfold qan at*
 rw[C_fn rfl Tryz.func243 rfl (by kernel_rfl) (m:=14) rfl];simp only[Z3,Nat.reduceAdd,Nat.reduceBEq,Int.reduceBEq,Int.reduceBNe,Int.reduceLT,Int.reduceLE,Tryz.f243,fx_243,ty,e1 _,e2 _]
 cases h1:qk3 made q.names 1 6
 ·simp only[Z3,Nat.reduceAdd,Nat.reduceBEq,Int.reduceBEq,Int.reduceBNe,Int.reduceLT,Int.reduceLE,fx_243,ty,h1,eqB]
 ·simp only[Z3,Nat.reduceAdd,Nat.reduceBEq,Int.reduceBEq,Int.reduceBNe,Int.reduceLT,Int.reduceLE,fx_243,ty,h1,e2 _,eqB]
def qxt (made:Bool) (s:PState):Bool:=conB made s.name && !decide (24<(s.eqs.length:Int)) && !decide (4<(s.ways.length:Int)) && (s.eqs.all (eqB made)) && s.ways.all fun w=>conB made w.to && qa1 made w.cond
theorem state_c (made:Bool) (s:PState) (hs:s.Small) (hr:s.Rng):Ret C 246 [qan made,.agg s.cells] (.bool (qxt made s)):=by
 refine Ret.mk (by simp[qad,refs,s.norefs,qan]) rfl ?_
 have hl1:=hs.2.1
 have hl2:=hs.2.2.2.1
 have e1:=qrk made s.name hs.1
 have ce:=fun(x:PEq) hx=>eq_c made x (hs.2.2.1 x hx) (hr.1 x hx)
 have cc:=fun(x:PWay) hx=>qrk made x.to (hs.2.2.2.2 x hx).2
 have cx:=fun(x:PWay) hx=>expr_c made x.cond (hs.2.2.2.2 x hx).1 (hr.2 x hx)
 unfold qan at*
 unfold qxt
 rw[C_fn rfl Tryz.func246 rfl (by kernel_rfl) (m:=56) rfl];simp only[Z3,Nat.reduceAdd,Nat.reduceBEq,Int.reduceBEq,Int.reduceBNe,Int.reduceLT,Int.reduceLE,Tryz.f246,qe7,ty,e1 _]
 cases h1:conB made s.name
 ·simp only[Z3,Nat.reduceAdd,Nat.reduceBEq,Int.reduceBEq,Int.reduceBNe,Int.reduceLT,Int.reduceLE,qe7,ty,h1]
 simp only[Z3,Nat.reduceAdd,Nat.reduceBEq,Int.reduceBEq,Int.reduceBNe,Int.reduceLT,Int.reduceLE,qe7,ty,h1]
 cases h2:decide (24<(s.eqs.length:Int))
 rotate_left
 ·simp only[Z3,Nat.reduceAdd,Nat.reduceBEq,Int.reduceBEq,Int.reduceBNe,Int.reduceLT,Int.reduceLE,qe7,ty,h2]
 simp only[Z3,Nat.reduceAdd,Nat.reduceBEq,Int.reduceBEq,Int.reduceBNe,Int.reduceLT,Int.reduceLE,qe7,ty,h2]
 cases h3:decide (4<(s.ways.length:Int))
 rotate_left
 ·simp only[Z3,Nat.reduceAdd,Nat.reduceBEq,Int.reduceBEq,Int.reduceBNe,Int.reduceLT,Int.reduceLE,qe7,ty,h3]
 simp only[Z3,Nat.reduceAdd,Nat.reduceBEq,Int.reduceBEq,Int.reduceBNe,Int.reduceLT,Int.reduceLE,qe7,ty,h3]
 generalize hb:qam PP cmp0 C lpC _=f;generalize hl:lpC f _=r
 obtain⟨ex,s',rfl,h2⟩:=qeg (α:=Nat) hl [4,6,30,31,32,33,34,35,36,37] (fun i=>[(29,.int .i64 i)]) (fun i=>i≤s.eqs.length) (fun i=>s.eqs.length-i) (fun i=>(s.eqs.drop i).all fun x=>eqB made x)
  (qhw 0 [4,6,29,30,31,32,33,34,35,36,37] [6,29,30,31,32,33,34,35,36,37] 4) 0 (wo _) (by simp only[At,ats,wa,we,wd,wc]) (by
   intro i j H d hi
   clear hl;subst hb
   by_cases hlt:i<s.eqs.length
   ·have e1:((i:Int)<(s.eqs.length:Int)):=by omega
    have e3:(s.eqs.map PEq.cells)[i]? =some (PEq.cells s.eqs[i]):=by simp[hlt]
    have hm:=wj hlt
    have c1:=ce s.eqs[i] hm
    simp only[Z3,Nat.reduceAdd,Nat.reduceBEq,Int.reduceBEq,Int.reduceBNe,Int.reduceLT,Int.reduceLE,qe7,ty,e1,e3,c1 _]
    cases hc0:eqB made s.eqs[i]
    ·simp only[Z3,Nat.reduceAdd,Nat.reduceBEq,Int.reduceBEq,Int.reduceBNe,Int.reduceLT,Int.reduceLE,qe7,ty,e1,e3,c1 _,hc0]
     exact .inr ⟨_,_,rfl,by simp,.inr ⟨by simp only[wb hlt,wk,hc0,wu,wv],rfl,by simp only[At,ats,wa,we,wd,wc]⟩⟩
    ·simp only[Z3,Nat.reduceAdd,Nat.reduceBEq,Int.reduceBEq,Int.reduceBNe,Int.reduceLT,Int.reduceLE,qe7,ty,e1,e3,c1 _,hc0,qaz (show i≤qac by omega)]
     exact .inl ⟨i+1,_,rfl,hlt,by simp only[At,ats,wa,we,wd,wc],by simp only[];omega,by simp only[wb hlt,wk,hc0,w8]⟩
   ·have e1:¬((i:Int)<(s.eqs.length:Int)):=by omega
    simp only[Z3,Nat.reduceAdd,Nat.reduceBEq,Int.reduceBEq,Int.reduceBNe,Int.reduceLT,Int.reduceLE,qe7,e1]
    exact .inr ⟨_,_,rfl,by simp,.inl ⟨by simp only[];rw[wf (by omega)];rfl,rfl,by simp only[At,ats,wa,we,wd,wc]⟩⟩)
 rw[wm]at h2
 rcases h2 with⟨hr1,rfl,h2⟩|⟨hr1,rfl,h2⟩
 rotate_left
 ·obtain⟨j,H,d,rfl⟩:=h2.elim
  clear hl
  simp only[Z3,Nat.reduceAdd,Nat.reduceBEq,Int.reduceBEq,Int.reduceBNe,Int.reduceLT,Int.reduceLE,hr1,(show(s.eqs.all (eqB made))=false from hr1)]
 obtain⟨j,H,d,rfl⟩:=h2.elim
 clear hl
 simp only[Z3,Nat.reduceAdd,Nat.reduceBEq,Int.reduceBEq,Int.reduceBNe,Int.reduceLT,Int.reduceLE,qe7,ty,hr1,(show(s.eqs.all (eqB made))=true from hr1)]
 generalize hb:qam PP cmp0 C lpC _=f;generalize hl:lpC f _=r
 obtain⟨ex,s',rfl,h2⟩:=qeg (α:=Nat) hl [4,8,42,43,44,45,46,47,48,49,50,51,52,53,54,55,56,57] (fun i=>[(41,.int .i64 i)]) (fun i=>i≤s.ways.length) (fun i=>s.ways.length-i) (fun i=>(s.ways.drop i).all fun x=>conB made x.to && qa1 made x.cond)
  (qhw 2 [4,8,41,42,43,44,45,46,47,48,49,50,51,52,53,54,55,56,57] [8,41,42,43,44,45,46,47,48,49,50,51,52,53,54,55,56,57] 4) 0 (wo _) (by simp only[At,ats,wa,we,wd,wc]) (by
   intro i j H d hi
   clear hl;subst hb
   by_cases hlt:i<s.ways.length
   ·have e1:((i:Int)<(s.ways.length:Int)):=by omega
    have e3:(s.ways.map PWay.cells)[i]? =some (PWay.cells s.ways[i]):=by simp[hlt]
    have hm:=wj hlt
    have c1:=cc s.ways[i] hm
    have c2:=cx s.ways[i] hm
    simp only[Z3,Nat.reduceAdd,Nat.reduceBEq,Int.reduceBEq,Int.reduceBNe,Int.reduceLT,Int.reduceLE,qe7,ty,e1,e3,c1 _,c2 _]
    cases hc0:conB made s.ways[i].to
    ·simp only[Z3,Nat.reduceAdd,Nat.reduceBEq,Int.reduceBEq,Int.reduceBNe,Int.reduceLT,Int.reduceLE,qe7,ty,e1,e3,c1 _,c2 _,hc0]
     exact .inr ⟨_,_,rfl,by simp,.inr ⟨by simp only[wb hlt,wk,hc0,wu,wv],rfl,by simp only[At,ats,wa,we,wd,wc]⟩⟩
    cases hc1:qa1 made s.ways[i].cond
    ·simp only[Z3,Nat.reduceAdd,Nat.reduceBEq,Int.reduceBEq,Int.reduceBNe,Int.reduceLT,Int.reduceLE,qe7,ty,e1,e3,c1 _,c2 _,hc0,hc1]
     exact .inr ⟨_,_,rfl,by simp,.inr ⟨by simp only[wb hlt,wk,hc0,hc1,wu,wv],rfl,by simp only[At,ats,wa,we,wd,wc]⟩⟩
    ·simp only[Z3,Nat.reduceAdd,Nat.reduceBEq,Int.reduceBEq,Int.reduceBNe,Int.reduceLT,Int.reduceLE,qe7,ty,e1,e3,c1 _,c2 _,hc0,hc1,qaz (show i≤qac by omega)]
     exact .inl ⟨i+1,_,rfl,hlt,by simp only[At,ats,wa,we,wd,wc],by simp only[];omega,by simp only[wb hlt,wk,hc0,hc1,w8]⟩
   ·have e1:¬((i:Int)<(s.ways.length:Int)):=by omega
    simp only[Z3,Nat.reduceAdd,Nat.reduceBEq,Int.reduceBEq,Int.reduceBNe,Int.reduceLT,Int.reduceLE,qe7,e1]
    exact .inr ⟨_,_,rfl,by simp,.inl ⟨by simp only[];rw[wf (by omega)];rfl,rfl,by simp only[At,ats,wa,we,wd,wc]⟩⟩)
 rw[wm]at h2
 rcases h2 with⟨hr2,rfl,h2⟩|⟨hr2,rfl,h2⟩
 ·obtain⟨j,H,d,rfl⟩:=h2.elim
  clear hl
  simp only[Z3,Nat.reduceAdd,Nat.reduceBEq,Int.reduceBEq,Int.reduceBNe,Int.reduceLT,Int.reduceLE,qe7,hr2]
 ·obtain⟨j,H,d,rfl⟩:=h2.elim
  clear hl
  simp only[Z3,Nat.reduceAdd,Nat.reduceBEq,Int.reduceBEq,Int.reduceBNe,Int.reduceLT,Int.reduceLE,qe7,hr2]
theorem q5f (made:Bool) (l:List PState) (hl:l.length≤qac) (p:PState→Bool) (h:∀x∈l,Ret C 246 [.agg [.bool made],.agg x.cells] (.bool (p x))):
 ∀H,qai C (.box [.bool made]::H) 182 [.slice (l.map PState.cells) .free,.func 245 [] [.ptr 0 0]]=some (.ret (.bool (l.any fun x=> !p x)) .same):=fun H=>
 qbd (b:=0) _ rfl rfl rfl (quy l hl _ _ rfl (fun x=> !p x) (fun x hx H=>
  qbd (b:=0) _ (by simp[qad,refs,x.norefs]) rfl rfl (by
   simp only[renL,ren,qbs x.norefs]
   have e1:=h x hx
   rw[C_fn rfl Tryz.func245 rfl (by kernel_rfl) (m:=6) rfl];simp only[Z3,Nat.reduceAdd,Nat.reduceBEq,Int.reduceBEq,Int.reduceBNe,Int.reduceLT,Int.reduceLE,Tryz.f245,fx_245,ty,e1 _,qa0 1 _ _ [] (by simp)]) rfl)) rfl
theorem anyItem_c (made:Bool) (l:List PItem) (hl:l.length≤qac) (p:PItem→Bool) (h:∀x∈l,Ret C 209 [.agg [.bool made],.agg x.cells] (.bool (p x))):
 ∀H,qai C (.box [.bool made]::H) 207 [.slice (l.map PItem.cells) .free,.func 208 [] [.ptr 0 0]]=some (.ret (.bool (l.any fun x=> !p x)) .same):=fun H=>
 qbd (b:=0) _ rfl rfl rfl (qvw l hl _ _ rfl (fun x=> !p x) (fun x hx H=>
  qbd (b:=0) _ (by simp[qad,refs,x.norefs]) rfl rfl (by
   simp only[renL,ren,qbs x.norefs]
   have e1:=h x hx
   rw[C_fn rfl Tryz.func208 rfl (by kernel_rfl) (m:=6) rfl];simp only[Z3,Nat.reduceAdd,Nat.reduceBEq,Int.reduceBEq,Int.reduceBNe,Int.reduceLT,Int.reduceLE,Tryz.f208,fx_208,ty,e1 _,qa0 1 _ _ [] (by simp)]) rfl)) rfl
theorem anyNode_c (made:Bool) (l:List PNode) (hl:l.length≤qac) (p:PNode→Bool) (h:∀x∈l,Ret C 142 [.agg [.bool made],.agg x.cells] (.bool (p x))):
 ∀H,qai C (.box [.bool made]::H) 140 [.slice (l.map PNode.cells) .free,.func 141 [] [.ptr 0 0]]=some (.ret (.bool (l.any fun x=> !p x)) .same):=fun H=>
 qbd (b:=0) _ rfl rfl rfl (qvx l hl _ _ rfl (fun x=> !p x) (fun x hx H=>
  qbd (b:=0) _ (by simp[qad,refs,x.norefs]) rfl rfl (by
   simp only[renL,ren,qbs x.norefs]
   have e1:=h x hx
   rw[C_fn rfl Tryz.func141 rfl (by kernel_rfl) (m:=6) rfl];simp only[Z3,Nat.reduceAdd,Nat.reduceBEq,Int.reduceBEq,Int.reduceBNe,Int.reduceLT,Int.reduceLE,Tryz.f141,fx_141,ty,e1 _,qa0 1 _ _ [] (by simp)]) rfl)) rfl
def zeroE:PExpr:= .mk 0 [] 0 [] []
def itemB (made:Bool) (x:PItem):Bool:=if((x.states.length:Int)==0)=true then eqB made x.eq else
 ((x.eq.names.length:Int)==0) && x.eq.e.same zeroE && decide ((x.states.length:Int)≤8) && !x.states.any fun s=> !qxt made s
theorem item_c (made:Bool) (x:PItem) (hs:x.Small) (hr:x.Rng):Ret C 209 [qan made,.agg x.cells] (.bool (itemB made x)):=by
 refine Ret.mk (by simp[qad,refs,x.norefs,qan]) rfl ?_
 have e1:=eq_c made x.eq hs.1 hr.1
 have e2:Ret C 244 [.agg x.eq.e.cells,.agg [.int .i64 0,.str [],.int .i64 0,.slice [] .free,.slice [] .free]] (.bool (x.eq.e.same zeroE)):=q5b x.eq.e zeroE hs.1.2
 have e3:=q5f made x.states hs.2.1 (qxt made) (fun s hx=>state_c made s (hs.2.2 s hx) (hr.2 s hx))
 unfold qan at*
 unfold itemB
 rw[C_fn rfl Tryz.func209 rfl (by kernel_rfl) (m:=38) rfl];simp only[Z3,Nat.reduceAdd,Nat.reduceBEq,Int.reduceBEq,Int.reduceBNe,Int.reduceLT,Int.reduceLE,Tryz.f209,qkt,ty]
 cases h1:((x.states.length:Int)==0)
 rotate_left
 ·simp only[Z3,Nat.reduceAdd,Nat.reduceBEq,Int.reduceBEq,Int.reduceBNe,Int.reduceLT,Int.reduceLE,qkt,ty,h1,e1 _]
 simp only[Z3,Nat.reduceAdd,Nat.reduceBEq,Int.reduceBEq,Int.reduceBNe,Int.reduceLT,Int.reduceLE,qkt,ty,h1,PItem.get_names,PItem.sub_e]
 cases h2:((x.eq.names.length:Int)==0)
 ·simp only[Z3,Nat.reduceAdd,Nat.reduceBEq,Int.reduceBEq,Int.reduceBNe,Int.reduceLT,Int.reduceLE,qkt,ty,h2]
 simp only[Z3,Nat.reduceAdd,Nat.reduceBEq,Int.reduceBEq,Int.reduceBNe,Int.reduceLT,Int.reduceLE,qkt,ty,h2,PItem.get_names,PItem.sub_e,e2 _]
 cases h3:x.eq.e.same zeroE
 ·simp only[Z3,Nat.reduceAdd,Nat.reduceBEq,Int.reduceBEq,Int.reduceBNe,Int.reduceLT,Int.reduceLE,qkt,ty,h3]
 simp only[Z3,Nat.reduceAdd,Nat.reduceBEq,Int.reduceBEq,Int.reduceBNe,Int.reduceLT,Int.reduceLE,qkt,ty,h3]
 cases h4:decide ((x.states.length:Int)≤8)
 ·simp only[Z3,Nat.reduceAdd,Nat.reduceBEq,Int.reduceBEq,Int.reduceBNe,Int.reduceLT,Int.reduceLE,qkt,ty,h4]
 ·simp only[Z3,Nat.reduceAdd,Nat.reduceBEq,Int.reduceBEq,Int.reduceBNe,Int.reduceLT,Int.reduceLE,qkt,ty,h4,e3]
def nodeB (made:Bool) (n:PNode):Bool:=qde made n.name && qk3 made n.funs 0 6 && qk3 made n.ins 1 6 && qk3 made n.outs 1 6 && (made||decide ((n.items.length:Int)≤24)) && !n.items.any fun x=> !itemB made x
theorem node_c (made:Bool) (n:PNode) (hs:n.Small) (hr:n.Rng):Ret C 142 [qan made,.agg n.cells] (.bool (nodeB made n)):=by
 refine Ret.mk (by simp[qad,refs,n.norefs,qan]) rfl ?_
 have e1:=qkx made n.name hs.1
 have e2:=qup made n.funs hs.2.1 0 6
 have e3:=qup made n.ins hs.2.2.1 1 6
 have e4:=qup made n.outs hs.2.2.2.1 1 6
 have e5:=anyItem_c made n.items hs.2.2.2.2.1 (itemB made) (fun x hx=>item_c made x (hs.2.2.2.2.2 x hx) (hr x hx))
 unfold qan at*
 unfold nodeB
 rw[C_fn rfl Tryz.func142 rfl (by kernel_rfl) (m:=47) rfl];simp only[Z3,Nat.reduceAdd,Nat.reduceBEq,Int.reduceBEq,Int.reduceBNe,Int.reduceLT,Int.reduceLE,Tryz.f142,qhe,ty,e1 _,e2 _,e3 _,e4 _]
 cases h1:qde made n.name
 ·simp only[Z3,Nat.reduceAdd,Nat.reduceBEq,Int.reduceBEq,Int.reduceBNe,Int.reduceLT,Int.reduceLE,qhe,ty,h1]
 simp only[Z3,Nat.reduceAdd,Nat.reduceBEq,Int.reduceBEq,Int.reduceBNe,Int.reduceLT,Int.reduceLE,qhe,ty,h1,e2 _]
 cases h2:qk3 made n.funs 0 6
 ·simp only[Z3,Nat.reduceAdd,Nat.reduceBEq,Int.reduceBEq,Int.reduceBNe,Int.reduceLT,Int.reduceLE,qhe,ty,h2]
 simp only[Z3,Nat.reduceAdd,Nat.reduceBEq,Int.reduceBEq,Int.reduceBNe,Int.reduceLT,Int.reduceLE,qhe,ty,h2,e3 _]
 cases h3:qk3 made n.ins 1 6
 ·simp only[Z3,Nat.reduceAdd,Nat.reduceBEq,Int.reduceBEq,Int.reduceBNe,Int.reduceLT,Int.reduceLE,qhe,ty,h3]
 simp only[Z3,Nat.reduceAdd,Nat.reduceBEq,Int.reduceBEq,Int.reduceBNe,Int.reduceLT,Int.reduceLE,qhe,ty,h3,e4 _]
 cases h4:qk3 made n.outs 1 6
 ·simp only[Z3,Nat.reduceAdd,Nat.reduceBEq,Int.reduceBEq,Int.reduceBNe,Int.reduceLT,Int.reduceLE,qhe,ty,h4]
 simp only[Z3,Nat.reduceAdd,Nat.reduceBEq,Int.reduceBEq,Int.reduceBNe,Int.reduceLT,Int.reduceLE,qhe,ty,h4]
 cases made
 ·simp only[Z3,Nat.reduceAdd,Nat.reduceBEq,Int.reduceBEq,Int.reduceBNe,Int.reduceLT,Int.reduceLE,qhe,ty]
  cases h5:decide ((n.items.length:Int)≤24)
  ·simp only[Z3,Nat.reduceAdd,Nat.reduceBEq,Int.reduceBEq,Int.reduceBNe,Int.reduceLT,Int.reduceLE,qhe,ty,h5]
  ·simp only[Z3,Nat.reduceAdd,Nat.reduceBEq,Int.reduceBEq,Int.reduceBNe,Int.reduceLT,Int.reduceLE,qhe,ty,h5,e5]
 ·simp only[Z3,Nat.reduceAdd,Nat.reduceBEq,Int.reduceBEq,Int.reduceBNe,Int.reduceLT,Int.reduceLE,qhe,ty,e5]
def qlh (made:Bool):Int:=if made=true then 32 else 8
def qma (made:Bool) (p:PProg):Bool:= !decide (qlh made<(p.enums.length:Int)) && !((p.nodes.length:Int)==0) && !decide (16<(p.nodes.length:Int)) && (p.enums.all fun t=>qde made t.name && qun made t.cons 1 8) && !p.nodes.any fun n=> !nodeB made n
theorem program_c (made:Bool) (p:PProg) (hs:p.Small) (hr:p.Rng):Ret C 80 [qan made,.agg p.cells] (.bool (qma made p)):=by
 refine Ret.mk (by simp[qad,refs,p.norefs,qan]) rfl ?_
 have hl1:=hs.1
 have c1:=fun(x:PEnum) hx=>qkx made x.name (hs.2.1 x hx).1
 have c2:=fun(x:PEnum) hx=>cons_c made x.cons (hs.2.1 x hx).2 1 8
 have e5:=anyNode_c made p.nodes hs.2.2.1 (nodeB made) (fun x hx=>node_c made x (hs.2.2.2 x hx) (hr.2 x hx))
 unfold qan at*
 unfold qma
 have w32:qc1 .i64 (8+24)=32:=by decide
 have em:qlh made=if made=true then 32 else 8:=rfl
 rw[C_fn rfl Tryz.func80 rfl (by kernel_rfl) (m:=53) rfl];simp only[Z3,Nat.reduceAdd,Nat.reduceBEq,Int.reduceBEq,Int.reduceBNe,Int.reduceLT,Int.reduceLE,Tryz.f80,qd6,ty]
 cases made
 ·have em:qlh false=8:=rfl
  simp only[Z3,Nat.reduceAdd,Nat.reduceBEq,Int.reduceBEq,Int.reduceBNe,Int.reduceLT,Int.reduceLE,qd6,ty,w32,em]
  cases h1:decide ((8:Int)<(p.enums.length:Int))
  rotate_left
  ·simp only[Z3,Nat.reduceAdd,Nat.reduceBEq,Int.reduceBEq,Int.reduceBNe,Int.reduceLT,Int.reduceLE,qd6,ty,h1]
  simp only[Z3,Nat.reduceAdd,Nat.reduceBEq,Int.reduceBEq,Int.reduceBNe,Int.reduceLT,Int.reduceLE,qd6,ty,h1]
  cases h2:((p.nodes.length:Int)==0)
  rotate_left
  ·simp only[Z3,Nat.reduceAdd,Nat.reduceBEq,Int.reduceBEq,Int.reduceBNe,Int.reduceLT,Int.reduceLE,qd6,ty,h2]
  simp only[Z3,Nat.reduceAdd,Nat.reduceBEq,Int.reduceBEq,Int.reduceBNe,Int.reduceLT,Int.reduceLE,qd6,ty,h2]
  cases h3:decide (16<(p.nodes.length:Int))
  rotate_left
  ·simp only[Z3,Nat.reduceAdd,Nat.reduceBEq,Int.reduceBEq,Int.reduceBNe,Int.reduceLT,Int.reduceLE,qd6,ty,h3]
  simp only[Z3,Nat.reduceAdd,Nat.reduceBEq,Int.reduceBEq,Int.reduceBNe,Int.reduceLT,Int.reduceLE,qd6,ty,h3]
  generalize hb:qam PP cmp0 C lpC _=f;generalize hl:lpC f _=r
  obtain⟨ex,s',rfl,h2⟩:=qeg (α:=Nat) hl [4,7,33,34,35,36,37,38,39,40,41,42,43,44,45,46,47,48,49] (fun i=>[(32,.int .i64 i)]) (fun i=>i≤p.enums.length) (fun i=>p.enums.length-i) (fun i=>(p.enums.drop i).all fun x=>qde false x.name && qun false x.cons 1 8)
   (qhw 0 [4,7,32,33,34,35,36,37,38,39,40,41,42,43,44,45,46,47,48,49] [7,32,33,34,35,36,37,38,39,40,41,42,43,44,45,46,47,48,49] 4) 0 (wo _) (by simp only[At,ats,wa,we,wd,wc]) (by
    intro i j H d hi
    clear hl;subst hb
    by_cases hlt:i<p.enums.length
    ·have e1:((i:Int)<(p.enums.length:Int)):=by omega
     have e3:(p.enums.map PEnum.cells)[i]? =some (PEnum.cells p.enums[i]):=by simp[hlt]
     have hm:=wj hlt
     have c3:=c1 p.enums[i] hm
     have c4:=c2 p.enums[i] hm
     simp only[Z3,Nat.reduceAdd,Nat.reduceBEq,Int.reduceBEq,Int.reduceBNe,Int.reduceLT,Int.reduceLE,qd6,ty,e1,e3,c3 _,c4 _]
     cases hc0:qde false p.enums[i].name
     ·simp only[Z3,Nat.reduceAdd,Nat.reduceBEq,Int.reduceBEq,Int.reduceBNe,Int.reduceLT,Int.reduceLE,qd6,ty,e1,e3,c3 _,c4 _,hc0]
      exact .inr ⟨_,_,rfl,by simp,.inr ⟨by simp only[wb hlt,wk,hc0,wu,wv],rfl,by simp only[At,ats,wa,we,wd,wc]⟩⟩
     cases hc1:qun false p.enums[i].cons 1 8
     ·simp only[Z3,Nat.reduceAdd,Nat.reduceBEq,Int.reduceBEq,Int.reduceBNe,Int.reduceLT,Int.reduceLE,qd6,ty,e1,e3,c3 _,c4 _,hc0,hc1]
      exact .inr ⟨_,_,rfl,by simp,.inr ⟨by simp only[wb hlt,wk,hc0,hc1,wu,wv],rfl,by simp only[At,ats,wa,we,wd,wc]⟩⟩
     ·simp only[Z3,Nat.reduceAdd,Nat.reduceBEq,Int.reduceBEq,Int.reduceBNe,Int.reduceLT,Int.reduceLE,qd6,ty,e1,e3,c3 _,c4 _,hc0,hc1,qaz (show i≤qac by omega)]
      exact .inl ⟨i+1,_,rfl,hlt,by simp only[At,ats,wa,we,wd,wc],by simp only[];omega,by simp only[wb hlt,wk,hc0,hc1,w8]⟩
    ·have e1:¬((i:Int)<(p.enums.length:Int)):=by omega
     simp only[Z3,Nat.reduceAdd,Nat.reduceBEq,Int.reduceBEq,Int.reduceBNe,Int.reduceLT,Int.reduceLE,qd6,e1]
     exact .inr ⟨_,_,rfl,by simp,.inl ⟨by simp only[];rw[wf (by omega)];rfl,rfl,by simp only[At,ats,wa,we,wd,wc]⟩⟩)
  rw[wm]at h2
  rcases h2 with⟨hr1,rfl,h2⟩|⟨hr1,rfl,h2⟩
  rotate_left
  ·obtain⟨j,H,d,rfl⟩:=h2.elim
   clear hl
   simp only[Z3,Nat.reduceAdd,Nat.reduceBEq,Int.reduceBEq,Int.reduceBNe,Int.reduceLT,Int.reduceLE,hr1]
  obtain⟨j,H,d,rfl⟩:=h2.elim
  clear hl
  simp only[Z3,Nat.reduceAdd,Nat.reduceBEq,Int.reduceBEq,Int.reduceBNe,Int.reduceLT,Int.reduceLE,qd6,ty,hr1,e5]
 ·have em:qlh true=32:=rfl
  simp only[Z3,Nat.reduceAdd,Nat.reduceBEq,Int.reduceBEq,Int.reduceBNe,Int.reduceLT,Int.reduceLE,qd6,ty,w32,em]
  cases h1:decide ((32:Int)<(p.enums.length:Int))
  rotate_left
  ·simp only[Z3,Nat.reduceAdd,Nat.reduceBEq,Int.reduceBEq,Int.reduceBNe,Int.reduceLT,Int.reduceLE,qd6,ty,h1]
  simp only[Z3,Nat.reduceAdd,Nat.reduceBEq,Int.reduceBEq,Int.reduceBNe,Int.reduceLT,Int.reduceLE,qd6,ty,h1]
  cases h2:((p.nodes.length:Int)==0)
  rotate_left
  ·simp only[Z3,Nat.reduceAdd,Nat.reduceBEq,Int.reduceBEq,Int.reduceBNe,Int.reduceLT,Int.reduceLE,qd6,ty,h2]
  simp only[Z3,Nat.reduceAdd,Nat.reduceBEq,Int.reduceBEq,Int.reduceBNe,Int.reduceLT,Int.reduceLE,qd6,ty,h2]
  cases h3:decide (16<(p.nodes.length:Int))
  rotate_left
  ·simp only[Z3,Nat.reduceAdd,Nat.reduceBEq,Int.reduceBEq,Int.reduceBNe,Int.reduceLT,Int.reduceLE,qd6,ty,h3]
  simp only[Z3,Nat.reduceAdd,Nat.reduceBEq,Int.reduceBEq,Int.reduceBNe,Int.reduceLT,Int.reduceLE,qd6,ty,h3]
  generalize hb:qam PP cmp0 C lpC _=f;generalize hl:lpC f _=r
  obtain⟨ex,s',rfl,h2⟩:=qeg (α:=Nat) hl [4,7,33,34,35,36,37,38,39,40,41,42,43,44,45,46,47,48,49] (fun i=>[(32,.int .i64 i)]) (fun i=>i≤p.enums.length) (fun i=>p.enums.length-i) (fun i=>(p.enums.drop i).all fun x=>qde true x.name && qun true x.cons 1 8)
   (qhw 0 [4,7,32,33,34,35,36,37,38,39,40,41,42,43,44,45,46,47,48,49] [7,32,33,34,35,36,37,38,39,40,41,42,43,44,45,46,47,48,49] 4) 0 (wo _) (by simp only[At,ats,wa,we,wd,wc]) (by
    intro i j H d hi
    clear hl;subst hb
    by_cases hlt:i<p.enums.length
    ·have e1:((i:Int)<(p.enums.length:Int)):=by omega
     have e3:(p.enums.map PEnum.cells)[i]? =some (PEnum.cells p.enums[i]):=by simp[hlt]
     have hm:=wj hlt
     have c3:=c1 p.enums[i] hm
     have c4:=c2 p.enums[i] hm
     simp only[Z3,Nat.reduceAdd,Nat.reduceBEq,Int.reduceBEq,Int.reduceBNe,Int.reduceLT,Int.reduceLE,qd6,ty,e1,e3,c3 _,c4 _]
     cases hc0:qde true p.enums[i].name
     ·simp only[Z3,Nat.reduceAdd,Nat.reduceBEq,Int.reduceBEq,Int.reduceBNe,Int.reduceLT,Int.reduceLE,qd6,ty,e1,e3,c3 _,c4 _,hc0]
      exact .inr ⟨_,_,rfl,by simp,.inr ⟨by simp only[wb hlt,wk,hc0,wu,wv],rfl,by simp only[At,ats,wa,we,wd,wc]⟩⟩
     cases hc1:qun true p.enums[i].cons 1 8
     ·simp only[Z3,Nat.reduceAdd,Nat.reduceBEq,Int.reduceBEq,Int.reduceBNe,Int.reduceLT,Int.reduceLE,qd6,ty,e1,e3,c3 _,c4 _,hc0,hc1]
      exact .inr ⟨_,_,rfl,by simp,.inr ⟨by simp only[wb hlt,wk,hc0,hc1,wu,wv],rfl,by simp only[At,ats,wa,we,wd,wc]⟩⟩
     ·simp only[Z3,Nat.reduceAdd,Nat.reduceBEq,Int.reduceBEq,Int.reduceBNe,Int.reduceLT,Int.reduceLE,qd6,ty,e1,e3,c3 _,c4 _,hc0,hc1,qaz (show i≤qac by omega)]
      exact .inl ⟨i+1,_,rfl,hlt,by simp only[At,ats,wa,we,wd,wc],by simp only[];omega,by simp only[wb hlt,wk,hc0,hc1,w8]⟩
    ·have e1:¬((i:Int)<(p.enums.length:Int)):=by omega
     simp only[Z3,Nat.reduceAdd,Nat.reduceBEq,Int.reduceBEq,Int.reduceBNe,Int.reduceLT,Int.reduceLE,qd6,e1]
     exact .inr ⟨_,_,rfl,by simp,.inl ⟨by simp only[];rw[wf (by omega)];rfl,rfl,by simp only[At,ats,wa,we,wd,wc]⟩⟩)
  rw[wm]at h2
  rcases h2 with⟨hr1,rfl,h2⟩|⟨hr1,rfl,h2⟩
  rotate_left
  ·obtain⟨j,H,d,rfl⟩:=h2.elim
   clear hl
   simp only[Z3,Nat.reduceAdd,Nat.reduceBEq,Int.reduceBEq,Int.reduceBNe,Int.reduceLT,Int.reduceLE,hr1]
  obtain⟨j,H,d,rfl⟩:=h2.elim
  clear hl
  simp only[Z3,Nat.reduceAdd,Nat.reduceBEq,Int.reduceBEq,Int.reduceBNe,Int.reduceLT,Int.reduceLE,qd6,ty,hr1,e5]
end Go.Ab
namespace Go.Ab
open Go Go.Ab.Tab
def qmi (n:PNode):Bool:=decide (300<(accE (0,0) n.exprs).1)||decide (40<(accE (0,0) n.exprs).2)
def qgb (made:Bool) (p:PProg):Int:=if qma made p=true then(if(p.nodes.any qmi)=true then 9 else 0)else 10
def AnyPost (id:Nat) (junk junk':List Nat) (slot:Nat) (v:AVal) (ts:List AVal) (H:qab) (r:Bool) (ex:AEx) (s:St):Prop:=
 (r=false∧ex= .exit id∧At junk ts H [] s)∨(r=true∧ex= .ret∧At junk' ts H [(slot,v)] s)
theorem right_c (made:Bool) (p:PProg) (hs:p.Small) (hr:p.Rng):Ret C 38 [.agg p.cells,.bool made] (.int .i64 (qgb made p)):=by
 refine Ret.mk (by simp[qad,refs,p.norefs]) rfl ?_
 have hl1:=hs.2.2.1
 have e1:=program_c made p hs hr
 unfold qan at e1
 unfold qgb
 rw[C_fn rfl Tryz.func38 rfl (by kernel_rfl) (m:=29) rfl];simp only[Z3,simprocAttr,Tryz.f38,qjr,ty,e1 _]
 cases h1:qma made p
 ·simp only[Z3,simprocAttr,qjr,ty,h1]
 simp only[Z3,simprocAttr,qjr,ty,h1]
 generalize hb:qam PP cmp0 C lpC _=f;generalize hl:lpC f _=r
 obtain⟨ex,s',rfl,h2⟩:=qeg (α:=Nat) hl [4,6,7,8,18,19,20,21,22,23,24,25,26,27,28,29,30] (fun i=>[(17,.int .i64 i)]) (fun i=>i≤p.nodes.length) (fun i=>p.nodes.length-i) (fun i=>(p.nodes.drop i).any qmi)
  (AnyPost 0 [4,6,7,8,17,18,19,20,21,22,23,24,25,26,27,28,29,30] [6,7,8,17,18,19,20,21,22,23,24,25,26,27,28,29,30] 4 (.int .i64 9)) 0 (wo _) (by simp only[At,ats,wa,we,wd,wc]) (by
   intro i j H d hi
   clear hl;subst hb
   by_cases hlt:i<p.nodes.length
   ·have e2:((i:Int)<(p.nodes.length:Int)):=by omega
    obtain⟨x,hx⟩:∃y,y=p.nodes[i]:=⟨_,rfl⟩
    have e3:(p.nodes.map PNode.cells)[i]? =some x.cells:=by simp[hlt,hx]
    have hm:x∈p.nodes:=by rw[hx];exact wj hlt
    simp only[Z3,simprocAttr,qjr,ty,e2,e3]
    obtain⟨E,hE1,hE2⟩:=qzh qaw (H:= .box p.cells::(H++[.box x.cells,.box [.int .i64 0],.box [.int .i64 0]])) (f:=81) (args:=[.agg x.cells,.func 82 [] [.ptr (H.length+1+1) 0,.ptr (H.length+2+1) 0]]) (v:= .tuple []) (b1:=H.length+1+1) (b2:=H.length+2+1) (x0:=[.int .i64 0]) (x1:=[.int .i64 0]) (y0:=[.int .i64 (accE (0,0) x.exprs).1]) (y1:=[.int .i64 (accE (0,0) x.exprs).2])
     (by simp[qad,refs,x.norefs]) (by omega) (by simp only[w9,qya,waa]) (by simp only[w9,qya,waa]) rfl rfl rfl rfl (by
      have e:renL (fun y=>[H.length+1+1,H.length+2+1].idxOf y) [.agg x.cells,.func 82 [] [.ptr (H.length+1+1) 0,.ptr (H.length+2+1) 0]]=[.agg x.cells,.func 82 [] [.ptr 0 0,.ptr 1 0]]:=by
       have hbe:(H.length+1+1==H.length+2+1)=false:=beq_false_of_ne (by omega)
       simp only[renL,ren,qbs x.norefs,List.idxOf_cons,hbe,beq_self_eq_true,cond_true,cond_false]
      rw[e]
      exact each_c x (hs.2.2.2 x hm) (0,0)) rfl
    simp only[List.set_cons_succ,set_at,List.set_cons_zero]at hE2
    simp only[Z3,simprocAttr,effs,qjr,ty,hE1,hE2]
    cases hc1:decide (300<(accE (0,0) x.exprs).1)
    ·simp only[Z3,simprocAttr,effs,qjr,ty,hc1,hE2]
     cases hc2:decide (40<(accE (0,0) x.exprs).2)
     ·simp only[Z3,simprocAttr,qjr,hc2,qaz (show i≤qac by omega)]
      exact .inl ⟨i+1,_,rfl,hlt,by simp only[At,ats,wa,we,wd,wc],by simp only[];omega,by simp only[wb hlt,wda,←hx,qmi,hc1,hc2,Bool.or_self,Bool.false_or]⟩
     ·simp only[Z3,simprocAttr,qjr,hc2]
      exact .inr ⟨_,_,rfl,by simp,.inr ⟨by simp only[wb hlt,wda,←hx,qmi,hc1,hc2,Bool.or_true,wea],rfl,by simp only[At,ats,wa,we,wd,wc]⟩⟩
    ·simp only[Z3,simprocAttr,qjr,hc1]
     exact .inr ⟨_,_,rfl,by simp,.inr ⟨by simp only[wb hlt,wda,←hx,qmi,hc1,wea],rfl,by simp only[At,ats,wa,we,wd,wc]⟩⟩
   ·have e2:¬((i:Int)<(p.nodes.length:Int)):=by omega
    simp only[Z3,simprocAttr,qjr,e2]
    exact .inr ⟨_,_,rfl,by simp,.inl ⟨by simp only[];rw[wf (by omega)];rfl,rfl,by simp only[At,ats,wa,we,wd,wc]⟩⟩)
 rw[wm]at h2
 rcases h2 with⟨hr1,rfl,h2⟩|⟨hr1,rfl,h2⟩
 ·obtain⟨j,H,d,rfl⟩:=h2.elim
  clear hl
  simp only[Z3,simprocAttr,qjr,hr1]
 ·obtain⟨j,H,d,rfl⟩:=h2.elim
  clear hl
  simp only[Z3,simprocAttr,qjr,hr1]
end Go.Ab
