/- The parser gives up: reading a text, where the program throws. -/
import Derived.Test.YtngklkmeknmloaaGreatDoorAbTxt
import Derived.Test.YtngklkmeknmloaaGreatDoorAbPsY
import Derived.Test.YtngklkmeknmloaaGreatDoorAbDfS
import Derived.Test.YtngklkmeknmloaaGreatDoorAbPf12
set_option linter.unusedSimpArgs false
set_option linter.unusedVariables false
set_option maxRecDepth 100000
set_option maxHeartbeats 4000000
open Go.Proofs
open List renaming getElem?_eq_some_iff→wa,getElem?_set_self→wb,getElem?_set_ne→wc,map_cons→wd,map_nil→we,length_nil→wf,length_drop→wh,not_mem_nil→wi,map_append→wj,mem_cons→wk
open Int renaming natCast_zero→wg
namespace Go.Ab
open Go Go.Ab.Tab
def qyx (text:Str):Nat→PFault:=fun k=>⟨2,(plc (text.take k)).1,(plc (text.take k)).2⟩
def qg4 (text:Str):AVal:=
 if 65536<text.length then .tuple [.slice [] .free,.agg (PFault.cells ⟨9,0,0⟩)]
 else match qci text (text.length+1) 0 with
  |(some l,_)=> .tuple [.slice (l.map PTok.cells) .free,.agg (PFault.cells ⟨0,0,0⟩)]
  |(none,k)=> .tuple [.slice [] .free,.agg (qyx text k).cells]
def qna (text:Str) (acc:List PTok) (k:Nat):Option (List PTok)×Nat:=match qci text (text.length+1) k with
 |(some l,_)=>(some (acc++l),0)
 |(none,p)=>(none,p)
theorem scan_big (text:Str) (hT:65536<text.length) (hl:text.length≤qac):Ret C 73 [.str text] (qg4 text):=by
 refine Ret.mk rfl (by unfold qg4;rw[if_pos hT];rfl) ?_
 unfold qg4
 rw[if_pos hT]
 have h1:decide ((65536:Int)<(text.length:Int))=true:=decide_eq_true (by omega)
 rw[C_fn rfl Tryz.func73 rfl (by kernel_rfl) (m:=61) rfl];simp only[Z3,simprocAttr,Tryz.f73,qui,ty,hl,h1]
 exact qmj (by simp[Eff.dirt]) rfl rfl
theorem tok5 (l:List PTok):∀c∈l.map PTok.cells,c.length=5:=by
 intro c hc
 obtain⟨t,_,rfl⟩:=List.mem_map.1 hc
 rfl
theorem q2g {h:qab} {v:AVal} {es:List (List AVal)} {T:TypeId} (g:Grow h v es T) {b:Nat} {x y:List AVal} (hb:h[b]? =some (.box x)):Grow (h.set b (.box y)) v es T:=by
 rcases g with g|⟨t,hv,ht⟩
 ·exact .inl g
 ·refine .inr ⟨t,hv,?_⟩
  have hne:b≠t:=fun e=>by rw[e,ht]at hb;cases hb
  rw[wc hne];exact ht
theorem qxz (text:Str) (hT:text.length≤65536):Ret C 73 [.str text] (qg4 text):=by
 have hv:refs (qg4 text)=[]:=by
  unfold qg4;split
  ·rfl
  ·split<;>rfl
 refine Ret.mk rfl hv ?_
 have h1:decide ((65536:Int)<(text.length:Int))=false:=decide_eq_false (by omega)
 have hl0:text.length≤qac:=by unfold qac;omega
 have hs0:[AVal.str text,.int .i64 0,.int .i64 1,.int .i64 1]=qdc text 0:=by unfold qdc;rw[List.take_zero];rfl
 rw[C_fn rfl Tryz.func73 rfl (by kernel_rfl) (m:=61) rfl];simp only[Z3,simprocAttr,Tryz.f73,qui,ty,hl0,h1]
 rw[hs0]
 generalize hb:qam PP cmp0 C lpC _=f;generalize hl:lpC f _=r
 obtain⟨ex,s',rfl,h2⟩:=qch (α:=Nat×List PTok×AVal) hl [2,6,7,15,16,17,18,19,20,21,22,23,24,25,26,27,28,29,30,31,32,33,34,35,36,37,38,39,40,41,42,43,44,45,46,47,48,49,50,51,52,53,54,55,56,57,58,59,60,61] (fun a=>[(5,a.2.2)]) (fun a h=>h[0]? =some (.box (PFault.cells ⟨0,0,0⟩))∧h[1]? =some (.box (qdc text a.1))∧Grow h a.2.2 (a.2.1.map PTok.cells) 84∧a.1≤text.length∧a.2.1.length≤a.1) (fun a=>text.length-a.1) (fun a=>qna text a.2.1 a.1)
  (fun ts r ex s=>ex= .ret∧∃es tk fl,s.tmps[2]? =some (.slice es tk)∧s.tmps[3]? =some (.ptr 0 0)∧s.heap[0]? =some (.box (PFault.cells fl))∧es=(match r.1 with|some l=>l.map PTok.cells|none=>[])∧fl=(match r.1 with|some _=>⟨0,0,0⟩|none=>qyx text r.2)) (0,[],.slice [] .full) ⟨rfl,rfl,.inl ⟨rfl,rfl⟩,Nat.zero_le _,Nat.le_refl _⟩ (by simp only[AtT,ats,wg]) (by
   rintro⟨k,acc,v⟩ j h d ⟨q0,q1,hg,hk,hacc⟩
   clear hl;subst hb
   simp only at q0 q1 hg hk hacc ⊢
   obtain⟨E1,hE1,hh1⟩:=qed qaw (b:=1) (H:=h) (rest:=[]) rfl q1 rfl rfl (blanks_c text hT k hk) rfl
   obtain⟨k1,hk1⟩:∃k1,k1=k+gapS false (text.drop k):=⟨_,rfl⟩
   rw[←hk1]at hh1
   have hk1l:k1≤text.length:=by have:=qp7 false (text.drop k);rw[wh]at this;omega
   have l1:=(wa.1 q1).1
   obtain⟨g1,hg1⟩:∃g1,g1=h.set 1 (.box (qdc text k1)):=⟨_,rfl⟩
   rw[←hg1]at hh1
   have p0:g1[0]? =some (.box (PFault.cells ⟨0,0,0⟩)):=by rw[hg1,wc (by decide)];exact q0
   have p1:g1[1]? =some (.box (qdc text k1)):=by rw[hg1,wb l1]
   have p1':g1[1]? =some (.box [.str text,.int .i64 k1,.int .i64 (plc (text.take k1)).1,.int .i64 (plc (text.take k1)).2]):=p1
   have gg1:=q2g (y:=qdc text k1) hg q1
   rw[←hg1]at gg1
   have hlen:decide (1<g1.length)=true:=decide_eq_true (wa.1 p1).1
   have hlen0:decide (0<g1.length)=true:=decide_eq_true (wa.1 p0).1
   by_cases he:k1=text.length
   ·have he':((k1:Int)==(text.length:Int))=true:=by rw[he];exact beq_self_eq_true _
    obtain⟨v1,E2,ha1,hg2,hB2⟩:=q1t ql8 (fs:=[[.int .i64 6,.str [],.int .i64 0,.int .i64 (plc (text.take k1)).1,.int .i64 (plc (text.take k1)).2]]) gg1 (by simp;unfold qac;omega) (tok5 acc) (by intro c hc;simp only[wk,wi,or_false]at hc;subst hc;rfl) (by simp)
    have r0:=hB2 _ _ p0
    have hden:qna text acc k=(some (acc++[atP text k1 endT]),0):=by
     unfold qna
     rw[qci,←hk1,if_pos he]
    obtain⟨tk,hv1⟩:∃tk,v1= .slice (acc.map PTok.cells++[[.int .i64 6,.str [],.int .i64 0,.int .i64 (plc (text.take k1)).1,.int .i64 (plc (text.take k1)).2]]) tk:=by
     rcases hg2 with⟨h1,_⟩|⟨t,h1,_⟩
     ·simp at h1
     ·exact⟨_,h1⟩
    have z0:∀(H:qab) (x y:List AVal),H[0]? =some (.box x)→(H.set 0 (.box y))[0]? =some (.box y):=fun H x y h=>wb (wa.1 h).1
    simp only[Z3,simprocAttr,effs,qui,ty,hE1,hh1,p1',hl0,he',hlen,hlen0,ha1,r0,hden]
    refine .inr ⟨_,_,rfl,by simp,rfl,_,tk,⟨0,0,0⟩,by rw[hv1];rfl,rfl,z0 _ _ _ r0,?_,rfl⟩
    simp only[wj];rfl
   ·have he':((k1:Int)==(text.length:Int))=false:=by simp;omega
    obtain⟨q,hq⟩:∃q,q=lexT (text.drop k1):=⟨_,rfl⟩
    have tkc:=qcf (c:=C) (b:=1) (H:=g1) (rest:=[]) rfl p1 rfl (token_c text hT k1 (by omega)) rfl
    rw[←hq]at tkc
    have hat:(atP text k1 q.1).cells=[.int .i64 q.1.sort,.str q.1.text,.int .i64 q.1.n,.int .i64 (plc (text.take k1)).1,.int .i64 (plc (text.take k1)).2]:=rfl
    rw[hat]at tkc
    obtain⟨tc,htc⟩:∃tc,tc=[AVal.int .i64 q.1.sort,.str q.1.text,.int .i64 q.1.n,.int .i64 (plc (text.take k1)).1,.int .i64 (plc (text.take k1)).2]:=⟨_,rfl⟩
    obtain⟨G,hG⟩:∃G,G=g1++[Blk.box [AVal.int .i64 q.1.sort,.str q.1.text,.int .i64 q.1.n,.int .i64 (plc (text.take k1)).1,.int .i64 (plc (text.take k1)).2]]:=⟨_,rfl⟩
    have G0:G[0]? =some (.box (PFault.cells ⟨0,0,0⟩)):=by rw[hG];exact Boxes.app _ _ _ _ p0
    have G1:G[1]? =some (.box [.str text,.int .i64 k1,.int .i64 (plc (text.take k1)).1,.int .i64 (plc (text.take k1)).2]):=by rw[hG];exact Boxes.app _ _ _ _ p1'
    have Gt:G[g1.length]? =some (.box [AVal.int .i64 q.1.sort,.str q.1.text,.int .i64 q.1.n,.int .i64 (plc (text.take k1)).1,.int .i64 (plc (text.take k1)).2]):=by rw[hG];simp
    have Gl:G.length=g1.length+1:=by rw[hG];simp
    have gG:=gg1.app [Blk.box [AVal.int .i64 q.1.sort,.str q.1.text,.int .i64 q.1.n,.int .i64 (plc (text.take k1)).1,.int .i64 (plc (text.take k1)).2]]
    rw[←hG]at gG
    cases hok:q.2
    ·have hden:qna text acc k=(none,k1):=by
      unfold qna
      rw[qci,←hk1,if_neg he,←hq,hok,if_neg (by decide)]
     have z0:∀(H:qab) (x y:List AVal),H[0]? =some (.box x)→(H.set 0 (.box y))[0]? =some (.box y):=fun H x y h=>wb (wa.1 h).1
     simp only[Z3,simprocAttr,effs,qui,ty,hE1,hh1,p1',hl0,he',tkc,hok,←hG,G0,G1,Gl,hlen,hlen0,hden]
     refine .inr ⟨_,_,rfl,by simp,rfl,[],.full,qyx text k1,rfl,rfl,z0 _ _ _ G0,rfl,rfl⟩
    ·have hsz:=qp6 (s:=text.drop k1) (by rw[←hq];exact hok)
     rw[←hq,wh]at hsz
     obtain⟨v1,E2,ha1,hg2,hB2⟩:=q1t ql8 (fs:=[[AVal.int .i64 q.1.sort,.str q.1.text,.int .i64 q.1.n,.int .i64 (plc (text.take k1)).1,.int .i64 (plc (text.take k1)).2]]) gG (by simp;unfold qac;omega) (tok5 acc) (by intro c hc;simp only[wk,wi,or_false]at hc;subst hc;rfl) (by simp)
     have r0:=hB2 _ _ G0
     have r1:=hB2 _ _ G1
     have rt:=hB2 _ _ Gt
     obtain⟨E3,hE3,hh3⟩:=qed qaw (b:=1) (H:=E2.of G) (rest:=[.int .i64 q.1.text.length]) rfl r1 rfl rfl (skip_c text hT k1 q.1.text.length (by omega)) rfl
     have htl:q.1.text.length≤qac:=by unfold qac;omega
     have hden:qna text acc k=qna text (acc++[atP text k1 q.1]) (k1+q.1.text.length):=by
      unfold qna
      rw[qci,←hk1,if_neg he,←hq,hok,if_pos rfl,qzp text text.length (text.length+1) (k1+q.1.text.length) (by omega) (by omega) (by omega)]
      cases hs:qci text (text.length+1) (k1+q.1.text.length)with
      |mk o p=>cases o<;>simp
     simp only[Z3,simprocAttr,effs,qui,ty,hE1,hh1,p1',hl0,he',tkc,hok,←hG,G0,G1,Gl,Gt,hlen,hlen0,ha1,rt,htl,hE3,hh3]
     refine .inl ⟨(k1+q.1.text.length,acc++[atP text k1 q.1],v1),_,rfl,⟨?_,?_,?_,by simp only[];omega,by simp only[List.length_append,List.length_cons,wf];omega⟩,by simp only[AtT,ats,wg],by simp only[];omega,hden.symm⟩
     ·show((E2.of G).set 1 _)[0]? =_
      rw[wc (by decide)];exact r0
     ·show((E2.of G).set 1 _)[1]? =_
      exact wb (wa.1 r1).1
     ·have hm:(acc++[atP text k1 q.1]).map PTok.cells=acc.map PTok.cells++[[AVal.int .i64 q.1.sort,.str q.1.text,.int .i64 q.1.n,.int .i64 (plc (text.take k1)).1,.int .i64 (plc (text.take k1)).2]]:=by rw[wj];rfl
      show Grow ((E2.of G).set 1 _) v1 ((acc++[atP text k1 q.1]).map PTok.cells) _
      rw[hm]
      exact q2g hg2 r1)
 obtain⟨rfl,es,tk,fl,t2,t3,q0,rfl,rfl⟩:=h2
 clear hl
 simp only[Z3,simprocAttr,effs,qui,ty,t2,t3,q0]
 rw[qeh _ _ _ rfl,qei _ _ _ rfl]
 unfold qg4 qna
 rw[if_neg (by omega)]
 cases hs:qci text (text.length+1) 0 with
 |mk o p=>cases o<;>rfl
end Go.Ab
namespace Go.Ab
open Go Go.Ab.Tab
def qf0:List AVal:=[.int .i64 0,.int .i64 0,.int .i64 0]
theorem qx0:Ret C 75 [.nili] (.agg qf0):=by
 refine Ret.mk rfl rfl ?_
 rw[C_fn rfl Tryz.func75 rfl (by kernel_rfl) (m:=17) rfl];simp only[Z3,simprocAttr,Tryz.f75,fx_75]
 exact qfi (by simp[Eff.dirt]) rfl rfl
theorem readP_c (text:Str) (hT:text.length≤65536) {l ts':List PTok} {k:Nat} {p:PProg} (hs:qci text (text.length+1) 0=(some l,k)) (g:qbi C 37 [.ptr 0 0] [.box (pbox l 0)] (.agg p.cells) [.box (pbox ts' 0)]):
 fnF PP cmp0 C lpC 36 [.str text,.func 37 [] []] []=some (.ret (.tuple [.agg p.cells,.agg qf0]) .same):=by
 have hsc:=qxz text hT
 have hv:qg4 text= .tuple [.slice (l.map PTok.cells) .free,.agg (PFault.cells ⟨0,0,0⟩)]:=by unfold qg4;rw[if_neg (by omega),hs]
 rw[hv]at hsc
 have hf0:PFault.cells ⟨0,0,0⟩=[.int .i64 0,.int .i64 0,.int .i64 0]:=rfl
 rw[hf0]at hsc
 obtain⟨E,hE,hh⟩:=qed (c:=C) (v:= .agg p.cells) (x:=pbox l 0) (y:=pbox ts' 0) qaw (b:=2) (H:=[.box [.slice [] .full,.slice [] .full],.box [.int .i64 0,.int .i64 0,.int .i64 0],.box (pbox l 0)]) (rest:=[]) rfl rfl (qaa _ _) (qaa _ _) g (by simp only[refs];exact p.norefs)
 have hh2:E.of [.box [.slice [] .full,.slice [] .full],.box [.int .i64 0,.int .i64 0,.int .i64 0],.box (pbox l 0)]=[.box [.slice [] .full,.slice [] .full],.box [.int .i64 0,.int .i64 0,.int .i64 0],.box (pbox ts' 0)]:=hh
 have hE:qai C [.box [.slice [] .full,.slice [] .full],.box [.int .i64 0,.int .i64 0,.int .i64 0],.box [.slice (l.map PTok.cells) .free,.int .i64 0]] 37 [.ptr 2 0]=some (.ret (.agg p.cells) E):=hE
 have hh2:E.of [.box [.slice [] .full,.slice [] .full],.box [.int .i64 0,.int .i64 0,.int .i64 0],.box [.slice (l.map PTok.cells) .free,.int .i64 0]]=[.box [.slice [] .full,.slice [] .full],.box [.int .i64 0,.int .i64 0,.int .i64 0],.box (pbox ts' 0)]:=hh2
 have sp:∀(x0 x1:AVal),qar [x0,x1] 0 p.cells=some p.cells:=fun _ _=>qb7 (by rw[p.len];rfl)
 apply fnF_go Tryz.func36 rfl (m:=22) rfl
 ·apply qfr (by kernel_rfl) (by kernel_rfl)
  ·simp only[Z3,simprocAttr,Tryz.f36,qif];rfl
  apply qfr (by kernel_rfl) (by kernel_rfl)
  ·simp only[Z3,simprocAttr,qif,hsc _];rfl
  apply qfr (by kernel_rfl) (by kernel_rfl)
  ·simp only[Z3,simprocAttr,qif];rfl
  apply qv8 (by kernel_rfl) rfl
  ·simp only[Z3,simprocAttr,effs,qif,hE,hh2,sp,p.ones,p.len]
   rfl
  ·rfl
  ·rfl
 ·apply qyw Tryz.func74 rfl (by rfl) (by kernel_rfl) (by kernel_rfl) (m:=7) rfl
  ·simp only[Z3,simprocAttr,fx_74,qx0 _];rfl
  ·simp only[Z3,simprocAttr,fx_74];rfl
 ·unfold endF
  rw[show resA PP _ _=some [.agg p.cells,.agg qf0]from ?_]
  ·simp only[wf]
   rw[qf2 _ _ _ (by simp only[qb5,strip3,strip2,wd,we,p.strip,refs,qad,p.norefs];rfl)]
   simp only[qb5,strip3,strip2,wd,we,p.strip]
   rfl
  ·simp only[Z3,simprocAttr,Tryz.f36,qif,p.len,p.take];rfl
theorem pexprF_c {R:Rd} (hR:HypE R) {ts ts':List PTok} {e:PExpr} (hT:TsOk ts) (h:R 0 1 ts= .ok e ts') (h6:qc3 ts'=6):qbi C 49 [.ptr 0 0] [.box (pbox ts 0)] (.agg e.cells) [.box (pbox ts' 0)]:=by
 obtain⟨hT',g⟩:=qds hR hT h
 obtain⟨t,r,rfl⟩:=hT'.ne
 obtain⟨E,e1,e2⟩:=g.m rfl
 have d6:(t.sort !=6)=false:=by have h6:t.sort=6:=h6;rw[h6];rfl
 refine qa6 rfl Tryz.func49 rfl (by kernel_rfl) (m:=12) rfl ?_;simp only[Z3,simprocAttr,Tryz.f49,fx_49,effs,e1,e2,qe0,d6]
 exact qe1 (ts:=t::r) (d:=0) (.inl rfl) rfl rfl (qh9 e) rfl rfl
theorem readE_c (text:Str) (hT:text.length≤65536) {l ts':List PTok} {k:Nat} {p:PExpr} (hs:qci text (text.length+1) 0=(some l,k)) (g:qbi C 49 [.ptr 0 0] [.box (pbox l 0)] (.agg p.cells) [.box (pbox ts' 0)]):
 fnF PP cmp0 C lpC 48 [.str text,.func 49 [] []] []=some (.ret (.tuple [.agg p.cells,.agg qf0]) .same):=by
 have hsc:=qxz text hT
 have hv:qg4 text= .tuple [.slice (l.map PTok.cells) .free,.agg (PFault.cells ⟨0,0,0⟩)]:=by unfold qg4;rw[if_neg (by omega),hs]
 rw[hv]at hsc
 have hf0:PFault.cells ⟨0,0,0⟩=[.int .i64 0,.int .i64 0,.int .i64 0]:=rfl
 rw[hf0]at hsc
 obtain⟨E,hE,hh⟩:=qed (c:=C) (v:= .agg p.cells) (x:=pbox l 0) (y:=pbox ts' 0) qaw (b:=2) (H:=[.box [.int .i64 0,.str [],.int .i64 0,.slice [] .full,.slice [] .full],.box [.int .i64 0,.int .i64 0,.int .i64 0],.box (pbox l 0)]) (rest:=[]) rfl rfl (qaa _ _) (qaa _ _) g (by simp only[refs];exact p.norefs)
 have hh2:E.of [.box [.int .i64 0,.str [],.int .i64 0,.slice [] .full,.slice [] .full],.box [.int .i64 0,.int .i64 0,.int .i64 0],.box (pbox l 0)]=[.box [.int .i64 0,.str [],.int .i64 0,.slice [] .full,.slice [] .full],.box [.int .i64 0,.int .i64 0,.int .i64 0],.box (pbox ts' 0)]:=hh
 have hE:qai C [.box [.int .i64 0,.str [],.int .i64 0,.slice [] .full,.slice [] .full],.box [.int .i64 0,.int .i64 0,.int .i64 0],.box [.slice (l.map PTok.cells) .free,.int .i64 0]] 49 [.ptr 2 0]=some (.ret (.agg p.cells) E):=hE
 have hh2:E.of [.box [.int .i64 0,.str [],.int .i64 0,.slice [] .full,.slice [] .full],.box [.int .i64 0,.int .i64 0,.int .i64 0],.box [.slice (l.map PTok.cells) .free,.int .i64 0]]=[.box [.int .i64 0,.str [],.int .i64 0,.slice [] .full,.slice [] .full],.box [.int .i64 0,.int .i64 0,.int .i64 0],.box (pbox ts' 0)]:=hh2
 have sp:∀(x0 x1 x2 x3 x4:AVal),qar [x0,x1,x2,x3,x4] 0 p.cells=some p.cells:=fun _ _ _ _ _=>qb7 (by rw[p.len];rfl)
 apply fnF_go Tryz.func48 rfl (m:=22) rfl
 ·apply qfr (by kernel_rfl) (by kernel_rfl)
  ·simp only[Z3,simprocAttr,Tryz.f48,fx_48];rfl
  apply qfr (by kernel_rfl) (by kernel_rfl)
  ·simp only[Z3,simprocAttr,fx_48,hsc _];rfl
  apply qfr (by kernel_rfl) (by kernel_rfl)
  ·simp only[Z3,simprocAttr,fx_48];rfl
  apply qv8 (by kernel_rfl) rfl
  ·simp only[Z3,simprocAttr,effs,fx_48,hE,hh2,sp,p.ones,p.len]
   rfl
  ·rfl
  ·rfl
 ·apply qyw Tryz.func98 rfl (by rfl) (by kernel_rfl) (by kernel_rfl) (m:=7) rfl
  ·simp only[Z3,simprocAttr,fx_98,qx0 _];rfl
  ·simp only[Z3,simprocAttr,fx_98];rfl
 ·unfold endF
  rw[show resA PP _ _=some [.agg p.cells,.agg qf0]from ?_]
  ·simp only[wf]
   rw[qf2 _ _ _ (by simp only[qb5,strip3,strip2,wd,we,p.strip,refs,qad,p.norefs];rfl)]
   simp only[qb5,strip3,strip2,wd,we,p.strip]
   rfl
  ·simp only[Z3,simprocAttr,Tryz.f48,fx_48,p.len,p.take];rfl
end Go.Ab
namespace Go.Ab
open Go Go.Ab.Tab
section
variable {P:Program} {cmp:Nat→FuncId→List AVal→qab→Option Int} {call:FuncId→List AVal→qab→Option CR}
end
def faultC (e:Int):List PTok→List AVal
 |t::_=>[.int .i64 e,.int .i64 t.line,.int .i64 t.col]
 |[]=>[.int .i64 e,.int .i64 0,.int .i64 0]
theorem faultL_eq (e:Int) (ts:List PTok):qa9 e ts= .iface 29 (.agg (faultC e ts)):=by cases ts<;>rfl
theorem caught_f (a b c:Int):Ret C 75 [.iface 29 (.agg [.int .i64 a,.int .i64 b,.int .i64 c])] (.agg [.int .i64 a,.int .i64 b,.int .i64 c]):=by
 refine Ret.mk rfl rfl ?_
 rw[C_fn rfl Tryz.func75 rfl (by kernel_rfl) (m:=17) rfl];simp only[Z3,simprocAttr,Tryz.f75,fx_75]
 exact qfi (by simp[Eff.dirt]) rfl rfl
end Go.Ab
namespace Go.Ab
open Go Go.Ab.Tab
theorem fnF_gop {P:Program} {cmp} {call} {lp} {f:FuncId} {fn:Func} {c:Code} (hf:P.funcs[f]? =some fn) (hb:fn.body=some c) {args:List AVal} {h:qab} {X:Option CR} {m:Nat} (hm:fn.ntmps-args.length=m) {tm:List AVal} {H5:qab} {d:List Nat} {g:FuncId} {fi ca:List AVal} {v:AVal} {s6:St}
 (h1:qcn P cmp call lp c ⟨args++List.replicate m .undef,h,[]⟩=some (.pan v,⟨tm,H5,d⟩,some (.func g fi ca))) (h2:runF P cmp call lp g (fi++ca) (some v) H5=some s6) (h3:endF P fn h ⟨tm,s6.heap,s6.dirty++d⟩=X):
 fnF P cmp call lp f args h=X:=by
 subst hm
 rw[fnF_pan hf hb h1 h2];exact h3
theorem q3s {c:Call} (hkeep:qa4 c) {H:qab} {f:FuncId} {args:List AVal} {v:AVal} (idx:List Nat) (hidx:qbv H 256 (qad args) []=idx) (hnd:idx.Nodup) (hok:qc2 H idx args=true)
 (g:Pans c f (renL (fun x=>idx.idxOf x) args) (subH H idx) v) (hv:refs v=[]):∃e:Eff,qai c H f args=some (.pan v e)∧∀b,b<H.length→b∉idx→(e.of H)[b]? =H[b]? :=by
 obtain⟨e,h2⟩:=g
 refine⟨qge H idx e,?_,fun b h3 h4=>(qju (qla hnd hok).1 (hkeep _ _ _ _ h2).1).out b h3 h4⟩
 unfold qai
 simp only[hidx]
 rw[if_pos hok,h2]
 simp only
 rw[qfc v (by rw[hv];simp)]
end Go.Ab
namespace Go.Ab
open Go Go.Ab.Tab
theorem readP_p (text:Str) (hT:text.length≤65536) {l ts':List PTok} {k:Nat} {a b c:Int} (ha:a≠0) (hs:qci text (text.length+1) 0=(some l,k)) (g:Pans C 37 [.ptr 0 0] [.box (pbox l 0)] (.iface 29 (.agg [.int .i64 a,.int .i64 b,.int .i64 c]))):
 fnF PP cmp0 C lpC 36 [.str text,.func 37 [] []] []=some (.ret (.tuple [.agg [.slice [] .free,.slice [] .free],.agg [.int .i64 a,.int .i64 b,.int .i64 c]]) .same):=by
 have hsc:=qxz text hT
 have hv:qg4 text= .tuple [.slice (l.map PTok.cells) .free,.agg (PFault.cells ⟨0,0,0⟩)]:=by unfold qg4;rw[if_neg (by omega),hs]
 rw[hv]at hsc
 have hf0:PFault.cells ⟨0,0,0⟩=[.int .i64 0,.int .i64 0,.int .i64 0]:=rfl
 rw[hf0]at hsc
 obtain⟨E,hE,hO⟩:∃E:Eff,qai C [.box [.slice [] .full,.slice [] .full],.box [.int .i64 0,.int .i64 0,.int .i64 0],.box (pbox l 0)] 37 [.ptr 2 0]=some (.pan (.iface 29 (.agg [.int .i64 a,.int .i64 b,.int .i64 c])) E)∧∀k,k<3→k∉[2]→(E.of [.box [.slice [] .full,.slice [] .full],.box [.int .i64 0,.int .i64 0,.int .i64 0],.box (pbox l 0)])[k]? =([.box [.slice [] .full,.slice [] .full],.box [.int .i64 0,.int .i64 0,.int .i64 0],.box (pbox l 0)]:qab)[k]? :=by
  have e1:subH [.box [.slice [] .full,.slice [] .full],.box [.int .i64 0,.int .i64 0,.int .i64 0],.box (pbox l 0)] [2]=[.box (pbox l 0)]:=by simp[subH,renB,qbs (qaa _ _)]
  have e2:renL (fun x=>[2].idxOf x) [.ptr 2 0]=[.ptr 0 0]:=rfl
  refine q3s qaw [2] ?_ (by simp) ?_ (by rw[e1,e2];exact g) rfl
  ·simp[qbv,qad,refs,qaa]
  ·unfold qc2
   simp[qdq,qad,refs,qaa]
 have hE:qai C [.box [.slice [] .full,.slice [] .full],.box [.int .i64 0,.int .i64 0,.int .i64 0],.box [.slice (l.map PTok.cells) .free,.int .i64 0]] 37 [.ptr 2 0]=some (.pan (.iface 29 (.agg [.int .i64 a,.int .i64 b,.int .i64 c])) E):=hE
 have z0:=hO 0 (by omega) (by simp)
 have z1:=hO 1 (by omega) (by simp)
 obtain⟨G,hG⟩:∃G,G=E.of [.box [.slice [] .full,.slice [] .full],.box [.int .i64 0,.int .i64 0,.int .i64 0],.box (pbox l 0)]:=⟨_,rfl⟩
 rw[←hG]at z0 z1
 have hG:E.of [.box [.slice [] .full,.slice [] .full],.box [.int .i64 0,.int .i64 0,.int .i64 0],.box [.slice (l.map PTok.cells) .free,.int .i64 0]]=G:=hG.symm
 have z0:G[0]? =some (.box [.slice [] .full,.slice [] .full]):=z0
 have z1:G[1]? =some (.box [.int .i64 0,.int .i64 0,.int .i64 0]):=z1
 have l1:=(wa.1 z1).1
 obtain⟨G1,hG1⟩:∃G1,G1=G.set 1 (.box [.int .i64 a,.int .i64 b,.int .i64 c]):=⟨_,rfl⟩
 have y1:G1[1]? =some (.box [.int .i64 a,.int .i64 b,.int .i64 c]):=by rw[hG1,wb l1]
 have y0:G1[0]? =some (.box [.slice [] .full,.slice [] .full]):=by rw[hG1,wc (by decide)];exact z0
 have ar:argA (AVal.iface 29 (.agg [.int .i64 a,.int .i64 b,.int .i64 c]))=AVal.iface 29 (.agg [.int .i64 a,.int .i64 b,.int .i64 c]):=rfl
 have n0:(a !=0)=true:=by simpa using ha
 obtain⟨G2,hG2⟩:∃G2,G2=G1++[Blk.box [AVal.slice [] .full,.slice [] .full]]:=⟨_,rfl⟩
 have x0:G2[0]? =some (.box [.slice [] .full,.slice [] .full]):=by rw[hG2];exact Boxes.app _ _ _ _ y0
 have x1:G2[1]? =some (.box [.int .i64 a,.int .i64 b,.int .i64 c]):=by rw[hG2];exact Boxes.app _ _ _ _ y1
 have x2:G2[G1.length]? =some (.box [.slice [] .full,.slice [] .full]):=by rw[hG2];simp
 have l0:=(wa.1 x0).1
 have v0:(G2.set 0 (.box [.slice [] .full,.slice [] .full]))[0]? =some (.box [.slice [] .full,.slice [] .full]):=wb l0
 have v1:(G2.set 0 (.box [.slice [] .full,.slice [] .full]))[1]? =some (.box [.int .i64 a,.int .i64 b,.int .i64 c]):=by rw[wc (by decide)];exact x1
 apply fnF_gop Tryz.func36 rfl (m:=22) rfl
 ·apply qfr (by kernel_rfl) (by kernel_rfl)
  ·simp only[Z3,simprocAttr,Tryz.f36,qif];rfl
  apply qfr (by kernel_rfl) (by kernel_rfl)
  ·simp only[Z3,simprocAttr,qif,hsc _];rfl
  apply qfr (by kernel_rfl) (by kernel_rfl)
  ·simp only[Z3,simprocAttr,qif];rfl
  apply qv8 (by kernel_rfl) rfl
  ·simp only[Z3,simprocAttr,effs,pans,qif,hE,hG]
   rfl
  ·rfl
  ·rfl
 ·apply qyw Tryz.func74 rfl (by rfl) (by kernel_rfl) (by kernel_rfl) (m:=7) rfl
  ·simp only[Z3,simprocAttr,fx_74,effs,ar,caught_f _ _ _ _,hG,z1,←hG1];rfl
  ·simp only[Z3,simprocAttr,fx_74,effs,y1,n0,←hG2,x2,x0];rfl
 ·unfold endF
  rw[show resA PP _ _=some [.agg [.slice [] .full,.slice [] .full],.agg [.int .i64 a,.int .i64 b,.int .i64 c]]from ?_]
  ·simp only[wf]
   rw[qf2 _ _ _ (by simp only[qb5,strip3,strip2,wd,we,refs,qad];rfl)]
   simp only[qb5,strip3,strip2,wd,we]
   rfl
  ·simp only[Z3,simprocAttr,Tryz.f36,qif,v0,v1]
end Go.Ab
