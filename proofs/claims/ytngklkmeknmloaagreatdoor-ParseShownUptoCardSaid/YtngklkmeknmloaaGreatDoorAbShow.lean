/- What a scan tells; words with blanks between scan. -/
import Derived.Test.YtngklkmeknmloaaGreatDoorAbPrX
import Derived.Test.YtngklkmeknmloaaGreatDoorAbReadT
import Derived.Test.YtngklkmeknmloaaGreatDoorAbEach
import Derived.Test.YtngklkmeknmloaaGreatDoorAbBack
import Derived.Test.YtngklkmeknmloaaGreatDoorAbTok
set_option linter.unusedSimpArgs false
set_option linter.unusedVariables false
set_option maxRecDepth 100000
set_option maxHeartbeats 4000000
open Go.Proofs
open List renaming length_append→wa,length_cons→wb,length_nil→wd,eq_nil_of_length_eq_zero→we,flatMap_cons→wf,any_eq_false→wh,getElem?_eq_some_iff→wi,cons_append→wj,mem_flatMap→wk,getElem_mem→wm,mem_cons→wo,flatMap_nil→wt,not_mem_nil→wu,nil_append→wv,drop_left→ww,map_cons→wz,all_cons→w6,all_eq_true→w7,mem_map→w8,mem_append→waa,append_nil→wba,take_of_length_le→wca,mem_append_right→wda,mem_map_of_mem→wfa,mem_singleton→wga,append_assoc→wha,idxOf_cons→wja,take_left→wka,drop_drop→wla,map_nil→wma
open Bool renaming and_eq_true→wc,not_eq_true'→wg,or_eq_false_iff→wea,not_eq_true→wia
open Int renaming natCast_zero→wq,le_trans→wna
open Nat renaming add_zero→w9
namespace Go.Ab
open Go Go.Ab.Tab
theorem strsA_enc (l:List Str):qmn (encS l)=some l:=by
 induction l with
 |nil=>rfl
 |cons x r ih=>simp only[encS,wz]at ih ⊢;simp only[qmn,ih,Option.map_some]
theorem join_own (ws:List Str) (hl:T ws≤qac) (tk:Tk) (h:qab):C 107 [.slice (encS ws) tk,.str [32]] h=some (.ret (.str (J ws)) .same):=by
 have h1:=T_len ws
 have h2:=J_len ws
 have m2:qac=1099511627776:=rfl
 have m3:qio=140737488355328:=rfl
 unfold C
 rw[quk ext_join]
 show(match qmn (encS ws)with|some l=>if l.length≤qio∧(qjj [32] l).length≤qio then some (CR.ret (.str (qjj [32] l)) Eff.same)else none|none=>none)=_
 rw[strsA_enc]
 have h3:ws.length≤qio∧(qjj [32] ws).length≤qio:=⟨by omega,by unfold J at h2;omega⟩
 exact if_pos h3
theorem text_c (ws:List Str) (hl:T ws≤qac):C 55 [.ptr 0 0] (pOwn 9 ws)=some (.ret (.str (J ws)) .same):=by
 have e1:qai C [.box [.slice (encS ws) (.own 1)],.tok ws.length 9] 107 [.slice (encS ws) (.own 1),.str [32]]=some (.ret (.str (J ws)) .same):=
  qpe [1] rfl rfl (by
   have e:renL (fun x=>List.idxOf x [1]) [.slice (encS ws) (.own 1),.str [32]]=[.slice (encS ws) (.own 0),.str [32]]:=rfl
   rw[e];exact join_own ws hl _ _) rfl
 rw[C_fn rfl Tryz.func55 rfl (by kernel_rfl) (m:=7) rfl];simp only[Z3,simprocAttr,Tryz.f55,fx_55,pOwn,e1,qa2 2 _ _ [] (by simp)]
theorem pr_read {f:FuncId} {v:AVal} {h:qab} {b t:Nat} {ws:List Str} (p:PrAt 9 h b ws (some t)) (e:C f [.ptr 0 0] (pOwn 9 ws)=some (.ret v .same)) (hv:refs v=[]):qai C h f [.ptr b 0]=some (.ret v .same):=by
 obtain⟨hb,ht⟩:=p
 have hne:t≠b:=by intro e;subst e;rw[hb]at ht;cases ht
 have hnb:(b==t)=false:=beq_false_of_ne (Ne.symm hne)
 refine qpe [b,t] ?_ ?_ ?_ hv
 ·simp[qc0,qad,refs,hb,ht,hne]
 ·unfold qdo;simp[qad,refs,hb,ht,qdx]
 ·have hsub:subH h [b,t]=pOwn 9 ws:=by
   simp only[subH,wz,wma,List.getD_eq_getElem?_getD,hb,ht,Option.getD_some,renB,qsu,pOwn,wja,hnb,beq_self_eq_true,cond_true,cond_false]
  rw[hsub]
  simp only[renL,ren,wja,beq_self_eq_true,cond_true]
  exact e
theorem show_c (e:PExpr) (hs:e.Small) (hr:e.Rng) (hb:e.bulk≤1048576):Ret C 23 [.agg e.cells] (.str (J e.words)):=by
 refine Ret.mk (by simp[qad,refs,e.norefs]) rfl ?_
 have hT:=qzg e
 have hTl:=T_len e.words
 have m2:qac=1099511627776:=rfl
 have p0:PrAt 9 [.box e.cells,.box [.slice [] .full]] 1 [] none:=⟨rfl,rfl⟩
 rw[C_fn rfl Tryz.func23 rfl (by kernel_rfl) (m:=10) rfl];simp only[Z3,simprocAttr,Tryz.f23,fx_23]
 obtain⟨E1,hE1,t,-,-,p1,o1,l1⟩:=qdb qao (qws e hs hr) (by simp[qad,refs,e.norefs]) p0 (by simp only[wd];omega)
 have hx:=pr_read p1 (text_c ([]++e.words) (by simp only[wv];omega)) rfl
 simp only[Z3,simprocAttr,effs,fx_23,hE1,hx]
end Go.Ab
namespace Go.Ab
open Go Go.Ab.Tab
def qge (t:PEnum):List Str:=[[116,121,112,101],t.name,[61]]++qcq t.cons [124]++[[59]]
def qeg (p:PProg):List Str:=p.enums.flatMap qge++p.nodes.flatMap qf5
def qt9 (p:PProg):AVal:=if qfr false p=0 then .tuple [.str (J (qeg p)),.int .i64 0]else .tuple [.str [],.int .i64 (qfr false p)]
theorem print_c (p:PProg) (hs:p.Small) (hr:p.Rng) (hT:T (qeg p)≤qac):Ret C 27 [.agg p.cells] (qt9 p):=by
 refine Ret.mk (by simp[qad,refs,p.norefs]) (by unfold qt9;split<;>rfl) ?_
 have cr:=qzr false p hs hr
 have hTl:=T_len (qeg p)
 have hlen:(qeg p).length=(p.enums.flatMap qge).length+(p.nodes.flatMap qf5).length:=by simp[qeg]
 have hl1:=hs.1
 have hl2:=hs.2.2.1
 rw[C_fn rfl Tryz.func27 rfl (by kernel_rfl) (m:=49) rfl];simp only[Z3,simprocAttr,Tryz.f27,qjo,ty,cr _,bne]
 cases hz:qfr false p==0
 ·have hz':¬qfr false p=0:=by simpa using hz
  unfold qt9
  rw[if_neg hz']
  simp only[Z3,simprocAttr,qjo,hz]
 have hz':qfr false p=0:=by simpa using hz
 unfold qt9
 rw[if_pos hz']
 have p0:PrAt 9 [.box p.cells,.box [.slice [] .full]] 1 [] none:=⟨rfl,rfl⟩
 simp only[Z3,simprocAttr,effs,qjo,ty,hz]
 generalize hbla:qan PP cmp0 C lpC _=fa;generalize hl0a:lpC fa _=ra
 obtain⟨exa,sa,rfl,rfl,h2a⟩:=qbv (α:=Nat) hl0a [7,21,22,23,24,25,26,27,28,29,30,31,32,33,34,35,36] (fun i=>[(20,.int .i64 i)]) (fun i g=>i≤p.enums.length∧(∃tk,PrAt 9 g 1 ((p.enums.take i).flatMap qge) tk)∧g[0]? =some (.box p.cells)) (fun i=>p.enums.length-i) (fun _=>()) (fun ts _ ex s=>ex= .exit 0∧OutT [7,20,21,22,23,24,25,26,27,28,29,30,31,32,33,34,35,36] ts [] (fun g=>(∃tk,PrAt 9 g 1 (p.enums.flatMap qge) tk)∧g[0]? =some (.box p.cells)) s) 0 ⟨Nat.zero_le _,⟨none,by simpa using p0⟩,rfl⟩ (by simp only[AtT,ats,wq]) (by
  rintro ia ja ga da ⟨hia,⟨tka,pia⟩,qa_0⟩
  clear hl0a;subst hbla
  have hga0:1<ga.length:=by cases tka with
  |none=>exact(wi.1 pia.2).1
  |some t=>exact(wi.1 pia.1).1
  by_cases hlta:ia<p.enums.length
  ·have e1a:((ia:Int)<(p.enums.length:Int)):=by omega
   obtain⟨xa,hxa⟩:∃yy,yy=p.enums[ia]:=⟨_,rfl⟩
   have e3a:(p.enums.map PEnum.cells)[ia]? =some (PEnum.cells xa):=by simp[hlta,hxa]
   have hma:xa∈p.enums:=by rw[hxa];exact wm hlta
   have hqa:=qf7 qge p.enums (ia+1)
   have hspa:=qjf qge p.enums ia hlta
   rw[←hxa]at hspa
   rw[hspa]at hqa
   have hes:=hs.2.1 xa hma
   have kl:PrV 60 [qag xa.cons,.str [124]] (qcq xa.cons [124]):=qtx xa.cons [124] hes.2.1
   have hew:(qge xa).length=3+(qcq xa.cons [124]).length+1:=by simp[qge];omega
   have bs_0:(ga++[Blk.box xa.cells])[ga.length]? =some (.box xa.cells):=qbs _ _
   have qb_0:(ga++[Blk.box xa.cells])[0]? =some (.box p.cells):=Boxes.app _ _ _ _ qa_0
   simp only[Z3,simprocAttr,effs,qjo,ty,bs_0,qb_0,e1a,e3a,qa_0]
   obtain⟨E21,hE21,tt,htt,hnn,p21,o21,l21⟩:=qdb qao (show PrW 59 [.slice [[.str [116,121,112,101]],[.str xa.name],[.str [61]]] .full] [[116,121,112,101],xa.name,[61]]from qbi [[116,121,112,101],xa.name,[61]] (by simp)) rfl (pia.app [.box xa.cells]) (by(try simp only[wa,wb,wd]at hqa);(try simp only[wa,wb,wd]at hlen);(try simp only[wa,wb,wd]);omega)
   have bs_21:(Eff.of (ga++[.box xa.cells]) E21)[ga.length]? =some (.box xa.cells):=o21 _ _ (by omega) bs_0
   have qb_21:(Eff.of (ga++[.box xa.cells]) E21)[0]? =some (.box p.cells):=o21 _ _ (by omega) qb_0
   simp only[Z3,simprocAttr,effs,qjo,ty,bs_21,qb_21,e1a,e3a,qa_0,hE21]
   clear hE21;generalize hh21:Eff.of (ga++[.box xa.cells]) E21=h21 at*;clear hh21
   obtain⟨E22,hE22,p22,o22,l22⟩:=qal qao kl rfl p21 (by(try simp only[wa,wb,wd]at hqa);(try simp only[wa,wb,wd]at hlen);(try simp only[wa,wb,wd]);omega)
   have bs_22:(Eff.of h21 E22)[ga.length]? =some (.box xa.cells):=o22 _ _ (by omega) bs_21
   have qb_22:(Eff.of h21 E22)[0]? =some (.box p.cells):=o22 _ _ (by omega) qb_21
   simp only[Z3,simprocAttr,effs,qjo,ty,bs_22,qb_22,e1a,e3a,qa_0,hE22]
   clear hE22;generalize hh22:Eff.of h21 E22=h22 at*;clear hh22
   obtain⟨E23,hE23,p23,o23,l23⟩:=qal qao (show PrW 59 [.slice [[.str [59]]] .full] [[59]]from qbi [[59]] (by simp)).own rfl p22 (by(try simp only[wa,wb,wd]at hqa);(try simp only[wa,wb,wd]at hlen);(try simp only[wa,wb,wd]);omega)
   have bs_23:(Eff.of h22 E23)[ga.length]? =some (.box xa.cells):=o23 _ _ (by omega) bs_22
   have qb_23:(Eff.of h22 E23)[0]? =some (.box p.cells):=o23 _ _ (by omega) qb_22
   simp only[Z3,simprocAttr,effs,qjo,ty,bs_23,qb_23,e1a,e3a,qa_0,hE23,qay (show ia≤qac by omega)]
   clear hE23;generalize hh23:Eff.of h22 E23=h23 at*;clear hh23
   exact .inl ⟨ia+1,_,rfl,⟨hlta,⟨_,by rw[hspa,qge];simpa only[wha,wj,wv]using p23⟩,qb_23⟩,by simp only[AtT,ats,wq],by(try simp only[]);omega,by first|rfl|trivial⟩
  ·have e1a:¬((ia:Int)<(p.enums.length:Int)):=by omega
   simp only[Z3,simprocAttr,effs,qjo,ty,e1a]
   have:p.enums.take ia=p.enums:=wca (by omega)
   rw[this]at pia
   exact .inr ⟨_,_,rfl,by simp,rfl,⟨by simp only[AtT,ats],⟨tka,pia⟩,qa_0⟩⟩)
 obtain⟨ja',Ha',da',⟨⟨tka',pa'⟩,qa'⟩,rfl⟩:=h2a.elim
 clear hl0a
 simp only[Z3,simprocAttr,effs,qjo,ty,qa']
 generalize hblb:qan PP cmp0 C lpC _=fb;generalize hl0b:lpC fb _=rb
 obtain⟨exb,sb,rfl,rfl,h2b⟩:=qbv (α:=Nat) hl0b [9,41,42,43,44,45,46,47] (fun i=>[(40,.int .i64 i)]) (fun i g=>i≤p.nodes.length∧(∃tk,PrAt 9 g 1 (p.enums.flatMap qge++(p.nodes.take i).flatMap qf5) tk)∧g[0]? =some (.box p.cells)) (fun i=>p.nodes.length-i) (fun _=>()) (fun ts _ ex s=>ex= .exit 2∧OutT [9,40,41,42,43,44,45,46,47] ts [] (fun g=>(∃tk,PrAt 9 g 1 (p.enums.flatMap qge++p.nodes.flatMap qf5) tk)∧g[0]? =some (.box p.cells)) s) 0 ⟨Nat.zero_le _,⟨tka',by simpa using pa'⟩,qa'⟩ (by simp only[AtT,ats,wq]) (by
  rintro ib jb gb db ⟨hib,⟨tkb,pib⟩,qb_0⟩
  clear hl0b;subst hblb
  have hgb0:1<gb.length:=by cases tkb with
  |none=>exact(wi.1 pib.2).1
  |some t=>exact(wi.1 pib.1).1
  by_cases hltb:ib<p.nodes.length
  ·have e1b:((ib:Int)<(p.nodes.length:Int)):=by omega
   obtain⟨xb,hxb⟩:∃yy,yy=p.nodes[ib]:=⟨_,rfl⟩
   have e3b:(p.nodes.map PNode.cells)[ib]? =some (PNode.cells xb):=by simp[hltb,hxb]
   have hmb:xb∈p.nodes:=by rw[hxb];exact wm hltb
   have hqb:=qf7 qf5 p.nodes (ib+1)
   have hspb:=qjf qf5 p.nodes ib hltb
   rw[←hxb]at hspb
   rw[hspb]at hqb
   have kn:=node_p xb (hs.2.2.2 xb hmb) (hr.2 xb hmb)
   have bs_0:(gb++[Blk.box xb.cells])[gb.length]? =some (.box xb.cells):=qbs _ _
   have qc_0:(gb++[Blk.box xb.cells])[0]? =some (.box p.cells):=Boxes.app _ _ _ _ qb_0
   simp only[Z3,simprocAttr,effs,qjo,ty,bs_0,qc_0,e1b,e3b,qb_0]
   obtain⟨E41,hE41,tt,htt,hnn,p41,o41,l41⟩:=qdb qao kn (by simp[qad,refs,xb.norefs]) (pib.app [.box xb.cells]) (by(try simp only[wa,wb,wd]at hqb);(try simp only[wa,wb,wd]at hlen);(try simp only[wa,wb,wd]);omega)
   have bs_41:(Eff.of (gb++[.box xb.cells]) E41)[gb.length]? =some (.box xb.cells):=o41 _ _ (by omega) bs_0
   have qc_41:(Eff.of (gb++[.box xb.cells]) E41)[0]? =some (.box p.cells):=o41 _ _ (by omega) qc_0
   simp only[Z3,simprocAttr,effs,qjo,ty,bs_41,qc_41,e1b,e3b,qb_0,hE41,qay (show ib≤qac by omega)]
   clear hE41;generalize hh41:Eff.of (gb++[.box xb.cells]) E41=h41 at*;clear hh41
   exact .inl ⟨ib+1,_,rfl,⟨hltb,⟨_,by rw[hspb];simpa only[wha,wj,wv]using p41⟩,qc_41⟩,by simp only[AtT,ats,wq],by(try simp only[]);omega,by first|rfl|trivial⟩
  ·have e1b:¬((ib:Int)<(p.nodes.length:Int)):=by omega
   simp only[Z3,simprocAttr,effs,qjo,ty,e1b]
   have:p.nodes.take ib=p.nodes:=wca (by omega)
   rw[this]at pib
   exact .inr ⟨_,_,rfl,by simp,rfl,⟨by simp only[AtT,ats],⟨tkb,pib⟩,qb_0⟩⟩)
 obtain⟨jb',Hb',db',⟨⟨tkb',pb'⟩,qb'⟩,rfl⟩:=h2b.elim
 clear hl0b
 have hne:p.nodes.length≠0:=by
  intro h0
  unfold qfr qn0 at hz'
  rw[h0]at hz'
  simp at hz'
 obtain⟨t,rfl⟩:∃t,tkb'=some t:=by
  cases tkb' with
  |some t=>exact⟨t,rfl⟩
  |none=>
   have h1:=pb'.1
   exfalso
   cases hn:p.nodes with
   |nil=>rw[hn]at hne;exact hne rfl
   |cons n r=>rw[hn]at h1;simp[qf5]at h1
 have hx:=pr_read pb' (text_c (qeg p) hT) rfl
 simp only[Z3,simprocAttr,effs,qjo,hx]
end Go.Ab
namespace Go.Ab
open Go Go.Ab.Tab
theorem back_all {e:PExpr} (g:Good e):e.Rng→Back e∧Fst e:=by
 induction g with
 |int n h=>
  intro hr
  refine⟨?_,qfn (.int n h) hr.n⟩
  intro o r _ _
  have hw:(eInt n).words=[decB n]:=by rw[qax];rfl
  rw[hw,tw1,qzo h hr.n.2];exact Ev.pure fun _ _=>rfl
 |bool n h=>
  intro hr
  refine⟨?_,qfn (.bool n h) hr.n⟩
  intro o r _ _
  rcases h with rfl|rfl<;>(rw[qax];exact Ev.pure fun _ _=>rfl)
 |con s h=>
  intro hr
  refine⟨?_,qfn (.con s h) hr.n⟩
  intro o r _ _
  have hw:(eCon s).words=[s]:=by rw[qax];rfl
  rw[hw,tw1,qk2 h];exact Ev.pure fun _ _=>rfl
 |var s h=>
  intro hr
  refine⟨?_,qfn (.var s h) hr.n⟩
  intro o r _ hs
  have hw:(eVar s).words=[s]:=by rw[qax];rfl
  rw[hw,tw1,qfm h,tw0]
  refine Ev.congr (g:=fun m n=>if hasS [91] r||hasS [40] r then qjq m (pE n) o s r else .ok (eVar s) r) (fun m n=>rfl) (Ev.pure fun m n=> ?_)
  rw[hs.1,hs.2];rfl
 |un s k h g ih=>
  intro hr
  have i1:=ih (hr.kids k (by simp[eUn,PExpr.kids]))
  exact⟨back_un s k h i1.1 i1.2,qfn (.un s k h g) hr.n⟩
 |bin s a b h ga gb iha ihb=>
  intro hr
  have i1:=iha (hr.kids a (by simp[eBin,PExpr.kids]));have i2:=ihb (hr.kids b (by simp[eBin,PExpr.kids]))
  exact⟨back_bin s a b h i1.1 i1.2 i2.1 i2.2,qfn (.bin s a b h ga gb) hr.n⟩
 |cond a b c ga gb gc iha ihb ihc=>
  intro hr
  have i1:=iha (hr.kids a (by simp[eIf,PExpr.kids]));have i2:=ihb (hr.kids b (by simp[eIf,PExpr.kids]));have i3:=ihc (hr.kids c (by simp[eIf,PExpr.kids]))
  exact⟨back_if a b c i1.1 i1.2 i2.1 i2.2 i3.1 i3.2,qfn (.cond a b c ga gb gc) hr.n⟩
 |fby a b ga gb iha ihb=>
  intro hr
  have i1:=iha (hr.kids a (by simp[eFby,PExpr.kids]));have i2:=ihb (hr.kids b (by simp[eFby,PExpr.kids]))
  exact⟨back_fby a b i1.1 i1.2 i2.1 i2.2,qfn (.fby a b ga gb) hr.n⟩
 |pre k g ih=>
  intro hr
  have i1:=ih (hr.kids k (by simp[ePre,PExpr.kids]))
  exact⟨back_pre k i1.1 i1.2,qfn (.pre k g) hr.n⟩
 |arrow a b ga gb iha ihb=>
  intro hr
  have i1:=iha (hr.kids a (by simp[qfk,PExpr.kids]));have i2:=ihb (hr.kids b (by simp[qfk,PExpr.kids]))
  exact⟨q6z a b i1.1 i1.2 i2.1 i2.2,qfn (.arrow a b ga gb) hr.n⟩
 |when x c k hx hc g ih=>
  intro hr
  have i1:=ih (hr.kids k (by simp[qhi,PExpr.kids]))
  exact⟨back_when x c k hx hc i1.1 i1.2,qfn (.when x c k hx hc g) hr.n⟩
 |arms op x cons kids hop hx hl h1 h2 hc hk ih=>
  intro hr
  refine⟨?_,qfn (.arms op x cons kids hop hx hl h1 h2 hc hk) hr.n⟩
  have hb:=fun k hk=>ih k hk (hr.kids k hk)
  rcases hop with rfl|rfl
  ·exact q00 12 _ (.inl ⟨rfl,rfl⟩) x cons kids hx hl h1 hc hb
  ·exact q00 13 _ (.inr ⟨rfl,rfl⟩) x cons kids hx hl h1 hc hb
 |call x cons kids hx h2 hc h3 h4 hk ih=>
  intro hr
  exact⟨back_call x cons kids hx hc h3 (fun k hk=>ih k hk (hr.kids k hk)),qfn (.call x cons kids hx h2 hc h3 h4 hk) hr.n⟩
 |every a b hop ga gb iha ihb=>
  intro hr
  have i1:=iha (hr.kids a (by simp[qfj,PExpr.kids]));have i2:=ihb (hr.kids b (by simp[qfj,PExpr.kids]))
  exact⟨q60 a b hop i1.1 i1.2 i2.1 i2.2,qfn (.every a b hop ga gb) hr.n⟩
structure GoodE (e:PExpr):Prop where
 g:Good e
 r:e.Rng
 d:nd e≤50
theorem q01 {e:PExpr} (h:GoodE e) {r:List PTok} (hs:qpp r):Ev (fun _ n=>pE n 0 1 (toks e.words++r)) (.ok e r):=by
 obtain⟨b,f⟩:=back_all h.g h.r
 have:=h.d
 exact b.inf f (by decide) (by omega) (by omega) hs
theorem Ev.diag {α:Type} {f:Nat→Nat→α} {x:α} (h:Ev f x):Ev (fun _ n=>f n n) x:=by
 obtain⟨N,h⟩:=h
 exact⟨N,fun m n _ b=>h n n b b⟩
def NmL (l:List Str):Prop:=l≠[]∧∀x∈l,qc2 x=true
def CnL (l:List Str):Prop:=l≠[]∧∀x∈l,qgb x=true
theorem qsm {l:List Str} (h:NmL l) (r:List PTok):Ev (fun m _=>qdn m [40] [41] (toks (qd1 l)++r)) (.ok l r):=by
 unfold qd1
 simp only[twa,tw1,tw0]
 refine Ev.congr (g:=fun m _=>(qem 1 [44] m (toks (qcq l [44])++tokW [41]::r)).bind fun l ts=>qav [41] ts fun ts=> .ok l ts) (fun m n=>rfl) ?_
 exact Ev.bind (k:=fun _ _ l ts=>qav [41] ts fun ts=> .ok l ts) (qpq 1 [44] rfl l h.1 (fun x hx=>qfm (h.2 x hx)) (tokW [41]::r) rfl) (Ev.pure fun _ _=>rfl)
structure qps (q:PEq):Prop where
 n:NmL q.names
 e:GoodE q.e
theorem q47 {l:List Str} (h:NmL l) (r:List PTok):qcu (toks (qij l)++r)=true:=by
 unfold qij
 split
 ·rename_i x
  rw[tw1,qfm (h.2 x (by simp))];rfl
 ·rfl
theorem q3q (q:PEq) (r:List PTok):toks (eqW q)++r=toks (qij q.names)++(tokW [61]::(toks q.e.words++tokW [59]::r)):=by
 unfold eqW;simp only[twa,tw1,tw0]
theorem q02 {q:PEq} (h:qps q) (r:List PTok):qcu (toks (eqW q)++r)=true:=by
 rw[q3q];exact q47 h.n _
theorem head_back {l:List Str} (h:NmL l) (R:List PTok):Ev (fun m _=>if hasS [40] (toks (qij l)++R)=true then qdn m [40] [41] (toks (qij l)++R)else qef 1 (toks (qij l)++R) fun s ts=> .ok [s] ts) (.ok l R):=by
 match l,h with
 |[],h=>exact absurd rfl h.1
 |[x],h=>
  have hw:qij [x]=[x]:=rfl
  rw[hw,tw1,qfm (h.2 x (by simp)),tw0]
  exact Ev.pure fun _ _=>rfl
 |x::y::q,h=>
  have hw:qij (x::y::q)=qd1 (x::y::q):=rfl
  rw[hw]
  exact Ev.congr (fun m n=>rfl) (qsm h R)
theorem eq_back {q:PEq} (h:qps q) (r:List PTok):Ev (fun m n=>pEq m (pE n) (toks (eqW q)++r)) (.ok q r):=by
 rw[q3q]
 obtain⟨R,hR⟩:∃t,t=tokW [61]::(toks q.e.words++tokW [59]::r):=⟨_,rfl⟩
 rw[←hR]
 refine Ev.bind (k:=fun m n l ts=>qav [61] ts fun ts=>(pE n 0 1 ts).bind fun e ts=>qav [59] ts fun ts=> .ok (PEq.mk l e) ts) (head_back h.n R) ?_
 rw[hR]
 refine Ev.congr (g:=fun _ n=>(pE n 0 1 (toks q.e.words++tokW [59]::r)).bind fun e ts=>qav [59] ts fun ts=> .ok (PEq.mk q.names e) ts) (fun m n=>rfl) ?_
 exact Ev.bind (k:=fun _ _ e ts=>qav [59] ts fun ts=> .ok (PEq.mk q.names e) ts) (q01 h.e (stop_semi r)) (Ev.pure fun _ _=>rfl)
theorem q3r:∀(l:List PEq),(∀q∈l,qps q)→∀r,qcu r=false→Ev (fun m n=>pEqs (pE n) n m (toks (l.flatMap eqW)++r)) (.ok l r)
 |[],_,r,hr=>Ev.succ (g:=fun _ _=> .ok [] r) (fun m n=>by simp only[wt,tw0,pEqs,hr];rfl) (Ev.pure fun _ _=>rfl)
 |q::l,h,r,hr=>by
  rw[wf,twa]
  have hq:=h q (by simp)
  refine Ev.succ (g:=fun m n=>(pEq n (pE n) (toks (eqW q)++(toks (l.flatMap eqW)++r))).bind fun q ts=>(pEqs (pE n) n m ts).bind fun l ts=> .ok (q::l) ts) (fun m n=>by simp only[pEqs,q02 hq];rfl) ?_
  refine Ev.bind (k:=fun m n q ts=>(pEqs (pE n) n m ts).bind fun l ts=> .ok (q::l) ts) (Ev.diag (eq_back hq _)) ?_
  exact Ev.bind (k:=fun m n l ts=> .ok (q::l) ts) (q3r l (fun x hx=>h x (by simp[hx])) r hr) (Ev.pure fun _ _=>rfl)
structure GoodW (w:PWay):Prop where
 t:qgb w.to=true
 e:GoodE w.cond
theorem q03:∀(l:List PWay),(∀w∈l,GoodW w)→∀r,hasS [117,110,116,105,108] r=false→Ev (fun m n=>qe8 (pE n) m (toks (l.flatMap wayW)++r)) (.ok l r)
 |[],_,r,hr=>Ev.succ (g:=fun _ _=> .ok [] r) (fun m n=>by simp only[wt,tw0,qe8,hr];rfl) (Ev.pure fun _ _=>rfl)
 |w::l,h,r,hr=>by
  have hq:=h w (by simp)
  obtain⟨R,hR⟩:∃t,t=toks (l.flatMap wayW)++r:=⟨_,rfl⟩
  have hw:toks ((w::l).flatMap wayW)++r=tokW [117,110,116,105,108]::(toks w.cond.words++tokW [116,104,101,110]::⟨2,w.to,0,0,0⟩::tokW [59]::R):=by
   rw[wf,twa,←hR,←qk2 hq.t];unfold wayW;simp only[twa,tw1,tw0]
  rw[hw]
  refine Ev.succ (g:=fun m n=>(pE n 0 1 (toks w.cond.words++tokW [116,104,101,110]::⟨2,w.to,0,0,0⟩::tokW [59]::R)).bind fun e ts=>qav [116,104,101,110] ts fun ts=>qef 2 ts fun c ts=>qav [59] ts fun ts=>(qe8 (pE n) m ts).bind fun l ts=> .ok (PWay.mk e c::l) ts) (fun m n=>rfl) ?_
  refine Ev.bind (k:=fun m n e ts=>qav [116,104,101,110] ts fun ts=>qef 2 ts fun c ts=>qav [59] ts fun ts=>(qe8 (pE n) m ts).bind fun l ts=> .ok (PWay.mk e c::l) ts) (q01 hq.e (q0z _)) ?_
  refine Ev.congr (g:=fun m n=>(qe8 (pE n) m R).bind fun l ts=> .ok (PWay.mk w.cond w.to::l) ts) (fun m n=>rfl) ?_
  rw[hR]
  exact Ev.bind (k:=fun m n l ts=> .ok (PWay.mk w.cond w.to::l) ts) (q03 l (fun x hx=>h x (by simp[hx])) r hr) (Ev.pure fun _ _=>rfl)
structure qvo (s:PState):Prop where
 n:qgb s.name=true
 q:∀q∈s.eqs,qps q
 w:∀w∈s.ways,GoodW w
theorem q48 (l:List PWay) (r:List PTok) (h:qcu r=false):qcu (toks (l.flatMap wayW)++r)=false:=by
 cases l with
 |nil=>exact h
 |cons w l=>rfl
def qgk (s:PState):List Str:=[s.name,[58]]++s.eqs.flatMap eqW++s.ways.flatMap wayW
theorem q04 (s:PState):qdd s=[115,116,97,116,101]::qgk s:=by unfold qdd qgk;rfl
theorem qv7 {s:PState} (h:qvo s) (r:List PTok) (h1:qcu r=false) (h2:hasS [117,110,116,105,108] r=false):Ev (fun _ n=>qgr n (pE n) (toks (qgk s)++r)) (.ok s r):=by
 have hw:toks (qgk s)++r=⟨2,s.name,0,0,0⟩::tokW [58]::(toks (s.eqs.flatMap eqW)++(toks (s.ways.flatMap wayW)++r)):=by
  rw[←qk2 h.n];unfold qgk;simp only[twa,tw1,tw0]
 rw[hw]
 refine Ev.congr (g:=fun _ n=>(pEqs (pE n) n n (toks (s.eqs.flatMap eqW)++(toks (s.ways.flatMap wayW)++r))).bind fun q ts=>(qe8 (pE n) n ts).bind fun w ts=> .ok (PState.mk s.name q w) ts) (fun m n=>rfl) ?_
 refine Ev.bind (k:=fun _ n q ts=>(qe8 (pE n) n ts).bind fun w ts=> .ok (PState.mk s.name q w) ts) (Ev.diag (q3r s.eqs h.q _ (q48 _ _ h1))) ?_
 exact Ev.bind (k:=fun _ _ w ts=> .ok (PState.mk s.name s.eqs w) ts) (Ev.diag (q03 s.ways h.w r h2)) (Ev.pure fun _ _=>rfl)
theorem qv8:∀(s:PState) (l:List PState),qvo s→(∀x∈l,qvo x)→∀r,qcu r=false→hasS [117,110,116,105,108] r=false→hasS [115,116,97,116,101] r=false→
 Ev (fun m n=>qb9 (pE n) n m (toks (qgk s)++(toks (l.flatMap qdd)++r))) (.ok (s::l) r)
 |s,[],h,_,r,h1,h2,h3=>by
  rw[wt,tw0]
  refine Ev.succ (g:=fun m n=>(qgr n (pE n) (toks (qgk s)++r)).bind fun s ts=>if hasS [115,116,97,116,101] ts=true then(qb9 (pE n) n m ts.tail).bind fun l ts=> .ok (s::l) ts else .ok [s] ts) (fun m n=>rfl) ?_
  refine Ev.bind (k:=fun m n s ts=>if hasS [115,116,97,116,101] ts=true then(qb9 (pE n) n m ts.tail).bind fun l ts=> .ok (s::l) ts else .ok [s] ts) (qv7 h r h1 h2) (Ev.pure fun m n=> ?_)
  rw[h3];rfl
 |s,t::l,h,hl,r,h1,h2,h3=>by
  have hw:toks ((t::l).flatMap qdd)++r=tokW [115,116,97,116,101]::(toks (qgk t)++(toks (l.flatMap qdd)++r)):=by
   rw[wf,twa,q04,tw1]
  rw[hw]
  refine Ev.succ (g:=fun m n=>(qgr n (pE n) (toks (qgk s)++tokW [115,116,97,116,101]::(toks (qgk t)++(toks (l.flatMap qdd)++r)))).bind fun s ts=>if hasS [115,116,97,116,101] ts=true then(qb9 (pE n) n m ts.tail).bind fun l ts=> .ok (s::l) ts else .ok [s] ts) (fun m n=>rfl) ?_
  refine Ev.bind (k:=fun m n s ts=>if hasS [115,116,97,116,101] ts=true then(qb9 (pE n) n m ts.tail).bind fun l ts=> .ok (s::l) ts else .ok [s] ts) (qv7 h _ rfl rfl) ?_
  refine Ev.congr (g:=fun m n=>(qb9 (pE n) n m (toks (qgk t)++(toks (l.flatMap qdd)++r))).bind fun l ts=> .ok (s::l) ts) (fun m n=>rfl) ?_
  exact Ev.bind (k:=fun m n l ts=> .ok (s::l) ts) (qv8 t l (hl t (by simp)) (fun x hx=>hl x (by simp[hx])) r h1 h2 h3) (Ev.pure fun _ _=>rfl)
structure GoodI (x:PItem):Prop where
 q:x.states=[]→qps x.eq
 z:x.states≠[]→x.eq=⟨[],eZero⟩
 s:∀s∈x.states,qvo s
theorem qyt:∀(l:List PItem),(∀x∈l,GoodI x)→∀r,qcu r=false→hasS [97,117,116,111,109,97,116,111,110] r=false→Ev (fun m n=>qce (pE n) n m (toks (l.flatMap qet)++r)) (.ok l r)
 |[],_,r,h1,h2=>Ev.succ (g:=fun _ _=> .ok [] r) (fun m n=>by simp only[wt,tw0,qce,h1,h2];rfl) (Ev.pure fun _ _=>rfl)
 |x::l,h,r,h1,h2=>by
  have hx:=h x (by simp)
  have ih:=qyt l (fun x hx=>h x (by simp[hx])) r h1 h2
  obtain⟨q,ss⟩:=x
  rw[wf,twa]
  cases ss with
  |nil=>
   have hq:qps q:=hx.q rfl
   have hw:qet ⟨q,[]⟩=eqW q:=rfl
   rw[hw]
   refine Ev.succ (g:=fun m n=>(pEq n (pE n) (toks (eqW q)++(toks (l.flatMap qet)++r))).bind fun q ts=>(qce (pE n) n m ts).bind fun l ts=> .ok (PItem.mk q []::l) ts) (fun m n=>by simp only[qce,q02 hq];rfl) ?_
   refine Ev.bind (k:=fun m n q ts=>(qce (pE n) n m ts).bind fun l ts=> .ok (PItem.mk q []::l) ts) (Ev.diag (eq_back hq _)) ?_
   exact Ev.bind (k:=fun m n l ts=> .ok (PItem.mk q []::l) ts) ih (Ev.pure fun _ _=>rfl)
  |cons s ss=>
   have hz:q=⟨[],eZero⟩:=hx.z (by simp)
   subst hz
   obtain⟨R,hR⟩:∃t,t=toks (l.flatMap qet)++r:=⟨_,rfl⟩
   rw[←hR]at ih ⊢
   have hw:toks (qet ⟨⟨[],eZero⟩,s::ss⟩)++R=tokW [97,117,116,111,109,97,116,111,110]::tokW [115,116,97,116,101]::(toks (qgk s)++(toks (ss.flatMap qdd)++tokW [101,110,100]::tokW [59]::R)):=by
    have:qet ⟨⟨[],eZero⟩,s::ss⟩=[[97,117,116,111,109,97,116,111,110]]++(s::ss).flatMap qdd++[[101,110,100],[59]]:=rfl
    rw[this,wf,q04];simp only[twa,tw1,tw0]
   rw[hw]
   refine Ev.succ (g:=fun m n=>(qb9 (pE n) n n (toks (qgk s)++(toks (ss.flatMap qdd)++tokW [101,110,100]::tokW [59]::R))).bind fun ss ts=>qav [101,110,100] ts fun ts=>qav [59] ts fun ts=>(qce (pE n) n m ts).bind fun l ts=> .ok (PItem.mk ⟨[],eZero⟩ ss::l) ts) (fun m n=>rfl) ?_
   refine Ev.bind (k:=fun m n ss ts=>qav [101,110,100] ts fun ts=>qav [59] ts fun ts=>(qce (pE n) n m ts).bind fun l ts=> .ok (PItem.mk ⟨[],eZero⟩ ss::l) ts) (Ev.diag (qv8 s ss (hx.s s (by simp)) (fun y hy=>hx.s y (by simp[hy])) (tokW [101,110,100]::tokW [59]::R) rfl rfl rfl)) ?_
   refine Ev.congr (g:=fun m n=>(qce (pE n) n m R).bind fun l ts=> .ok (PItem.mk ⟨[],eZero⟩ (s::ss)::l) ts) (fun m n=>rfl) ?_
   exact Ev.bind (k:=fun m n l ts=> .ok (PItem.mk ⟨[],eZero⟩ (s::ss)::l) ts) ih (Ev.pure fun _ _=>rfl)
structure qvp (x:PNode):Prop where
 n:qc2 x.name=true
 f:∀s∈x.funs,qc2 s=true
 i:NmL x.ins
 u:NmL x.outs
 t:∀y∈x.items,GoodI y
theorem funs_back {l:List Str} (h:∀s∈l,qc2 s=true) (r:List PTok) (hr:hasS [91] r=false):Ev (fun m _=>if hasS [91] (toks (brW l)++r)=true then qdn m [91] [93] (toks (brW l)++r)else .ok [] (toks (brW l)++r)) (.ok l r):=by
 by_cases h0:l.length=0
 ·have:l=[]:=we h0
  subst this
  have hbr:brW []=[]:=rfl
  rw[hbr,tw0]
  exact Ev.pure fun _ _=>by rw[hr];rfl
 ·have hbr:brW l=[[91]]++qcq l [44]++[[93]]:=by unfold brW;rw[if_neg h0]
  rw[hbr];simp only[twa,tw1,tw0]
  have hs:=qpq 1 [44] rfl l (by intro e;rw[e]at h0;exact h0 rfl) (fun c hx=>qfm (h c hx)) (tokW [93]::r) rfl
  refine Ev.congr (g:=fun m n=>(qem 1 [44] m (toks (qcq l [44])++tokW [93]::r)).bind fun l ts=>qav [93] ts fun ts=> .ok l ts) (fun m n=>rfl) ?_
  exact Ev.bind (k:=fun _ _ l ts=>qav [93] ts fun ts=> .ok l ts) hs (Ev.pure fun _ _=>rfl)
def qua (n:PNode):List Str:=[n.name]++(brW n.funs++(qd1 n.ins++([[61]]++(qd1 n.outs++([[119,104,101,114,101]]++(n.items.flatMap qet++[[101,110,100]]))))))
theorem nodeW_eq (n:PNode):qf5 n=[110,111,100,101]::qua n:=by unfold qf5 qua;simp
theorem node_back {x:PNode} (h:qvp x) (r:List PTok):Ev (fun _ n=>qi0 n (pE n) (toks (qua x)++r)) (.ok x r):=by
 unfold qua
 simp only[twa,tw1,tw0]
 rw[qfm h.n]
 obtain⟨R4,hR4⟩:∃t,t=toks (x.items.flatMap qet)++tokW [101,110,100]::r:=⟨_,rfl⟩
 obtain⟨R3,hR3⟩:∃t,t=toks (qd1 x.outs)++tokW [119,104,101,114,101]::R4:=⟨_,rfl⟩
 obtain⟨R2,hR2⟩:∃t,t=toks (qd1 x.ins)++tokW [61]::R3:=⟨_,rfl⟩
 have hR2':hasS [91] R2=false:=by rw[hR2];rfl
 rw[←hR4,←hR3,←hR2]
 refine Ev.congr (g:=fun _ n=>(if hasS [91] (toks (brW x.funs)++R2)=true then qdn n [91] [93] (toks (brW x.funs)++R2)else .ok [] (toks (brW x.funs)++R2)).bind fun f ts=>(qdn n [40] [41] ts).bind fun i ts=>qav [61] ts fun ts=>(qdn n [40] [41] ts).bind fun u ts=>
  qav [119,104,101,114,101] ts fun ts=>(qce (pE n) n n ts).bind fun l ts=>qav [101,110,100] ts fun ts=> .ok (PNode.mk x.name f i u l) ts) (fun m n=>rfl) ?_
 refine Ev.bind (k:=fun _ n f ts=>(qdn n [40] [41] ts).bind fun i ts=>qav [61] ts fun ts=>(qdn n [40] [41] ts).bind fun u ts=>
  qav [119,104,101,114,101] ts fun ts=>(qce (pE n) n n ts).bind fun l ts=>qav [101,110,100] ts fun ts=> .ok (PNode.mk x.name f i u l) ts) (Ev.diag (funs_back h.f R2 hR2')) ?_
 rw[hR2]
 refine Ev.bind (k:=fun _ n i ts=>qav [61] ts fun ts=>(qdn n [40] [41] ts).bind fun u ts=>
  qav [119,104,101,114,101] ts fun ts=>(qce (pE n) n n ts).bind fun l ts=>qav [101,110,100] ts fun ts=> .ok (PNode.mk x.name x.funs i u l) ts) (Ev.diag (qsm h.i _)) ?_
 refine Ev.congr (g:=fun _ n=>(qdn n [40] [41] R3).bind fun u ts=>
  qav [119,104,101,114,101] ts fun ts=>(qce (pE n) n n ts).bind fun l ts=>qav [101,110,100] ts fun ts=> .ok (PNode.mk x.name x.funs x.ins u l) ts) (fun m n=>rfl) ?_
 rw[hR3]
 refine Ev.bind (k:=fun _ n u ts=>qav [119,104,101,114,101] ts fun ts=>(qce (pE n) n n ts).bind fun l ts=>qav [101,110,100] ts fun ts=> .ok (PNode.mk x.name x.funs x.ins u l) ts) (Ev.diag (qsm h.u _)) ?_
 refine Ev.congr (g:=fun _ n=>(qce (pE n) n n R4).bind fun l ts=>qav [101,110,100] ts fun ts=> .ok (PNode.mk x.name x.funs x.ins x.outs l) ts) (fun m n=>rfl) ?_
 rw[hR4]
 exact Ev.bind (k:=fun _ n l ts=>qav [101,110,100] ts fun ts=> .ok (PNode.mk x.name x.funs x.ins x.outs l) ts) (Ev.diag (qyt x.items h.t (tokW [101,110,100]::r) rfl rfl)) (Ev.pure fun _ _=>rfl)
structure GoodT (x:PEnum):Prop where
 n:qc2 x.name=true
 c:CnL x.cons
def qub (t:PEnum):List Str:=[t.name,[61]]++qcq t.cons [124]++[[59]]
theorem enumW_eq (t:PEnum):qge t=[116,121,112,101]::qub t:=by unfold qge qub;rfl
theorem enum_back {x:PEnum} (h:GoodT x) (r:List PTok):Ev (fun m _=>qlu m (toks (qub x)++r)) (.ok x r):=by
 unfold qub
 simp only[twa,tw1,tw0]
 rw[qfm h.n]
 have hs:=qpq 2 [124] rfl x.cons h.c.1 (fun c hx=>qk2 (h.c.2 c hx)) (tokW [59]::r) rfl
 refine Ev.congr (g:=fun m n=>(qem 2 [124] m (toks (qcq x.cons [124])++tokW [59]::r)).bind fun l ts=>qav [59] ts fun ts=> .ok (PEnum.mk x.name l) ts) (fun m n=>rfl) ?_
 exact Ev.bind (k:=fun _ _ l ts=>qav [59] ts fun ts=> .ok (PEnum.mk x.name l) ts) hs (Ev.pure fun _ _=>rfl)
structure GoodP (p:PProg):Prop where
 t:∀x∈p.enums,GoodT x
 n:∀x∈p.nodes,qvp x
def tEnd:PTok:=⟨6,[],0,0,0⟩
theorem qyu:∀(l:List PNode),(∀x∈l,qvp x)→Ev (fun m n=>qdv (pE n) n m (toks (l.flatMap qf5)++[tEnd])) (.ok ⟨[],l⟩ [tEnd])
 |[],_=>Ev.succ (g:=fun _ _=> .ok ⟨[],[]⟩ [tEnd]) (fun m n=>rfl) (Ev.pure fun _ _=>rfl)
 |x::l,h=>by
  rw[wf,twa,nodeW_eq,tw1]
  refine Ev.succ (g:=fun m n=>(qi0 n (pE n) (toks (qua x)++(toks (l.flatMap qf5)++[tEnd]))).bind fun x ts=>(qdv (pE n) n m ts).bind fun p ts=> .ok (PProg.mk p.enums (x::p.nodes)) ts) (fun m n=>rfl) ?_
  refine Ev.bind (k:=fun m n x ts=>(qdv (pE n) n m ts).bind fun p ts=> .ok (PProg.mk p.enums (x::p.nodes)) ts) (node_back (h x (by simp)) _) ?_
  exact Ev.bind (k:=fun m n p ts=> .ok (PProg.mk p.enums (x::p.nodes)) ts) (qyu l (fun y hy=>h y (by simp[hy]))) (Ev.pure fun _ _=>rfl)
theorem qyv:∀(l:List PEnum) (q:List PNode),(∀x∈l,GoodT x)→(∀x∈q,qvp x)→Ev (fun m n=>qdv (pE n) n m (toks (l.flatMap qge)++(toks (q.flatMap qf5)++[tEnd]))) (.ok ⟨l,q⟩ [tEnd])
 |[],q,_,hq=>qyu q hq
 |x::l,q,h,hq=>by
  rw[wf,twa,enumW_eq,tw1]
  refine Ev.succ (g:=fun m n=>(qlu n (toks (qub x)++(toks (l.flatMap qge)++(toks (q.flatMap qf5)++[tEnd])))).bind fun t ts=>(qdv (pE n) n m ts).bind fun p ts=> .ok (PProg.mk (t::p.enums) p.nodes) ts) (fun m n=>rfl) ?_
  refine Ev.bind (k:=fun m n t ts=>(qdv (pE n) n m ts).bind fun p ts=> .ok (PProg.mk (t::p.enums) p.nodes) ts) (Ev.diag (enum_back (h x (by simp)) _)) ?_
  exact Ev.bind (k:=fun m n p ts=> .ok (PProg.mk (x::p.enums) p.nodes) ts) (qyv l q (fun y hy=>h y (by simp[hy])) hq) (Ev.pure fun _ _=>rfl)
theorem prog_back {p:PProg} (h:GoodP p):Ev (fun m n=>qdv (pE n) n m (toks (qeg p)++[tEnd])) (.ok p [tEnd]):=by
 unfold qeg
 rw[twa]
 exact qyv p.enums p.nodes h.t h.n
end Go.Ab
namespace Go.Ab
open Go Go.Ab.Tab
theorem qw3 (a b:Int):imax a b=max a b:=by unfold imax;omega
theorem depth_nd (e:PExpr):nd e≤qac→e.depth=(nd e:Int):=by
 induction e using PExpr.induct with
 |h op name n cons ks ih=>
  intro h
  simp only[nd]at h ⊢
  have key:∀(l:List PExpr) (a:Nat),(∀k∈l,k∈ks)→qm4 l (a:Int)=((max a (ndL l):Nat):Int):=by
   intro l
   induction l with
   |nil=>intro a _;simp only[qm4,ndL];omega
   |cons x r ihl=>
    intro a hm
    have hx:nd x≤qac:=by have:=nd_le (hm x (by simp));omega
    have e1:=ih x (hm x (by simp)) hx
    simp only[qm4,ndL,e1,qw3]
    have:max (a:Int) (nd x:Int)=((max a (nd x):Nat):Int):=by omega
    rw[this,ihl (max a (nd x)) (fun k hk=>hm k (by simp[hk]))]
    omega
  have:=key ks 0 (fun k hk=>hk)
  simp only[PExpr.depth]
  have h0:((0:Nat):Int)=0:=rfl
  rw[h0]at this
  rw[this]
  unfold wadd
  have hl:ndL ks≤qac:=by omega
  have hm:max 0 (ndL ks)=ndL ks:=by omega
  rw[hm,qay hl]
theorem nd_bulk (e:PExpr):nd e≤e.bulk:=by
 induction e using PExpr.induct with
 |h op name n cons ks ih=>
  simp only[nd,PExpr.bulk]
  have:ndL ks≤PExpr.bulkL ks:=by
   clear name n cons op
   induction ks with
   |nil=>simp[ndL]
   |cons x r ihl=>
    have h1:=ih x (by simp)
    have h2:=ihl (fun k hk=>ih k (by simp[hk]))
    simp only[ndL,PExpr.bulkL];omega
  omega
theorem accE_mono (p:Int×Int) (l:List PExpr):p.2≤(accE p l).2:=by
 induction l generalizing p with
 |nil=>exact Int.le_refl _
 |cons x r ih=>
  rw[qh5]
  have:=ih (wadd p.1 x.size,imax p.2 x.depth)
  have h2:p.2≤imax p.2 x.depth:=by rw[qw3];omega
  exact wna h2 this
theorem accE_mem (p:Int×Int) (l:List PExpr):∀x∈l,x.depth≤(accE p l).2:=by
 induction l generalizing p with
 |nil=>intro x hx;cases hx
 |cons y r ih=>
  intro x hx
  rw[qh5]
  rcases wo.1 hx with rfl|hx
  ·have:=accE_mono (wadd p.1 x.size,imax p.2 x.depth) r
   have h2:x.depth≤imax p.2 x.depth:=by rw[qw3];omega
   exact wna h2 this
  ·exact ih _ x hx
theorem qpt {l:List Str} {a b:Int} (h:qjg false l a b=true):a≤l.length∧l.length≤b∧∀x∈l,qc2 x=true:=by
 unfold qjg at h
 simp only[wc,decide_eq_true_eq,wg,wh,wia,qgi]at h
 exact⟨h.1.1,h.1.2,fun x hx=>by simpa using h.2 x hx⟩
theorem consB_nm {l:List Str} {a b:Int} (h:qpr false l a b=true):a≤l.length∧l.length≤b∧∀x∈l,qgb x=true:=by
 unfold qpr at h
 simp only[wc,decide_eq_true_eq,wg,wh,wia,qjt]at h
 exact⟨h.1.1,h.1.2,fun x hx=>by simpa using h.2 x hx⟩
theorem qpu {l:List Str} (h:(1:Int)≤l.length):l≠[]:=by
 intro e;rw[e]at h;simp at h
theorem q3s {q:PEq} (h:eqB false q=true) (hr:q.Rng) (hd:nd q.e≤50):qps q:=by
 unfold eqB at h
 rw[wc]at h
 obtain⟨a,_,c⟩:=qpt h.1
 exact⟨⟨qpu a,c⟩,good_of _ h.2,hr,hd⟩
theorem same_zero {e:PExpr} (h:e.same qvl=true):e=eZero:=(same_iff e qvl).1 h
theorem goodS_of {s:PState} (h:qq3 false s=true) (hr:s.Rng) (hd:∀e∈s.exprs,nd e≤50):qvo s:=by
 unfold qq3 at h
 simp only[wc,w7,qjt]at h
 obtain⟨⟨⟨⟨h1,_⟩,_⟩,h4⟩,h5⟩:=h
 refine⟨h1,fun q hq=>q3s (h4 q hq) (hr.1 q hq) (hd _ ?_),fun w hw=>⟨(h5 w hw).1,good_of _ (h5 w hw).2,hr.2 w hw,hd _ ?_⟩⟩
 ·exact List.mem_append_left _ (wfa (f:=fun x:PEq=>x.e) hq)
 ·exact wda _ (wfa (f:=fun x:PWay=>x.cond) hw)
theorem goodI_of {x:PItem} (h:qvm false x=true) (hr:x.Rng) (hd:∀e∈x.exprs,nd e≤50):GoodI x:=by
 unfold qvm at h
 by_cases hz:x.states=[]
 ·rw[if_pos (by simp[hz])]at h
  refine⟨fun _=>q3s h hr.1 (hd _ ?_),fun hne=>absurd hz hne,fun s hs=> ?_⟩
  ·unfold PItem.exprs;simp[hz]
  ·rw[hz]at hs;cases hs
 ·have hl:¬((x.states.length:Int)==0)=true:=by
   simp only[beq_iff_eq];intro e;exact hz (we (by omega))
  rw[if_neg hl]at h
  simp only[wc,wg,wh,beq_iff_eq]at h
  obtain⟨⟨⟨h1,h2⟩,_⟩,h4⟩:=h
  refine⟨fun he=>absurd he hz,fun _=> ?_,fun s hs=>goodS_of (by simpa using h4 s hs) (hr.2 s hs) (fun e he=>hd e ?_)⟩
  ·have e1:x.eq.names=[]:=we (by omega)
   have e2:=same_zero h2
   cases hx:x.eq with
   |mk n e=>rw[hx]at e1 e2;simp only at e1 e2;rw[e1,e2]
  ·exact wda _ (wk.2 ⟨s,hs,he⟩)
theorem goodN_of {n:PNode} (h:qvn false n=true) (hr:n.Rng) (hd:∀e∈n.exprs,nd e≤50):qvp n:=by
 unfold qvn at h
 simp only[wc,wg,wh,qgi]at h
 obtain⟨⟨⟨⟨⟨h1,h2⟩,h3⟩,h4⟩,_⟩,h6⟩:=h
 obtain⟨_,_,f⟩:=qpt h2
 obtain⟨i1,_,i⟩:=qpt h3
 obtain⟨o1,_,o⟩:=qpt h4
 exact⟨h1,f,⟨qpu i1,i⟩,⟨qpu o1,o⟩,fun x hx=>goodI_of (by simpa using h6 x hx) (hr x hx) (fun e he=>hd e (wk.2 ⟨x,hx,he⟩))⟩
theorem qyw {p:PProg} (h:qfr false p=0):qn0 false p=true∧∀n∈p.nodes,qna n=false:=by
 unfold qfr at h
 cases hq:qn0 false p with
 |false=>rw[hq]at h;simp at h
 |true=>
  rw[hq,if_pos rfl]at h
  refine⟨rfl,fun n hn=> ?_⟩
  cases hg:p.nodes.any qna with
  |true=>rw[hg,if_pos rfl]at h;cases h
  |false=>simpa using(wh.1 hg) n hn
theorem expr_bulk {p:PProg} {n:PNode} (hn:n∈p.nodes) {e:PExpr} (he:e∈n.exprs):e.bulk≤p.bulk:=by
 have h1:n.bulk≤p.bulk:=by
  have:=qe1 PNode.bulk p.nodes n hn
  unfold PProg.bulk;omega
 obtain⟨x,hx,he⟩:=wk.1 he
 have h2:x.bulk≤n.bulk:=by
  have:=qe1 PItem.bulk n.items x hx
  unfold PNode.bulk;omega
 have h3:e.bulk≤x.bulk:=by
  rcases waa.1 he with he|he
  ·by_cases hz:x.states.length=0
   ·rw[if_pos hz]at he
    obtain rfl:=wga.1 he
    unfold PItem.bulk PEq.bulk;omega
   ·rw[if_neg hz]at he;cases he
  ·obtain⟨s,hs,he⟩:=wk.1 he
   have h4:s.bulk≤x.bulk:=by
    have:=qe1 PState.bulk x.states s hs
    unfold PItem.bulk;omega
   have h5:e.bulk≤s.bulk:=by
    rcases waa.1 he with he|he
    ·obtain⟨q,hq,rfl⟩:=w8.1 he
     have:=qe1 PEq.bulk s.eqs q hq
     have h6:q.e.bulk≤q.bulk:=by unfold PEq.bulk;omega
     unfold PState.bulk;omega
    ·obtain⟨w,hw,rfl⟩:=w8.1 he
     have:=qe1 PWay.bulk s.ways w hw
     have h6:w.cond.bulk≤w.bulk:=by unfold PWay.bulk;omega
     unfold PState.bulk;omega
   omega
 omega
theorem goodP_of {p:PProg} (h:qfr false p=0) (hr:p.Rng) (hb:p.bulk≤qac):GoodP p:=by
 obtain⟨h1,h2⟩:=qyw h
 unfold qn0 at h1
 simp only[wc,wg,wh,w7,qgi]at h1
 obtain⟨⟨_,ht⟩,hn⟩:=h1
 refine⟨fun t hx=> ?_,fun n hx=>goodN_of (by simpa using hn n hx) (hr.2 n hx) (fun e he=> ?_)⟩
 ·obtain⟨a,_,c⟩:=consB_nm (ht t hx).2
  exact⟨(ht t hx).1,qpu a,c⟩
 ·have hg:=h2 n hx
  unfold qna at hg
  simp only[wea,decide_eq_false_iff_not]at hg
  have h3:=accE_mem (0,0) n.exprs e he
  have h4:=nd_bulk e
  have h5:=expr_bulk hx he
  have h6:=depth_nd e (by omega)
  omega
def qvq:List Str:=[[45,62],[60,61],[60,62],[40],[41],[91],[93],[60],[61],[44],[59],[58],[124],[43],[45],[42],[47],[37]]
inductive WOk:Str→Prop where
 |name {s:Str}:qc2 s=true→WOk s
 |con {s:Str}:qgb s=true→WOk s
 |word {s:Str}:s∈wordL→WOk s
 |sign {s:Str}:s∈qvq→WOk s
 |int (n:Int):0≤n→n≤9223372036854775807→WOk (decB n)
def Oks (l:List Str):Prop:=∀w∈l,WOk w
theorem qzs:Oks []:=fun w h=>by cases h
theorem qc6 {w:Str} {l:List Str} (h:WOk w) (k:Oks l):Oks (w::l):=fun x hx=>by
 rcases wo.1 hx with rfl|hx
 ·exact h
 ·exact k x hx
theorem qa5 {a b:List Str} (h:Oks a) (k:Oks b):Oks (a++b):=fun x hx=>by
 rcases waa.1 hx with hx|hx
 ·exact h x hx
 ·exact k x hx
theorem qbf {w:Str} (h:WOk w):Oks [w]:=qc6 h qzs
theorem qzt {s:Str} (hs:WOk s) {L:List (List Str)} (h:∀x∈L,Oks x):Oks (sepW s L):=by
 cases L with
 |nil=>exact qzs
 |cons x r=>
  refine qa5 (h x (by simp)) (fun w hw=> ?_)
  obtain⟨y,hy,hw⟩:=wk.1 hw
  exact qc6 hs (h y (by simp[hy])) w hw
theorem qsn {s:Str} (hs:WOk s) {l:List Str} (h:∀x∈l,WOk x):Oks (qcq l s):=by
 refine qzt hs (fun x hx=> ?_)
 obtain⟨y,hy,rfl⟩:=w8.1 hx
 exact qbf (h y hy)
theorem oks_br {l:List Str} (h:∀x∈l,WOk x):Oks (brW l):=by
 unfold brW
 split
 ·exact qzs
 ·exact qa5 (qa5 (qbf (.sign (by decide))) (qsn (.sign (by decide)) h)) (qbf (.sign (by decide)))
theorem unL_ok {s:Str} (h:s∈unL):WOk s:=by
 simp only[unL,wo,wu,or_false]at h
 rcases h with rfl|rfl
 ·exact .word (by decide)
 ·exact .sign (by decide)
theorem binL_ok {s:Str} (h:s∈binL):WOk s:=by
 simp only[binL,wo,wu,or_false]at h
 rcases h with rfl|rfl|rfl|rfl|rfl|rfl|rfl|rfl|rfl|rfl|rfl<;>first|exact .sign (by decide)|exact .word (by decide)
theorem qvr {a b:List Str} {s:Str} (ha:Oks a) (hs:WOk s) (hb:Oks b):Oks (btwW a s b):=
 qa5 (qa5 (qa5 (qa5 (qbf (.sign (by decide))) ha) (qbf hs)) hb) (qbf (.sign (by decide)))
theorem q3t {e:PExpr} (g:Good e):e.Rng→Oks e.words:=by
 induction g with
 |int n h=>intro hr;rw[qax];exact qbf (.int n h hr.n.2)
 |bool n h=>intro hr;rw[qax];rcases h with rfl|rfl<;>exact qbf (.word (by decide))
 |con s h=>intro hr;rw[qax];exact qbf (.con h)
 |var s h=>intro hr;rw[qax];exact qbf (.name h)
 |un s k h g ih=>
  intro hr;rw[qax]
  exact qa5 (qa5 (qc6 (.sign (by decide)) (qbf (unL_ok h))) (ih (hr.kids k (by simp[eUn,PExpr.kids])))) (qbf (.sign (by decide)))
 |bin s a b h ga gb iha ihb=>
  intro hr;rw[qax]
  exact qvr (iha (hr.kids a (by simp[eBin,PExpr.kids]))) (binL_ok h) (ihb (hr.kids b (by simp[eBin,PExpr.kids])))
 |cond a b c ga gb gc iha ihb ihc=>
  intro hr;rw[qax]
  exact qa5 (qa5 (qa5 (qa5 (qa5 (qa5 (qc6 (.sign (by decide)) (qbf (.word (by decide)))) (iha (hr.kids a (by simp[eIf,PExpr.kids])))) (qbf (.word (by decide)))) (ihb (hr.kids b (by simp[eIf,PExpr.kids])))) (qbf (.word (by decide)))) (ihc (hr.kids c (by simp[eIf,PExpr.kids])))) (qbf (.sign (by decide)))
 |fby a b ga gb iha ihb=>
  intro hr;rw[qax]
  exact qvr (iha (hr.kids a (by simp[eFby,PExpr.kids]))) (.word (by decide)) (ihb (hr.kids b (by simp[eFby,PExpr.kids])))
 |pre k g ih=>
  intro hr;rw[qax]
  exact qa5 (qa5 (qc6 (.sign (by decide)) (qbf (.word (by decide)))) (ih (hr.kids k (by simp[ePre,PExpr.kids])))) (qbf (.sign (by decide)))
 |arrow a b ga gb iha ihb=>
  intro hr;rw[qax]
  exact qvr (iha (hr.kids a (by simp[qfk,PExpr.kids]))) (.sign (by decide)) (ihb (hr.kids b (by simp[qfk,PExpr.kids])))
 |when x c k hx hc g ih=>
  intro hr;rw[qax]
  exact qa5 (qa5 (qa5 (qa5 (qbf (.sign (by decide))) (ih (hr.kids k (by simp[qhi,PExpr.kids])))) (qbf (.word (by decide)))) (qsn (.sign (by decide)) (fun y hy=>by obtain rfl:=wga.1 hy;exact .con hc))) (qc6 (.sign (by decide)) (qc6 (.name hx) (qc6 (.sign (by decide)) (qbf (.sign (by decide))))))
 |arms op x cons kids hop hx hl h1 h2 hc hk ih=>
  intro hr;rw[qax]
  have key:Oks (sepW [124] (armL cons (kids.map PExpr.words))):=by
   refine qzt (.sign (by decide)) (fun z hz=> ?_)
   unfold armL at hz
   obtain⟨i,hi,rfl⟩:=List.getElem_of_mem hz
   simp only[List.getElem_zipWith,List.getElem_map]
   exact qa5 (qc6 (.con (hc _ (wm _))) (qbf (.sign (by decide)))) (ih _ (wm _) (hr.kids _ (wm _)))
  rcases hop with rfl|rfl
  ·exact qa5 (qa5 (qc6 (.word (by decide)) (qc6 (.name hx) (qbf (.sign (by decide))))) key) (qbf (.sign (by decide)))
  ·exact qa5 (qa5 (qc6 (.word (by decide)) (qc6 (.name hx) (qbf (.sign (by decide))))) key) (qbf (.sign (by decide)))
 |call x cons kids hx h2 hc h3 h4 hk ih=>
  intro hr;rw[qax]
  exact qa5 (qa5 (qa5 (qa5 (qbf (.name hx)) (oks_br (fun c h=> .name (hc c h)))) (qbf (.sign (by decide)))) (qzt (.sign (by decide)) (fun z hz=>by
   obtain⟨k,hk',rfl⟩:=w8.1 hz
   exact ih k hk' (hr.kids k hk')))) (qbf (.sign (by decide)))
 |every a b hop ga gb iha ihb=>
  intro hr;rw[qax]
  exact qvr (iha (hr.kids a (by simp[qfj,PExpr.kids]))) (.word (by decide)) (ihb (hr.kids b (by simp[qfj,PExpr.kids])))
theorem quc {l:List Str} (h:NmL l):Oks (qd1 l):=
 qa5 (qa5 (qbf (.sign (by decide))) (qsn (.sign (by decide)) (fun x hx=> .name (h.2 x hx)))) (qbf (.sign (by decide)))
theorem oks_eq {q:PEq} (h:qps q):Oks (eqW q):=by
 have hh:Oks (qij q.names):=by
  have hn:=h.n
  unfold qij
  split
  ·rename_i x hx;exact qbf (.name (hn.2 x (by rw[hx];simp)))
  ·exact quc hn
 exact qa5 (qa5 (qa5 hh (qbf (.sign (by decide)))) (q3t h.e.g h.e.r)) (qbf (.sign (by decide)))
theorem qmf {α:Type} {f:α→List Str} {l:List α} (h:∀x∈l,Oks (f x)):Oks (l.flatMap f):=fun w hw=>by
 obtain⟨x,hx,hw⟩:=wk.1 hw
 exact h x hx w hw
theorem oks_state {s:PState} (h:qvo s):Oks (qdd s):=
 qa5 (qa5 (qc6 (.word (by decide)) (qc6 (.con h.n) (qbf (.sign (by decide))))) (qmf fun q hq=>oks_eq (h.q q hq)))
  (qmf fun w hw=>qa5 (qa5 (qbf (.word (by decide))) (q3t (h.w w hw).e.g (h.w w hw).e.r)) (qc6 (.word (by decide)) (qc6 (.con (h.w w hw).t) (qbf (.sign (by decide))))))
theorem oks_item {x:PItem} (h:GoodI x):Oks (qet x):=by
 unfold qet
 split
 ·rename_i hz;exact oks_eq (h.q (we hz))
 ·exact qa5 (qa5 (qbf (.word (by decide))) (qmf fun s hs=>oks_state (h.s s hs))) (qc6 (.word (by decide)) (qbf (.sign (by decide))))
theorem oks_node {x:PNode} (h:qvp x):Oks (qf5 x):=
 qa5 (qa5 (qa5 (qa5 (qa5 (qa5 (qa5 (qc6 (.word (by decide)) (qbf (.name h.n))) (oks_br fun s hs=> .name (h.f s hs))) (quc h.i)) (qbf (.sign (by decide)))) (quc h.u)) (qbf (.word (by decide)))) (qmf fun y hy=>oks_item (h.t y hy))) (qbf (.word (by decide)))
theorem oks_enum {x:PEnum} (h:GoodT x):Oks (qge x):=
 qa5 (qa5 (qc6 (.word (by decide)) (qc6 (.name h.n) (qbf (.sign (by decide))))) (qsn (.sign (by decide)) fun c hc=> .con (h.c.2 c hc))) (qbf (.sign (by decide)))
theorem oks_prog {p:PProg} (h:GoodP p):Oks (qeg p):=qa5 (qmf fun x hx=>oks_enum (h.t x hx)) (qmf fun x hx=>oks_node (h.n x hx))
def noB (w:Str):Prop:=w≠[]∧∀c∈w,c≠32
theorem qzu {w:Str} (h:WOk w):noB w:=by
 cases h with
 |name h=>
  simp only[qc2,wc]at h
  obtain⟨c,r,rfl,_,_,hs⟩:=qgh h.1
  exact⟨by simp,qq2 _ hs⟩
 |con h=>
  obtain⟨c,r,rfl,_,_,hs⟩:=qgh h
  exact⟨by simp,qq2 _ hs⟩
 |word h=> 
  have:∀x∈wordL,x≠[]∧∀c∈x,c≠32:=by decide
  exact this _ h
 |sign h=>
  have:∀x∈qvq,x≠[]∧∀c∈x,c≠32:=by decide
  exact this _ h
 |int n h0 h1=>
  obtain⟨a,_,c⟩:=qsg h0 h1
  refine⟨c,fun x hx e=> ?_⟩
  subst e
  have:=w7.1 a 32 hx
  revert this;decide
theorem node_ne (p:PProg) (h:qfr false p=0):qeg p≠[]:=by
 obtain⟨h1,_⟩:=qyw h
 unfold qn0 at h1
 simp only[wc,wg,beq_eq_false_iff_ne,ne_eq]at h1
 obtain⟨⟨⟨⟨_,h1⟩,_⟩,_⟩,_⟩:=h1
 cases hn:p.nodes with
 |nil=>rw[hn]at h1;simp at h1
 |cons x l=>unfold qeg;rw[hn];simp[qf5]
end Go.Ab
namespace Go.Ab
open Go Go.Ab.Tab
def atP (text:Str) (k:Nat) (t:PTok):PTok:=⟨t.sort,t.text,t.n,(plc (text.take k)).1,(plc (text.take k)).2⟩
def endT:PTok:=⟨6,[],0,0,0⟩
def qcn (text:Str):Nat→Nat→Option (List PTok)×Nat
 |0,k=>(none,k)
 |f+1,k=>if k+gapS false (text.drop k)=text.length then(some [atP text (k+gapS false (text.drop k)) endT],0)
  else if(lexT (text.drop (k+gapS false (text.drop k)))).2=true then
   (match qcn text f (k+gapS false (text.drop k)+(lexT (text.drop (k+gapS false (text.drop k)))).1.text.length)with
   |(some l,p)=>(some (atP text (k+gapS false (text.drop k)) (lexT (text.drop (k+gapS false (text.drop k)))).1::l),p)
   |(none,p)=>(none,p))
  else(none,k+gapS false (text.drop k))
def strip (t:PTok):PTok:=⟨t.sort,t.text,t.n,0,0⟩
theorem q3u (text:Str) (k:Nat) (t:PTok) (h:t=strip t):strip (atP text k t)=t:=by
 rw[h];rfl
def Brk (p:Int→Bool) (r:Str):Prop:=r=[]∨∃c t,r=c::t∧p c.toNat=false
theorem qpv {p:Int→Bool}:∀{w r:Str},qbe p w=w.length→Brk p r→qbe p (w++r)=w.length
 |[],r,_,h=>by
  rcases h with rfl|⟨c,t,rfl,hc⟩
  ·rfl
  ·simp only[wv,qbe,hc];rfl
 |c::w,r,h,hb=>by
  simp only[qbe]at h
  split at h
  ·rename_i hc
   simp only[wj,qbe,hc,if_true,wb]at h ⊢
   rw[qpv (by omega) hb]
  ·simp at h
def Bl (r:Str):Prop:=r=[]∨∃t,r=32::t
theorem Bl.brk {r:Str} (h:Bl r) (p:Int→Bool) (hp:p 32=false):Brk p r:=by
 rcases h with rfl|⟨t,rfl⟩
 ·exact .inl rfl
 ·exact .inr ⟨32,t,rfl,hp⟩
theorem wordD_app {w r:Str} (h:qbe qbz w=w.length) (hb:Bl r):qen (w++r)=w:=by
 unfold qen
 rw[qpv h (hb.brk qbz rfl),wka]
theorem qoo {w r:Str} {c:UInt8} {t:Str} (hw:w=c::t) (hd:qcg c.toNat=false) (hl:(qe5 c.toNat||qei c.toNat)=true) (hs:qbe qbz w=w.length) (h24:w.length≤24) (hb:Bl r):
 lexT (w++r)=(⟨if wordL.any (w== ·)then 5 else if qei c.toNat then 2 else 1,w,0,0,0⟩,true):=by
 have e:=wordD_app hs hb
 subst hw
 rw[wj]at e ⊢
 simp only[lexT,hd,hl,if_true,qny,e,List.headD_cons]
 rw[decide_eq_true h24];rfl
theorem q05:∀w∈wordL,qmx w=5∧qbe qbz w=w.length∧w.length≤24∧w≠[]:=by decide
theorem sign_tok:∀w∈qvq,qmx w=4:=by decide
theorem sign_lex {w:Str} (h:w∈qvq) {r:Str} (hb:Bl r):lexT (w++r)=(⟨4,w,0,0,0⟩,true):=by
 simp only[qvq,wo,wu,or_false]at h
 rcases hb with rfl|⟨t,rfl⟩
 ·rcases h with rfl|rfl|rfl|rfl|rfl|rfl|rfl|rfl|rfl|rfl|rfl|rfl|rfl|rfl|rfl|rfl|rfl|rfl<;>rfl
 ·rcases h with rfl|rfl|rfl|rfl|rfl|rfl|rfl|rfl|rfl|rfl|rfl|rfl|rfl|rfl|rfl|rfl|rfl|rfl<;>rfl
theorem dig_span {w:Str} (h:qej w=true):qbe qcg w=w.length:=by
 induction w with
 |nil=>rfl
 |cons c t ih=>
  unfold qej at h
  rw[w6,wc]at h
  simp only[qbe,h.1,if_true,wb,ih h.2]
theorem dig_inner {w:Str} (h:qej w=true):qbe qbz w=w.length:=by
 induction w with
 |nil=>rfl
 |cons c t ih=>
  unfold qej at h
  rw[w6,wc]at h
  have:qbz c.toNat=true:=by unfold qbz;rw[h.1];simp
  simp only[qbe,this,if_true,wb,ih h.2]
theorem q06:∀(f n:Nat),n<10 ^ f→0<f→decN f n=[48]∨(0<n∧∃c t,decN f n=c::t∧c≠48)
 |0,n,_,h0=>by omega
 |f+1,n,h,_=>by
  rw[q0x]
  by_cases hn:n<10
  ·rw[if_pos hn]
   by_cases hz:n=0
   ·subst hz;exact .inl rfl
   ·refine .inr ⟨by omega,_,[],rfl,fun e=> ?_⟩
    have:=congrArg UInt8.toNat e
    rw[qp1 n hn]at this
    have h48:(48:UInt8).toNat=48:=rfl
    omega
  ·rw[if_neg hn]
   have h10:n/10<10 ^ f:=by
    rw[Nat.pow_succ]at h
    exact Nat.div_lt_of_lt_mul (by rw[Nat.mul_comm];exact h)
   have hf:0<f:=by
    cases f with
    |zero=>simp at h;omega
    |succ f=>omega
   rcases q06 f (n/10) h10 hf with h1|⟨_,c,t,h1,h2⟩
   ·exfalso
    have:=(q3k f (n/10) h10).2.1
    rw[h1]at this
    have h3:valN 0 [48]=0:=rfl
    omega
   ·exact .inr ⟨by omega,c,t++[UInt8.ofNat (48+n % 10)],by rw[h1];rfl,h2⟩
theorem int_lex {n:Int} (h0:0≤n) (h1:n≤9223372036854775807) {r:Str} (hb:Bl r):lexT (decB n++r)=(⟨3,decB n,n,0,0⟩,true):=by
 obtain⟨a,b,c⟩:=qsg h0 h1
 have hz:decB n=[48]∨(decB n).head? ≠some 48:=by
  unfold decB
  rw[if_neg (by omega)]
  have hp:(100000000000000000000:Nat)=10 ^ 20:=rfl
  rcases q06 20 n.toNat (by rw[←hp];omega) (by omega)with h|⟨_,c,t,h,h2⟩
  ·exact .inl h
  ·refine .inr ?_
   rw[h];simpa using h2
 generalize decB n=w at a b c hz
 have hnd:numD (w++r)=w:=by
  unfold numD
  rw[qpv (dig_span a) (hb.brk qcg rfl),wka]
 have hin:qbe qbz (w++r)=w.length:=qpv (dig_inner a) (hb.brk qbz rfl)
 have hle:valN 0 w≤maxI:=by unfold maxI;omega
 cases w with
 |nil=>exact absurd rfl c
 |cons d t=>
  have hd:qcg d.toNat=true:=by
   unfold qej at a
   rw[w6,wc]at a;exact a.1
  have hnz:notZ (d::t)=true:=by
   unfold notZ
   rcases hz with hz|hz
   ·rw[hz];rfl
   ·have:((d::t).head? ==some (48:UInt8))=false:=by simpa using hz
    rw[this];simp
  rw[wj]at hnd hin ⊢
  have e:lexT (d::(t++r))=(numT (d::(t++r)),qsh (d::(t++r))):=by simp only[lexT,hd];rfl
  rw[e]
  unfold numT qsh
  rw[hnd,hin,if_pos hle,decide_eq_true hle,hnz,b]
  simp
theorem wok_lex {w:Str} (h:WOk w) {r:Str} (hb:Bl r):lexT (w++r)=(tokW w,true):=by
 cases h with
 |name h=>
  have h':=h
  simp only[qc2,wc,wg]at h'
  obtain⟨c,t,hw,hc,h24,hs⟩:=qgh h'.1
  rw[qfm h]
  rw[←hw]at h24 hs
  rw[qoo hw (qpz _ hc) (by rw[hc];rfl) hs h24 hb,h'.2,qp0 _ hc];rfl
 |con h=>
  obtain⟨c,t,hw,hc,h24,hs⟩:=qgh h
  rw[qk2 h]
  rw[←hw]at h24 hs
  have hn:wordL.any (w== ·)=false:=by rw[hw];exact qt5 c t hc
  rw[qoo hw (qv5 _ hc) (by rw[hc];simp) hs h24 hb,hn,hc];rfl
 |word h=>
  obtain⟨h1,h2,h3,h4⟩:=q05 w h
  obtain⟨c,t,hw⟩:∃c t,w=c::t:=by
   cases w with
   |nil=>exact absurd rfl h4
   |cons c t=>exact⟨c,t,rfl⟩
  have hlow:qe5 c.toNat=true:=by have:=qt4 w h;rw[hw]at this;exact this
  have hany:=mem_any h
  rw[qoo hw (qpz _ hlow) (by rw[hlow];rfl) h2 h3 hb,hany]
  unfold tokW;rw[h1];rfl
 |sign h=>
  rw[sign_lex h hb]
  unfold tokW;rw[sign_tok w h];rfl
 |int n h0 h1=>rw[int_lex h0 h1 hb,qzo h0 h1]
theorem qso {w:Str} (h:WOk w) {r:Str} (hb:Bl r):gapS false (w++r)=0:=by
 have noblank:∀(c:UInt8) (t:Str),qfl c.toNat=false→¬(c=45∧t.head? =some 45)→gapS false (c::t)=0:=by
  intro c t h1 h2
  simp only[gapS,h1,if_neg h2];rfl
 have inner:∀c:UInt8,qbz c.toNat=true→qfl c.toNat=false∧c≠45:=by
  intro c hc
  have hr:qbz c.toNat=true→qfl c.toNat=false:=by
   intro h
   unfold qbz qe5 qei qcg at h
   unfold qfl
   simp only[Bool.or_eq_true,wc,decide_eq_true_eq,beq_iff_eq]at h
   simp only[wea,beq_eq_false_iff_ne,ne_eq]
   omega
  refine⟨hr hc,fun e=> ?_⟩
  subst e;revert hc;decide
 have wl:∀(c:UInt8) (t:Str),w=c::t→qbz c.toNat=true→gapS false (w++r)=0:=by
  intro c t hw hc
  obtain⟨h1,h2⟩:=inner c hc
  rw[hw,wj]
  exact noblank c _ h1 (fun h=>h2 h.1)
 cases h with
 |name h=>
  simp only[qc2,wc]at h
  obtain⟨c,t,hw,hc,_,_⟩:=qgh h.1
  exact wl c t hw (by unfold qbz;rw[hc];rfl)
 |con h=>
  obtain⟨c,t,hw,hc,_,_⟩:=qgh h
  exact wl c t hw (by unfold qbz;rw[hc];simp)
 |word h=>
  obtain⟨h1,h2,h3,h4⟩:=q05 w h
  obtain⟨c,t,hw⟩:∃c t,w=c::t:=by
   cases w with
   |nil=>exact absurd rfl h4
   |cons c t=>exact⟨c,t,rfl⟩
  have hlow:qe5 c.toNat=true:=by have:=qt4 w h;rw[hw]at this;exact this
  exact wl c t hw (by unfold qbz;rw[hlow];rfl)
 |sign h=>
  simp only[qvq,wo,wu,or_false]at h
  rcases hb with rfl|⟨t,rfl⟩
  ·rcases h with rfl|rfl|rfl|rfl|rfl|rfl|rfl|rfl|rfl|rfl|rfl|rfl|rfl|rfl|rfl|rfl|rfl|rfl<;>rfl
  ·rcases h with rfl|rfl|rfl|rfl|rfl|rfl|rfl|rfl|rfl|rfl|rfl|rfl|rfl|rfl|rfl|rfl|rfl|rfl<;>rfl
 |int n h0 h1=>
  obtain⟨a,_,c⟩:=qsg h0 h1
  obtain⟨d,t,hw⟩:∃d t,decB n=d::t:=by
   cases hh:decB n with
   |nil=>exact absurd hh c
   |cons d t=>exact⟨d,t,rfl⟩
  have hd:qcg d.toNat=true:=by
   rw[hw]at a;unfold qej at a
   rw[w6,wc]at a;exact a.1
  exact wl d t hw (by unfold qbz;rw[hd];simp)
theorem qyx (w:Str):tokW w=strip (tokW w):=rfl
theorem qyy:∀(ws:List Str) (pre:Str) (f:Nat),ws≠[]→Oks ws→ws.length<f→∃l e,qcn (pre++J ws) f pre.length=(some (l++[e]),0)∧l.map strip=toks ws∧strip e=endT
 |[],_,_,h,_,_=>absurd rfl h
 |[w],pre,f,_,ho,hf=>by
  have hw:=ho w (by simp)
  obtain⟨f,rfl⟩:∃g,f=g+2:=⟨f-2,by simp at hf;omega⟩
  have hd:(pre++J [w]).drop pre.length=w:=by rw[ww];rfl
  have hne:w≠[]:=(qzu hw).1
  have hg:gapS false w=0:=by have:=qso hw (r:=[]) (.inl rfl);rwa [wba]at this
  have hx:lexT w=(tokW w,true):=by have:=wok_lex hw (r:=[]) (.inl rfl);rwa [wba]at this
  have hlen:(pre++J [w]).length=pre.length+w.length:=by rw[wa];rfl
  have hend:(pre++J [w]).drop (pre.length+w.length)=[]:=List.drop_eq_nil_of_le (by rw[hlen];exact Nat.le_refl _)
  have hwl:w.length≠0:=fun e=>hne (we e)
  refine⟨[atP (pre++J [w]) pre.length (tokW w)],atP (pre++J [w]) (pre.length+w.length) endT,?_,?_,rfl⟩
  ·have h2:qcn (pre++J [w]) (f+1) (pre.length+w.length)=(some [atP (pre++J [w]) (pre.length+w.length) endT],0):=by
    rw[qcn,hend]
    have:gapS false ([]:Str)=0:=rfl
    rw[this,w9,if_pos hlen.symm]
   rw[qcn,hd,hg,w9,if_neg (by rw[hlen];omega),hd,hx]
   simp only[if_true]
   have ht:(tokW w).text=w:=rfl
   rw[ht,h2];rfl
  ·simp only[wz,wma,q3u _ _ _ (qyx w)];rfl
 |w::v::r,pre,f,_,ho,hf=>by
  have hw:=ho w (by simp)
  obtain⟨f,rfl⟩:∃g,f=g+1:=⟨f-1,by simp at hf;omega⟩
  have hJ:J (w::v::r)=w++32::J (v::r):=qyl w _ (by simp)
  have hd:(pre++J (w::v::r)).drop pre.length=w++32::J (v::r):=by rw[ww,hJ]
  have hne:w≠[]:=(qzu hw).1
  have hg:=qso hw (r:=32::J (v::r)) (.inr ⟨_,rfl⟩)
  have hx:=wok_lex hw (r:=32::J (v::r)) (.inr ⟨_,rfl⟩)
  have hlen:(pre++J (w::v::r)).length=pre.length+(w.length+((J (v::r)).length+1)):=by rw[wa,hJ,wa,wb]
  obtain⟨l,e,h1,h2,h3⟩:=qyy (v::r) (pre++w++[32]) f (by simp) (fun z hz=>ho z (by simp[hz])) (by simp at hf ⊢;omega)
  have hpre:pre++w++[32]++J (v::r)=pre++J (w::v::r):=by rw[hJ];simp
  rw[hpre]at h1
  have hv:=ho v (by simp)
  have hgv:gapS false (J (v::r))=0:=by
   cases r with
   |nil=>have:=qso hv (r:=[]) (.inl rfl);rwa [wba]at this
   |cons y r=>rw[qyl v _ (by simp)];exact qso hv (.inr ⟨_,rfl⟩)
  have hd2:(pre++J (w::v::r)).drop (pre.length+w.length)=32::J (v::r):=by
   rw[←wla,ww,hJ,ww]
  have hd3:(pre++J (w::v::r)).drop (pre.length+w.length+1)=J (v::r):=by
   rw[←wla,hd2];rfl
  have hsame:qcn (pre++J (w::v::r)) f (pre.length+w.length)=qcn (pre++J (w::v::r)) f (pre++w++[32]).length:=by
   have hl2:(pre++w++[32]).length=pre.length+w.length+1:=by simp;omega
   rw[hl2]
   cases f with
   |zero=>simp at hf
   |succ f=>
    have hg1:gapS false ((pre++J (w::v::r)).drop (pre.length+w.length))=1:=by
     rw[hd2]
     show(if qfl ((32:UInt8).toNat:Nat)=true then 1+gapS false (J (v::r))else _)=1
     rw[if_pos (by decide),hgv]
    have hg2:gapS false ((pre++J (w::v::r)).drop (pre.length+w.length+1))=0:=by rw[hd3,hgv]
    rw[qcn,qcn,hg1,hg2,w9]
  have hwl:w.length≠0:=fun e=>hne (we e)
  refine⟨atP (pre++J (w::v::r)) pre.length (tokW w)::l,e,?_,?_,h3⟩
  ·rw[qcn,hd,hg,w9,if_neg (by rw[hlen];omega),hd,hx]
   simp only[if_true]
   have ht:(tokW w).text=w:=rfl
   rw[ht,hsame,h1];rfl
  ·simp only[wz,q3u _ _ _ (qyx w),h2];rfl
end Go.Ab
