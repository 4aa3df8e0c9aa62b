/- Two texts, one behind the other: the law. -/
import Derived.Test.YtngklkmeknmloaaGreatDoorAbSameD
import Derived.Test.YtngklkmeknmloaaGreatDoorAbOkB
import Derived.Test.YtngklkmeknmloaaGreatDoorAbTxt
import Derived.Test.YtngklkmeknmloaaGreatDoorAbSameR
import Derived.Test.YtngklkmeknmloaaGreatDoorAbPsQv
import Derived.Test.YtngklkmeknmloaaGreatDoorAbPrs
import Derived.Test.YtngklkmeknmloaaGreatDoorAbFu
import Derived.Test.YtngklkmeknmloaaGreatDoorAbFu2
import Derived.Test.YtngklkmeknmloaaGreatDoorAbLoc
set_option linter.unusedSimpArgs false
set_option linter.unusedVariables false
set_option maxRecDepth 100000
set_option maxHeartbeats 4000000
open Go.Proofs
open List renaming length_nil→wa,length_map→wb,mem_append→wf,length_append→wg,length_cons→wh,nil_append→wi,mem_map→wj
open Nat renaming le_refl→wc
open Bool renaming not_eq_true'→wd,and_eq_true→we
namespace Go.Ab
theorem qiy {α:Type} (p:α→α→Bool) (h:∀a b,p a b=true↔a=b):∀l m,qdd p l m=true↔l=m
 |[],[]=>by simp[qdd]
 |[],_::_=>by simp[qdd]
 |_::_,[]=>by simp[qdd]
 |a::r,b::t=>by simp[qdd,h a b,qiy p h r t]
theorem PEq.same_iff (a b:PEq):a.same b=true↔a=b:=by
 cases a;cases b;simp[PEq.same,Go.Ab.same_iff]
theorem PWay.same_iff (a b:PWay):a.same b=true↔a=b:=by
 cases a;cases b;simp[PWay.same,Go.Ab.same_iff,and_comm]
theorem PState.same_iff (a b:PState):a.same b=true↔a=b:=by
 cases a;cases b;simp[PState.same,qiy _ PEq.same_iff,qiy _ PWay.same_iff,and_assoc]
theorem PItem.same_iff (a b:PItem):a.same b=true↔a=b:=by
 cases a;cases b;simp[PItem.same,PEq.same_iff,qiy _ PState.same_iff]
theorem PNode.same_iff (a b:PNode):a.same b=true↔a=b:=by
 cases a;cases b;simp[PNode.same,qiy _ PItem.same_iff,and_assoc]
theorem PEnum.same_iff (a b:PEnum):a.same b=true↔a=b:=by
 cases a;cases b;simp[PEnum.same]
theorem PProg.same_iff (a b:PProg):a.same b=true↔a=b:=by
 cases a;cases b;simp[PProg.same,qiy _ PEnum.same_iff,qiy _ PNode.same_iff]
end Go.Ab
namespace Go.Ab
open Go Go.Ab.Tab
end Go.Ab
namespace Go.Ab
open Go Go.Ab.Tab
theorem qwb (N:Nat) (hN:131076≤N) (text:Str) (hl:text.length≤qac):(∃a b c,a≠0∧Ret D 16 [.str text] (.tuple [.agg qjs,.agg (fC a b c)]))∨
 ∃p:PProg,p.Rng∧p.bulk≤1114130∧qgb false p=0∧text.length≤65536∧(∃l k,qci text (text.length+1) 0=(some l,k)∧∃ts',qcw (pE N) N N l= .ok p ts')∧Ret D 16 [.str text] (.tuple [.agg p.cells,.agg qf0]):=by
 by_cases hb:65536<text.length∨(qci text (text.length+1) 0).1=none
 ·obtain⟨a,b,c,ha,hv⟩:=scanV_bad text hb
  exact .inl ⟨a,b,c,ha,qx2 text ha (q5m text hl ha hv)⟩
 have hT:text.length≤65536:=by omega
 cases hs:qci text (text.length+1) 0 with
 |mk x k=>
  cases x with
  |none=>exact absurd (.inr (by rw[hs])) hb
  |some l=>
   obtain⟨h1,h2,h3⟩:=scan_ok hT hs
   have hle:=h1.le
   rcases qx3 l h2 (N:=N) (by omega)with⟨p,r,hp,hpb,hpr⟩|⟨e,r,hp,he⟩
   ·have sm:p.Small:=PProg.small_of_bulk p 1114130 (by omega) (by decide)
    by_cases hr:qgb false p=0
    ·exact .inr ⟨p,hpr,by omega,hr,hT,⟨l,k,rfl,r,hp⟩,qtk text hT hs h1 hp hr sm hpr⟩
    ·exact .inl ⟨_,0,0,hr,q2j text hT hs h1 hp hr sm hpr⟩
   ·obtain⟨b,c,hf⟩:=faultC_eq e r
    have g:=progE_p h1 hp
    rw[faultL_eq,hf]at g
    exact .inl ⟨e,b,c,he,qx2 text he (readP_p (ts':=l) text hT he hs g)⟩
end Go.Ab
namespace Go.Ab
open Go Go.Ab.Tab
def qfs (p q:PProg):PProg:=⟨p.enums++q.enums,p.nodes++q.nodes⟩
theorem sumOf_app {X:Type} (f:X→Nat) (a b:List X):qbq f (a++b)=qbq f a+qbq f b:=by
 induction a with
 |nil=>simp[qbq]
 |cons x r ih=>simp only[List.cons_append,qbq,ih];omega
theorem q5o (p q:PProg):(qfs p q).bulk+2=p.bulk+q.bulk:=by simp only[qfs,PProg.bulk,sumOf_app];omega
theorem joinP_rng {p q:PProg} (hp:p.Rng) (hq:q.Rng):(qfs p q).Rng:=
 ⟨fun y hy=>(wf.1 hy).elim (hp.1 y) (hq.1 y),fun y hy=>(wf.1 hy).elim (hp.2 y) (hq.2 y)⟩
theorem q3v {p q:PProg} (hp:qgb false p=0) (hq:qgb false q=0) (he:p.enums.length+q.enums.length≤8) (hn:p.nodes.length+q.nodes.length≤16):qgb false (qfs p q)=0:=by
 obtain⟨p1,p2⟩:=qm8 hp
 obtain⟨q1,q2⟩:=qm8 hq
 unfold qma at p1 q1
 simp only[we,wd,decide_eq_false_iff_not,beq_eq_false_iff_ne]at p1 q1
 have e8:qlh false=8:=rfl
 have hb:qma false (qfs p q)=true:=by
  unfold qma qfs
  simp only[we,wd,decide_eq_false_iff_not,beq_eq_false_iff_ne,wg,e8,List.all_append,List.any_append,Bool.or_eq_false_iff]
  exact⟨⟨⟨⟨by omega,by have:=p1.1.1.1.2;omega⟩,by omega⟩,p1.1.2,q1.1.2⟩,p1.2,q1.2⟩
 have hg:((qfs p q).nodes.any qmi)=false:=by
  refine List.any_eq_false.2 (fun n hn=> ?_)
  rcases wf.1 hn with h|h
  ·rw[p2 n h];simp
  ·rw[q2 n h];simp
 unfold qgb
 rw[if_pos hb,hg];rfl
theorem joinT_ok {a b:Str} {p q:PProg} {N:Nat} (hN:131076≤N) {la lb ra rb:List PTok} {ka kb:Nat} (sa:qci a (a.length+1) 0=(some la,ka)) (sb:qci b (b.length+1) 0=(some lb,kb))
 (pa:qcw (pE N) N N la= .ok p ra) (pb:qcw (pE N) N N lb= .ok q rb) (hT:(a++10::b).length≤65536) (hr:qgb false (qfs p q)=0) (sm:(qfs p q).Small) (rg:(qfs p q).Rng):
 Ret D 16 [.str (a++10::b)] (.tuple [.agg (qfs p q).cells,.agg qf0]):=by
 obtain⟨l0,l,k,h1,h2,h3,h4⟩:=join_scan sa sb
 obtain⟨t1,t2,t3⟩:=scan_ok hT h3
 have hle:=t1.le
 have va:=qqb (pE_v N) N N la
 rw[pa]at va
 have vb:=qqb (pE_v N) N N lb
 rw[pb]at vb
 rw[h1]at va
 have j:=qrp (pE_l N) N vb.symm N l0 endT p (ra.map strip) h2 rfl va.symm
 rw[←h4]at j
 obtain⟨r,hj,-⟩:=(qqb (pE_v N) N (N+N)).back j
 have hjn:qcw (pE N) N N l= .ok (qfs p q) r:=by
  have hm:=qm9 (R:=pE N) N N N l (by
   rcases qx3 l t2 (N:=N) (by omega)with⟨x,y,h,_⟩|⟨x,y,h,_⟩<;>(rw[h];simp))
  rw[←hm];exact hj
 exact qtk _ hT h3 t1 hjn hr sm rg
theorem qo4 {P:Program} {t e sz:Nat} (ok:qfg P t e sz) {h:qab} {v:AVal} {es fs:List (List AVal)} (g:Grow2 h v es e) (hl:es.length+fs.length≤qac) (h1:∀c∈es,c.length=sz) (h2:∀c∈fs,c.length=sz):
 ∃tk f,qb1 P h t v (.slice fs .free)=some (.slice (es++fs) tk,f)∧Grow2 (f.of h) (.slice (es++fs) tk) (es++fs) e∧Boxes h (f.of h)∧h.length≤(f.of h).length:=by
 by_cases hne:fs=[]
 ·subst hne
  obtain⟨tk,rfl⟩:=g.val
  exact⟨tk,.same,by rw[qdr h ok (by simpa using hl) (qbt h1)];simp,by simpa[Eff.of]using g,.refl _,wc _⟩
 rcases g with rfl|⟨p,rfl,hp⟩
 ·refine⟨_,_,qcj h ok hl (qbt h1) (qbt h2) hne,.inr ⟨_,rfl,?_⟩,Boxes.app _ _,by simp[Eff.of]⟩
  simp[Eff.of]
 ·refine⟨_,_,qcx h ok hl (qbt h1) (qbt h2) hne hp rfl,.inr ⟨_,rfl,?_⟩,?_,by simp[Eff.of]⟩
  ·simp only[Eff.of]
   rw[List.getElem?_set_self (List.getElem?_eq_some_iff.1 hp).1]
   simp
  ·intro k cs hk
   simp only[Eff.of]
   by_cases hkp:p=k
   ·subst hkp;rw[hp]at hk;cases hk
   ·rw[List.getElem?_set_ne hkp];exact hk
theorem pjoin_c (a b:Str) (hl:a.length+b.length≤1048576):D 7 [.str a,.str b] []=some (.ret (.bool true) .same):=by
 have m2:qac=1099511627776:=rfl
 have cat:∀(x y z:Str),x++y=z→x.length+y.length≤100000000→∀t n,binA PP cmp0 .add t n (.str x) (.str y)=some (.str z):=fun x y z e h t n=>e▸bin_cat PP cmp0 t n x y (by unfold qni;omega)
 have k1:=cat a [10] (a++[10]) rfl (by simp only[wh,wa];omega)
 obtain⟨T,hT⟩:∃T,T=a++10::b:=⟨_,rfl⟩
 have hTl:T.length=a.length+(b.length+1):=by rw[hT];simp
 have k2:=cat (a++[10]) b T (by rw[hT];simp) (by simp only[wg,wh,wa];omega)
 have sp:∀(p:PProg) (x0 x1:AVal),qar [x0,x1] 0 p.cells=some p.cells:=fun p _ _=>qb7 (by rw[p.len];rfl)
 rcases qwb 131076 (wc _) a (by omega)with⟨x,y,z,hx,ga⟩|⟨p,rp,bp,zp,hTa,⟨la,ka,sa,ra,pa⟩,ga⟩
 ·have n0:(x !=0)=true:=by simpa using hx
  unfold fC qjs at ga
  rcases qwb 131076 (wc _) b (by omega)with⟨x',y',z',hx',gb⟩|⟨q,-,-,-,-,-,gb⟩
  ·unfold fC qjs at gb
   rw[D_fn rfl Tryz.func7 rfl (by kernel_rfl) (m:=86) rfl];simp only[Z3,simprocAttr,Tryz.f7,fx_7,effs,qix _,ga _,gb _,k1,k2,n0]
  ·unfold qf0 at gb
   rw[D_fn rfl Tryz.func7 rfl (by kernel_rfl) (m:=86) rfl];simp only[Z3,simprocAttr,Tryz.f7,fx_7,effs,qix _,ga _,gb _,sp _,q.ones,q.len,q.take,q.strip,k1,k2,n0]
 unfold qf0 at ga
 rcases qwb 131076 (wc _) b (by omega)with⟨x',y',z',hx',gb⟩|⟨q,rq,bq,zq,hTb,⟨lb,kb,sb,rb,pb⟩,gb⟩
 ·have n0:(x' !=0)=true:=by simpa using hx'
  unfold fC qjs at gb
  rw[D_fn rfl Tryz.func7 rfl (by kernel_rfl) (m:=86) rfl];simp only[Z3,simprocAttr,Tryz.f7,fx_7,effs,qix _,ga _,gb _,sp _,p.ones,p.len,p.take,p.strip,k1,k2,n0]
 unfold qf0 at gb
 have hln:T.length≤qac:=by omega
 by_cases hbig:65536<T.length
 ·have hd:decide ((65536:Int)<(T.length:Int))=true:=decide_eq_true (by omega)
  rw[D_fn rfl Tryz.func7 rfl (by kernel_rfl) (m:=86) rfl];simp only[Z3,simprocAttr,Tryz.f7,fx_7,effs,qix _,ga _,gb _,sp _,p.ones,p.len,p.take,p.strip,q.ones,q.len,q.take,q.strip,k1,k2,hln,hd]
 have hd:decide ((65536:Int)<(T.length:Int))=false:=decide_eq_false (by omega)
 have smp:p.Small:=PProg.small_of_bulk p 1114130 bp (by decide)
 have smq:q.Small:=PProg.small_of_bulk q 1114130 bq (by decide)
 obtain⟨p1,-⟩:=qm8 zp
 obtain⟨q1,-⟩:=qm8 zq
 unfold qma at p1 q1
 simp only[we,wd,decide_eq_false_iff_not]at p1 q1
 have e8:qlh false=8:=rfl
 have w1:qc1 .i64 ((p.enums.length:Int)+(q.enums.length:Int))=((p.enums.length+q.enums.length:Nat):Int):=by
  have:=p1.1.1.1.1;have:=q1.1.1.1.1
  unfold qc1;simp only
  rw[if_pos (by simp;omega)];omega
 have w2:qc1 .i64 ((p.nodes.length:Int)+(q.nodes.length:Int))=((p.nodes.length+q.nodes.length:Nat):Int):=by
  have:=p1.1.1.2;have:=q1.1.1.2
  unfold qc1;simp only
  rw[if_pos (by simp;omega)];omega
 by_cases he:p.enums.length+q.enums.length≤8
 rotate_left
 ·have d1:decide ((8:Int)<((p.enums.length+q.enums.length:Nat):Int))=true:=decide_eq_true (by omega)
  rw[D_fn rfl Tryz.func7 rfl (by kernel_rfl) (m:=86) rfl];simp only[Z3,simprocAttr,Tryz.f7,fx_7,effs,qix _,ga _,gb _,sp _,p.ones,p.len,p.take,p.strip,q.ones,q.len,q.take,q.strip,k1,k2,hln,hd,w1,w2,p.get_enums,p.get_nodes,q.get_enums,q.get_nodes,d1]
 have d1:decide ((8:Int)<((p.enums.length+q.enums.length:Nat):Int))=false:=decide_eq_false (by omega)
 by_cases hn:p.nodes.length+q.nodes.length≤16
 rotate_left
 ·have d2:decide ((16:Int)<((p.nodes.length+q.nodes.length:Nat):Int))=true:=decide_eq_true (by omega)
  rw[D_fn rfl Tryz.func7 rfl (by kernel_rfl) (m:=86) rfl];simp only[Z3,simprocAttr,Tryz.f7,fx_7,effs,qix _,ga _,gb _,sp _,p.ones,p.len,p.take,p.strip,q.ones,q.len,q.take,q.strip,k1,k2,hln,hd,w1,w2,p.get_enums,p.get_nodes,q.get_enums,q.get_nodes,d1,d2]
 have d2:decide ((16:Int)<((p.nodes.length+q.nodes.length:Nat):Int))=false:=decide_eq_false (by omega)
 have hr:=q3v zp zq he hn
 have rg:=joinP_rng rp rq
 have jb:=q5o p q
 have smj:(qfs p q).Small:=PProg.small_of_bulk (qfs p q) 3000000 (by omega) (by decide)
 have gj:=joinT_ok (wc _) sa sb pa pb (by rw[←hT];omega) hr smj rg
 rw[←hT]at gj
 have c2:=(rsame_c (qfs p q) (qfs p q) smj smj).up
 rw[(PProg.same_iff (qfs p q) (qfs p q)).2 rfl]at c2
 unfold qf0 at gj
 rw[D_fn rfl Tryz.func7 rfl (by kernel_rfl) (m:=86) rfl];simp only[Z3,simprocAttr,Tryz.f7,fx_7,effs,qix _,ga _,gb _,sp _,p.ones,p.len,p.take,p.strip,q.ones,q.len,q.take,q.strip,k1,k2,hln,hd,w1,w2,p.get_enums,p.get_nodes,q.get_enums,q.get_nodes,d1,d2]
 have pe2:∀(l:List PEnum),∀c∈l.map PEnum.cells,c.length=2:=fun l c hc=>by obtain⟨x,_,rfl⟩:=wj.1 hc;exact x.len
 have pn5:∀(l:List PNode),∀c∈l.map PNode.cells,c.length=5:=fun l c hc=>by obtain⟨x,_,rfl⟩:=wj.1 hc;exact x.len
 obtain⟨H0,hH0⟩:∃H:qab,H=[Blk.box p.cells,Blk.box [AVal.int .i64 0,.int .i64 0,.int .i64 0],Blk.box q.cells,Blk.box [AVal.int .i64 0,.int .i64 0,.int .i64 0]]:=⟨_,rfl⟩
 rw[←hH0]
 have z0:H0[0]? =some (.box p.cells):=by rw[hH0];rfl
 have z2:H0[2]? =some (.box q.cells):=by rw[hH0];rfl
 have l0:4≤H0.length:=by rw[hH0];simp
 obtain⟨t1,E1,x1,g1,B1,l1⟩:=qo4 qkq (h:=H0) (v:= .slice [] .full) (es:=[]) (fs:=p.enums.map PEnum.cells) (.inl rfl) (by simp only[wa,wb];omega) (fun c hc=>by cases hc) (pe2 _)
 obtain⟨H1,hH1⟩:∃H,E1.of H0=H:=⟨_,rfl⟩
 rw[hH1]at g1 B1 l1
 rw[wi]at x1 g1
 obtain⟨t2,E2,x2,g2,B2,l2⟩:=qo4 qkq (h:=H1) g1 (fs:=q.enums.map PEnum.cells) (by simp only[wb];omega) (pe2 _) (pe2 _)
 obtain⟨H2,hH2⟩:∃H,E2.of H1=H:=⟨_,rfl⟩
 rw[hH2]at g2 B2 l2
 obtain⟨t3,E3,x3,g3,B3,l3⟩:=qo4 qkr (h:=H2) (v:= .slice [] .full) (es:=[]) (fs:=p.nodes.map PNode.cells) (.inl rfl) (by simp only[wa,wb];omega) (fun c hc=>by cases hc) (pn5 _)
 obtain⟨H3,hH3⟩:∃H,E3.of H2=H:=⟨_,rfl⟩
 rw[hH3]at g3 B3 l3
 rw[wi]at x3 g3
 obtain⟨t4,E4,x4,g4,B4,l4⟩:=qo4 qkr (h:=H3) g3 (fs:=q.nodes.map PNode.cells) (by simp only[wb];omega) (pn5 _) (pn5 _)
 obtain⟨H4,hH4⟩:∃H,E4.of H3=H:=⟨_,rfl⟩
 rw[hH4]at g4 B4 l4
 have y1:=B1 2 _ z2
 have y2:=B2 0 _ (B1 0 _ z0)
 have y3:=B3 2 _ (B2 2 _ y1)
 have m1:4≤H1.length:=by omega
 have m3:4≤H3.length:=by omega
 have m4:4≤H4.length:=by omega
 have m5:4≤H2.length:=by omega
 simp only[Z3,simprocAttr,effs,fx_7,x1,hH1,x2,hH2,x3,hH3,x4,hH4,y1,y2,y3,l0,m1,m3,m4,m5,p.get_nodes,q.get_enums,q.get_nodes]
 obtain⟨H5,hH5⟩:∃H:qab,H=H4++[Blk.box [AVal.slice (p.enums.map PEnum.cells++q.enums.map PEnum.cells) t2,.slice (p.nodes.map PNode.cells++q.nodes.map PNode.cells) t4]]:=⟨_,rfl⟩
 rw[←hH5]
 have y5:H5[H4.length]? =some (.box [AVal.slice (p.enums.map PEnum.cells++q.enums.map PEnum.cells) t2,.slice (p.nodes.map PNode.cells++q.nodes.map PNode.cells) t4]):=by rw[hH5];simp
 have l5:H4.length<H5.length:=by rw[hH5];simp
 have jc:(qfs p q).cells=[AVal.slice (p.enums.map PEnum.cells++q.enums.map PEnum.cells) .free,.slice (p.nodes.map PNode.cells++q.nodes.map PNode.cells) .free]:=by
  unfold qfs PProg.cells;simp only[List.map_append];rfl
 rw[jc]at gj c2
 generalize hdd:H4.length::(E4.dirt++(E3.dirt++(E2.dirt++(E1.dirt++[3,2,1,0]))))=dd
 clear hdd
 simp only[Z3,simprocAttr,effs,fx_7,gj _]
 have y6:∀x y:Blk,(H5++[x,y])[H4.length]? =some (.box [AVal.slice (p.enums.map PEnum.cells++q.enums.map PEnum.cells) t2,.slice (p.nodes.map PNode.cells++q.nodes.map PNode.cells) t4]):=fun x y=>by rw[List.getElem?_append_left l5];exact y5
 have y7:∀x y:Blk,(H5++[x,y])[H5.length]? =some x:=fun x y=>by simp
 have y8:∀x y:Blk,(H5++[x,y])[H5.length+1]? =some y:=fun x y=>by simp
 simp only[Z3,simprocAttr,effs,fx_7,gj _,q2l,y6,y7,y8,c2 _]
end Go.Ab
