/- The parser: merge and match. -/
import Derived.Test.YtngklkmeknmloaaGreatDoorAbPsD
set_option linter.unusedSimpArgs false
set_option linter.unusedVariables false
set_option maxRecDepth 100000
set_option maxHeartbeats 4000000
open Go.Proofs
open List renaming getElem?_eq_some_iff→wa,getElem?_set_ne→wb,getElem?_set_self→wc,length_cons→wd,take_succ_eq_append_getElem→we,length_nil→wf,getElem?_eq_none→wg,length_tail→wh,not_mem_nil→wi,length_map→wj,map_append→wk,mem_cons→wm,mem_map→wo,map_map→wq
namespace Go.Ab
open Go Go.Ab.Tab
theorem Grow2.box {h:qab} {v:AVal} {es:List (List AVal)} {T:TypeId} (g:Grow2 h v es T) (l:qab):Grow2 (h++l) v es T:=by
 rcases g with g|⟨t,hv,ht⟩
 ·exact .inl g
 ·exact .inr ⟨t,hv,by rw[List.getElem?_append_left (wa.1 ht).1];exact ht⟩
theorem qm6 {P:Program} {t e sz:Nat} (ok:qf4 P t e sz) {h:qab} {v:AVal} {es fs:List (List AVal)} (g:Grow2 h v es e) (hl:es.length+fs.length≤qac) (h1:∀c∈es,c.length=sz) (h2:∀c∈fs,c.length=sz) (hne:¬fs=[]):
 ∃v' f,qdw P h t v (.slice fs .full)=some (v',f)∧Grow2 (f.of h) v' (es++fs) e∧Boxes h (f.of h)∧∀v2 es2 T2,T2≠e→Grow2 h v2 es2 T2→Grow2 (f.of h) v2 es2 T2:=by
 rcases g with rfl|⟨p,rfl,hp⟩
 ·refine⟨_,_,qcp h ok hl (qcv h1) (qcv h2) hne,.inr ⟨_,rfl,?_⟩,Boxes.app _ _,fun v2 es2 T2 _ g2=>g2.box _⟩
  simp[Eff.of]
 ·refine⟨_,_,qc7 h ok hl (qcv h1) (qcv h2) hne hp rfl,.inr ⟨_,rfl,?_⟩,?_,?_⟩
  ·simp only[Eff.of]
   rw[wc (wa.1 hp).1]
   simp
  ·intro k cs hk
   simp only[Eff.of]
   by_cases hkp:p=k
   ·subst hkp;rw[hp]at hk;cases hk
   ·rw[wb hkp];exact hk
  ·intro v2 es2 T2 hT g2
   rcases g2 with g2|⟨q,hq,hq2⟩
   ·exact .inl g2
   ·refine .inr ⟨q,hq,?_⟩
    simp only[Eff.of]
    by_cases hpq:p=q
    ·subst hpq;rw[hp]at hq2;injection hq2 with hq2;injection hq2 with _ hq2;exact(hT hq2.symm).elim
    ·rw[wb hpq];exact hq2
theorem qyn {h:qab} {f g0:FuncId} {s:Str} {v:AVal} {x y:List AVal} (h0:h[0]? =some (.box x)) (h1:h[1]? =some (.box [.ptr 0 0])) (px:qad x=[]) (py:qad y=[])
 (g:qbj C f [.ptr 0 0,.str s,.func g0 [] [.ptr 1 0]] [.box x,.box [.ptr 0 0]] v [.box y,.box [.ptr 0 0]]) (hv:refs v=[]):qon C h f [.ptr 0 0,.str s,.func g0 [] [.ptr 1 0]] v (h.set 0 (.box y)):=by
 have l0:=(wa.1 h0).1
 have l1:=(wa.1 h1).1
 have ha:qad [.ptr 0 0,.str s,.func g0 [] [.ptr 1 0]]=[0,1]:=rfl
 refine qj5 qao [0,1] (by rw[ha];simp[qc0,qad,refs,h0,h1,px]) (by simp) (by unfold qdo;rw[ha];simp[qad,refs,h0,h1,qdx,px]) (?_:qbj C f _ (subH h [0,1]) v [.box y,.box [.ptr 0 0]]) hv ?_
 ·have e1:subH h [0,1]=[.box x,.box [.ptr 0 0]]:=by
   simp[subH,List.getD_eq_getElem?_getD,h0,h1,renB,qbw px,renL,ren]
  have e2:renL (fun x=>[0,1].idxOf x) [.ptr 0 0,.str s,.func g0 [] [.ptr 1 0]]=[.ptr 0 0,.str s,.func g0 [] [.ptr 1 0]]:=rfl
  rw[e1,e2];exact g
 ·intro H' k
  apply List.ext_getElem?
  intro i
  match i with
  |0=>rw[k.inn 0 0 rfl,wc l0];simp[renB,qbw py]
  |1=>rw[k.inn 1 1 rfl,wb (by decide),h1];simp[renB,renL,ren,qft]
  |i+2=>
   rw[wb (by omega)]
   by_cases hi:i+2<h.length
   ·exact k.out (i+2) hi (by simp)
   ·have e3:([Blk.box y,Blk.box [.ptr 0 0]]:List Blk)[[0,1].length+(i+2-h.length)]? =none:=wg (by simp)
    have e4:h[i+2]? =none:=wg (by omega)
    rw[k.new (i+2) (by omega),e3,e4]
    rfl
theorem qt0 {R:Rd} (hLen:LenR R) {o:Nat}:∀(n:Nat) (ts ts':List PTok) (l:List (Str×PExpr)),qdu R o n ts= .ok l ts'→l.length+ts'.length≤ts.length
 |0,_,_,_,h=>by cases h
 |n+1,ts,ts',l,h=>by
  simp only[qdu]at h
  obtain⟨t0,r0,rfl,hs0,h1⟩:=qb8 h
  obtain⟨hw0,h2⟩:=qa8 h1
  obtain⟨e,r,he,h3⟩:=PR.bind_ok h2
  have h9:=hLen _ _ _ _ _ he
  rw[wh]at h9
  simp only[wd]
  split at h3
  ·rename_i hh
   obtain⟨l1,ts1,h4,h5⟩:=PR.bind_ok h3
   cases h5
   have:=qt0 hLen n _ _ _ h4
   rw[wh]at this
   simp only[wd]
   cases r with
   |nil=>simp[hasS]at hh
   |cons a b=>simp only[wd]at*;omega
  ·cases h3
   simp only[wd,wf]
   cases r0 with
   |nil=>simp[hasS]at hw0
   |cons a b=>simp only[wd]at*;omega
theorem want_at {H:qab} (s:Str) (t:PTok) (r:List PTok) (d:Nat) (q0:H[0]? =some (.box (pbox (t::r) d))) (h:hasS s (t::r)=true):∃E:Eff,qai C H 78 [.ptr 0 0,.slice [[.str s]] .full]=some (.ret (.tuple []) E)∧E.of H=H.set 0 (.box (pbox r d)):=
 qel (c:=C) (v:= .tuple []) (x:=pbox (t::r) d) (y:=pbox r d) qao (b:=0) (H:=H) (rest:=[.slice [[.str s]] .full]) rfl q0 (qaa _ _) (qaa _ _) (qh3 _ t r d h) rfl
structure ArmSt where
 i:Nat
 vc:AVal
 vk:AVal
theorem parms_c {m:Nat} {R:Rd} (hR:HypE R) (hLen:LenR R) (d:Nat):HypA m R d:=by
 intro op ts e ts' hT h
 unfold qkj at h
 obtain⟨t,r,rfl,hs,h⟩:=qb8 h
 have hTr:=hT.tail (by rw[hs];decide)
 obtain⟨w1,h⟩:=qa8 h
 obtain⟨t1,r1,rfl,hT1,_,_⟩:=hTr.hasS w1
 obtain⟨l,tsl,hl2,h⟩:=PR.bind_ok h
 obtain⟨hT2,gl⟩:=listA_c hR hLen d hT1 hl2
 have hlen:=qt0 hLen _ _ _ _ hl2
 have hle:=hT1.le
 rw[List.tail_cons]at hlen
 obtain⟨w2,h⟩:=qa8 h
 obtain⟨t2,r2,rfl,hT3,_,_⟩:=hT2.hasS w2
 cases h
 refine⟨hT3,?_⟩
 obtain⟨E1,a1,a2⟩:=met (qd3 t (t1::r1) d hs) rfl (qaa _ _) (qaa _ _) rfl
 obtain⟨E2,b1,b2⟩:=qbu _ t1 r1 d w1
 obtain⟨E3,c1,c2⟩:=qyn (h:=[.box (pbox r1 d),.box [.ptr 0 0],.box qa1,.box [.int .i64 op,.str t.text,.int .i64 0,.slice [] .full,.slice [] .full]]) rfl rfl (qaa _ _) (qaa _ _) gl rfl
 have c2:E3.of [.box (pbox r1 d),.box [.ptr 0 0],.box qa1,.box [.int .i64 op,.str t.text,.int .i64 0,.slice [] .full,.slice [] .full]]=[.box (pbox (t2::r2) d),.box [.ptr 0 0],.box qa1,.box [.int .i64 op,.str t.text,.int .i64 0,.slice [] .full,.slice [] .full]]:=c2
 unfold qa1 at c1 c2
 have d5:=armC
 unfold RdE
 refine qa9 rfl Tryz.func287 rfl (by kernel_rfl) (m:=40) rfl ?_;simp only[Z3,simprocAttr,Tryz.f287,qi8,effs,a1,a2,b1,b2,c1,c2]
 generalize hb:qan PP cmp0 C lpC _=f;generalize hl:lpC f _=r
 obtain⟨ex,s',rfl,rfl,h2⟩:=qbv (α:=ArmSt) hl [7,20,21,22,23,24,25,26,27,28,29,30,31,32,33,34,35,36,37] (fun a=>[(19,.int .i64 a.i)]) (fun a h=>h[0]? =some (.box (pbox (t2::r2) d))∧h[1]? =some (.box [.ptr 0 0])∧h[2]? =some (.box qa1)∧h[3]? =some (.box [AVal.int .i64 op,.str t.text,.int .i64 0,a.vc,a.vk])∧Grow2 h a.vc ((l.take a.i).map fun x=>[.str x.1]) 9∧Grow2 h a.vk ((l.take a.i).map fun x=>x.2.cells) 37∧a.i≤l.length) (fun a=>l.length-a.i) (fun _=>())
  (fun ts _ ex s=>ex= .exit 0∧OutT [7,19,20,21,22,23,24,25,26,27,28,29,30,31,32,33,34,35,36,37] ts [] (fun h=>h[0]? =some (.box (pbox (t2::r2) d))∧h[1]? =some (.box [.ptr 0 0])∧h[2]? =some (.box qa1)∧∃tc tk,h[3]? =some (.box [AVal.int .i64 op,.str t.text,.int .i64 0,.slice (l.map fun x=>[.str x.1]) tc,.slice (l.map fun x=>x.2.cells) tk])) s) ⟨0,.slice [] .full,.slice [] .full⟩ ⟨rfl,rfl,rfl,rfl,.inl rfl,.inl rfl,Nat.zero_le _⟩ (by simp only[AtT,ats,Int.natCast_zero]) (by
   rintro⟨i,vc,vk⟩ j G dd ⟨q0,q1,q2,q3,gc,gk,hi⟩
   clear hl;subst hb
   simp only at q0 q1 q2 q3 gc gk hi ⊢
   obtain⟨tc,hvc⟩:∃tc,vc= .slice ((l.take i).map fun x=>[.str x.1]) tc:=by rcases gc with h|⟨_,h,_⟩<;>exact⟨_,h⟩
   obtain⟨tk,hvk⟩:∃tk,vk= .slice ((l.take i).map fun x=>x.2.cells) tk:=by rcases gk with h|⟨_,h,_⟩<;>exact⟨_,h⟩
   subst hvc hvk
   by_cases hlt:i<l.length
   ·have e1:((i:Int)<(l.length:Int)):=by omega
    have e3:(l.map fun x=>armC x.1 x.2)[i]? =some [AVal.str l[i].1,.int .i64 l[i].2.op,.str l[i].2.name,.int .i64 l[i].2.n,.slice (l[i].2.cons.map fun s=>[.str s]) .free,.slice (l[i].2.kids.map PExpr.cells) .free]:=by
     rw[List.getElem?_map,List.getElem?_eq_getElem hlt,Option.map_some,armX]
    have g4:=(wa.1 q3).1
    obtain⟨G1,hG⟩:∃G1,G1=G++[Blk.box [AVal.str l[i].1,.int .i64 l[i].2.op,.str l[i].2.name,.int .i64 l[i].2.n,.slice (l[i].2.cons.map fun s=>[.str s]) .free,.slice (l[i].2.kids.map PExpr.cells) .free]]:=⟨_,rfl⟩
    have P3:G1[3]? =some (.box [AVal.int .i64 op,.str t.text,.int .i64 0,.slice ((l.take i).map fun x=>[.str x.1]) tc,.slice ((l.take i).map fun x=>x.2.cells) tk]):=by rw[hG];exact Boxes.app _ _ _ _ q3
    have Pt:G1[G.length]? =some (.box [AVal.str l[i].1,.int .i64 l[i].2.op,.str l[i].2.name,.int .i64 l[i].2.n,.slice (l[i].2.cons.map fun s=>[.str s]) .free,.slice (l[i].2.kids.map PExpr.cells) .free]):=by rw[hG];simp
    have gc1:=gc.box [Blk.box [AVal.str l[i].1,.int .i64 l[i].2.op,.str l[i].2.name,.int .i64 l[i].2.n,.slice (l[i].2.cons.map fun s=>[.str s]) .free,.slice (l[i].2.kids.map PExpr.cells) .free]]
    have gk1:=gk.box [Blk.box [AVal.str l[i].1,.int .i64 l[i].2.op,.str l[i].2.name,.int .i64 l[i].2.n,.slice (l[i].2.cons.map fun s=>[.str s]) .free,.slice (l[i].2.kids.map PExpr.cells) .free]]
    rw[←hG]at gc1 gk1
    have htl:(l.take i).length=i:=by rw[List.length_take];omega
    obtain⟨v1,E1,ha1,gc2,hB1,hO1⟩:=qm6 qhd (fs:=[[.str l[i].1]]) gc1 (by rw[wj,htl];simp only[wd,wf];unfold qac;omega) (by intro c hc;obtain⟨x,_,rfl⟩:=wo.1 hc;rfl) (by intro c hc;simp only[wm,wi,or_false]at hc;subst hc;rfl) (by simp)
    have gk2:=hO1 _ _ _ (by decide) gk1
    have r3:=hB1 _ _ P3
    have rt:=hB1 _ _ Pt
    obtain⟨tc1,hv1⟩:∃tc,v1= .slice ((l.take i).map (fun x=>[AVal.str x.1])++[[AVal.str l[i].1]]) tc:=by rcases gc2 with h|⟨_,h,_⟩<;>exact⟨_,h⟩
    subst hv1
    obtain⟨G2,hG2⟩:∃G2,G2=(E1.of G1).set 3 (.box [.int .i64 op,.str t.text,.int .i64 0,.slice ((l.take i).map (fun x=>[AVal.str x.1])++[[AVal.str l[i].1]]) tc1,.slice ((l.take i).map fun x=>x.2.cells) tk]):=⟨_,rfl⟩
    have l3:=(wa.1 r3).1
    have s3:G2[3]? =some (.box [.int .i64 op,.str t.text,.int .i64 0,.slice ((l.take i).map (fun x=>[AVal.str x.1])++[[AVal.str l[i].1]]) tc1,.slice ((l.take i).map fun x=>x.2.cells) tk]):=by rw[hG2,wc l3]
    have st:G2[G.length]? =some (.box [AVal.str l[i].1,.int .i64 l[i].2.op,.str l[i].2.name,.int .i64 l[i].2.n,.slice (l[i].2.cons.map fun s=>[.str s]) .free,.slice (l[i].2.kids.map PExpr.cells) .free]):=by rw[hG2,wb (by omega)];exact rt
    have gc3:=gc2.set (y:=[.int .i64 op,.str t.text,.int .i64 0,.slice ((l.take i).map (fun x=>[AVal.str x.1])++[[AVal.str l[i].1]]) tc1,.slice ((l.take i).map fun x=>x.2.cells) tk]) r3
    have gk3:=gk2.set (y:=[.int .i64 op,.str t.text,.int .i64 0,.slice ((l.take i).map (fun x=>[AVal.str x.1])++[[AVal.str l[i].1]]) tc1,.slice ((l.take i).map fun x=>x.2.cells) tk]) r3
    rw[←hG2]at gc3 gk3
    have ecs:[AVal.int .i64 l[i].2.op,.str l[i].2.name,.int .i64 l[i].2.n,.slice (l[i].2.cons.map fun s=>[.str s]) .free,.slice (l[i].2.kids.map PExpr.cells) .free]=l[i].2.cells:=(l[i].2.cells_eq).symm
    obtain⟨v2,E2,ha2,gk4,hB2,hO2⟩:=qm6 qiw (fs:=[[AVal.int .i64 l[i].2.op,.str l[i].2.name,.int .i64 l[i].2.n,.slice (l[i].2.cons.map fun s=>[.str s]) .free,.slice (l[i].2.kids.map PExpr.cells) .free]]) gk3 (by rw[wj,htl];simp only[wd,wf];unfold qac;omega) (by intro c hc;obtain⟨x,_,rfl⟩:=wo.1 hc;exact x.2.len) (by intro c hc;simp only[wm,wi,or_false]at hc;subst hc;rfl) (by simp)
    have gc4:=hO2 _ _ _ (by decide) gc3
    have u3:=hB2 _ _ s3
    obtain⟨tk2,hv2⟩:∃tk,v2= .slice ((l.take i).map (fun x=>x.2.cells)++[[AVal.int .i64 l[i].2.op,.str l[i].2.name,.int .i64 l[i].2.n,.slice (l[i].2.cons.map fun s=>[.str s]) .free,.slice (l[i].2.kids.map PExpr.cells) .free]]) tk:=by rcases gk4 with h|⟨_,h,_⟩<;>exact⟨_,h⟩
    subst hv2
    simp only[Z3,simprocAttr,effs,qi8,e1,e3,←hG,P3,Pt,ha1,r3,rt,←hG2,s3,st,ha2,u3,qay (show i≤qac by unfold qac;omega)]
    have keep:∀(k:Nat) (cs:List AVal) (y:Blk),k≠3→G[k]? =some (.box cs)→((E2.of G2).set 3 y)[k]? =some (.box cs):=by
     intro k cs y hk hq
     rw[wb (Ne.symm hk)]
     refine hB2 _ _ ?_
     rw[hG2,wb (Ne.symm hk)]
     refine hB1 _ _ ?_
     rw[hG];exact Boxes.app _ _ _ _ hq
    have l4:=(wa.1 u3).1
    have tkc:(l.take (i+1)).map (fun x=>[AVal.str x.1])=(l.take i).map (fun x=>[AVal.str x.1])++[[AVal.str l[i].1]]:=by rw[we hlt,wk];rfl
    have tkk:(l.take (i+1)).map (fun x=>x.2.cells)=(l.take i).map (fun x=>x.2.cells)++[[AVal.int .i64 l[i].2.op,.str l[i].2.name,.int .i64 l[i].2.n,.slice (l[i].2.cons.map fun s=>[.str s]) .free,.slice (l[i].2.kids.map PExpr.cells) .free]]:=by rw[we hlt,wk,ecs];rfl
    refine .inl ⟨⟨i+1,.slice ((l.take i).map (fun x=>[AVal.str x.1])++[[AVal.str l[i].1]]) tc1,.slice ((l.take i).map (fun x=>x.2.cells)++[[AVal.int .i64 l[i].2.op,.str l[i].2.name,.int .i64 l[i].2.n,.slice (l[i].2.cons.map fun s=>[.str s]) .free,.slice (l[i].2.kids.map PExpr.cells) .free]]) tk2⟩,_,rfl,⟨keep 0 _ _ (by decide) q0,keep 1 _ _ (by decide) q1,keep 2 _ _ (by decide) q2,wc l4,?_,?_,hlt⟩,by simp only[AtT,ats],by simp only[];omega,trivial⟩
    ·simp only[tkc];exact gc4.set u3
    ·simp only[tkk];exact gk4.set u3
   ·have e1:¬((i:Int)<(l.length:Int)):=by omega
    have hil:i=l.length:=by omega
    subst hil
    rw[List.take_length]at q3
    simp only[Z3,simprocAttr,effs,qi8,e1]
    exact .inr ⟨_,_,rfl,by simp,rfl,by simp only[OutT,AtT,ats],q0,q1,q2,tc,tk,q3⟩)
 obtain⟨j,H,dd,hI,rfl⟩:=h2.elim
 have q0:=hI.1
 have q1:=hI.2.1
 have q2:=hI.2.2.1
 obtain⟨tc,tk,q3⟩:=hI.2.2.2
 clear hl
 obtain⟨E4,hE4,hh4⟩:=want_at [41] t2 r2 d q0 w2
 obtain⟨H1,hH1⟩:∃H1,H1=H.set 0 (.box (pbox r2 d)):=⟨_,rfl⟩
 rw[←hH1]at hh4
 have l0:=(wa.1 q0).1
 have p0:H1[0]? =some (.box (pbox r2 d)):=by rw[hH1,wc l0]
 have p2:H1[2]? =some (.box qa1):=by rw[hH1,wb (by decide)];exact q2
 have p3:H1[3]? =some (.box [AVal.int .i64 op,.str t.text,.int .i64 0,.slice (l.map fun x=>[.str x.1]) tc,.slice (l.map fun x=>x.2.cells) tk]):=by rw[hH1,wb (by decide)];exact q3
 have ez:qa1=[.int .i64 0,.str [],.int .i64 0,.slice [] .full,.slice [] .full]:=rfl
 rw[ez]at p2
 simp only[Z3,simprocAttr,effs,qi8,q1,hE4,hh4,p2,p3]
 have l2:=(wa.1 p2).1
 have hmk:=mk_c op t.text 0 (l.map (fun x=>x.1)) (l.map (fun x=>x.2)) tc tk
 rw[wq,wq]at hmk
 have hb0:∀y,(H1.set 2 y)[0]? =some (.box (pbox r2 d)):=fun y=>by rw[wb (by decide)];exact p0
 exact qfa (k:=4) (b:=2) (ts:=r2) (d:=d) (.inl rfl) rfl (wc l2) hmk (hb0 _) (qpj (hb0 _))
end Go.Ab
