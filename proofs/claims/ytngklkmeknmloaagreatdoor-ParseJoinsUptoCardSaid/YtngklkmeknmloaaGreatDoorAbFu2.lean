/- Readings of programs come to an end, and what they read is bounded by what they take. -/
import Derived.Test.YtngklkmeknmloaaGreatDoorAbFu
set_option linter.unusedSimpArgs false
set_option linter.unusedVariables false
set_option maxRecDepth 100000
set_option maxHeartbeats 4000000
open List renaming mem_cons→wa,not_mem_nil→wb
namespace Go.Ab
open Go
variable {R:Rd} {L:Nat}
theorem pEq_f (m:Nat) (hR:FR R L) (ts:List PTok) (hg:TG ts) (hn:ts.length<m) (hL:ts.length≤L):Fi (pEq m R ts) fun q r=>Lf ts r 1 (q.bulk+16)∧q.Rng:=by
 refine Fi.bind (Fi.mono (Q':=fun l r=>Lf ts r 1 (sB l)) ?_ fun l r h=> ?_)
 ·split
  ·exact Fi.mono (qn2 m _ _ ts hg hn) fun l r h=>⟨h.1.g,by have:=h.1.l;omega,by have:=h.1.w;omega⟩
  ·refine Fi.word hg fun x r h _=> ?_
   refine⟨h.g,by have:=h.l;omega,?_⟩
   have e:sB [x]=x.length+1:=rfl
   have:=h.w;rw[e];omega
 refine Fi.want h.g fun r1 h1=> ?_
 have:=h.l;have:=h.w;have:=h1.l;have:=h1.w
 refine Fi.bind (Fi.mono (hR 0 1 r1 h1.g (by omega)) fun e r2 h2=> ?_)
 obtain⟨h2,he⟩:=h2
 refine Fi.want h2.g fun r3 h3=> ?_
 have:=h2.l;have:=h2.w;have:=h3.l;have:=h3.w
 refine⟨⟨h3.g,by omega,?_⟩,he.1⟩
 show tW r3+((sB l+1)+e.bulk+16)≤tW ts
 omega
theorem pEqs_f (m:Nat) (hR:FR R L):∀(n:Nat) (ts:List PTok),TG ts→ts.length<n→ts.length<m→ts.length≤L→Fi (pEqs R m n ts) fun l r=>Lf ts r 0 (qbq PEq.bulk l)∧∀q∈l,q.Rng
 |0,_,_,h,_,_=>by omega
 |n+1,ts,hg,hn,hm,hL=>by
  simp only[pEqs]
  split
  ·refine Fi.bind (Fi.mono (pEq_f m hR ts hg hm hL) fun q r h=> ?_)
   obtain⟨h,hq⟩:=h
   have:=h.l;have:=h.w
   refine Fi.bind (Fi.mono (pEqs_f m hR n r h.g (by omega) (by omega) (by omega)) fun l r2 h2=> ?_)
   obtain⟨h2,hl⟩:=h2
   have:=h2.l;have:=h2.w
   refine⟨⟨h2.g,by omega,?_⟩,fun x hx=> ?_⟩
   ·simp only[qbq];omega
   ·rcases wa.1 hx with rfl|hx
    ·exact hq
    ·exact hl x hx
  ·exact⟨Lf.refl hg,fun x h=>by cases h⟩
theorem pWays_f (hR:FR R L):∀(n:Nat) (ts:List PTok),TG ts→ts.length<n→ts.length≤L→Fi (qfy R n ts) fun l r=>Lf ts r 0 (qbq PWay.bulk l)∧∀q∈l,q.Rng
 |0,_,_,h,_=>by omega
 |n+1,ts,hg,hn,hL=>by
  simp only[qfy]
  refine Fi.hs hg (fun h=> ?_) (show Fi (PR.ok [] ts) _ from⟨Lf.refl hg,fun x h=>by cases h⟩)
  have:=h.l;have:=h.w
  refine Fi.bind (Fi.mono (hR 0 1 _ h.g (by omega)) fun e r2 h2=> ?_)
  obtain⟨h2,he⟩:=h2
  have:=h2.l;have:=h2.w
  refine Fi.want h2.g fun r3 h3=>Fi.word h3.g fun c r4 h4 _=>Fi.want h4.g fun r5 h5=> ?_
  have:=h3.l;have:=h3.w;have:=h4.l;have:=h4.w;have:=h5.l;have:=h5.w
  refine Fi.bind (Fi.mono (pWays_f hR n r5 h5.g (by omega) (by omega)) fun l r6 h6=> ?_)
  obtain⟨h6,hl⟩:=h6
  have:=h6.l;have:=h6.w
  refine⟨⟨h6.g,by omega,?_⟩,fun x hx=> ?_⟩
  ·simp only[qbq,PWay.bulk];omega
  ·rcases wa.1 hx with rfl|hx
   ·exact he.1
   ·exact hl x hx
theorem pState_f (m:Nat) (hR:FR R L) (ts:List PTok) (hg:TG ts) (hn:ts.length<m) (hL:ts.length≤L):Fi (qhf m R ts) fun s r=>Lf ts r 1 s.bulk∧s.Rng:=by
 refine Fi.word hg fun x r h _=>Fi.want h.g fun r1 h1=> ?_
 have:=h.l;have:=h.w;have:=h1.l;have:=h1.w
 refine Fi.bind (Fi.mono (pEqs_f m hR m r1 h1.g (by omega) (by omega) (by omega)) fun q r2 h2=> ?_)
 obtain⟨h2,hq⟩:=h2
 have:=h2.l;have:=h2.w
 refine Fi.bind (Fi.mono (pWays_f hR m r2 h2.g (by omega) (by omega)) fun w r3 h3=> ?_)
 obtain⟨h3,hw⟩:=h3
 have:=h3.l;have:=h3.w
 refine⟨⟨h3.g,by omega,?_⟩,hq,hw⟩
 simp only[PState.bulk];omega
theorem qz0 (m:Nat) (hR:FR R L):∀(n:Nat) (ts:List PTok),TG ts→ts.length<n→ts.length<m→ts.length≤L→Fi (qcg R m n ts) fun l r=>Lf ts r 0 (qbq PState.bulk l)∧∀q∈l,q.Rng
 |0,_,_,h,_,_=>by omega
 |n+1,ts,hg,hn,hm,hL=>by
  simp only[qcg]
  refine Fi.bind (Fi.mono (pState_f m hR ts hg hm hL) fun s r h=> ?_)
  obtain⟨h,hs⟩:=h
  have:=h.l;have:=h.w
  refine Fi.hs h.g (fun h1=> ?_) (show Fi (PR.ok [s] r) _ from⟨⟨h.g,by omega,by simp only[qbq];omega⟩,fun x hx=>by rw[List.mem_singleton.1 hx];exact hs⟩)
  have:=h1.l;have:=h1.w
  refine Fi.bind (Fi.mono (qz0 m hR n _ h1.g (by omega) (by omega) (by omega)) fun l r2 h2=> ?_)
  obtain⟨h2,hl⟩:=h2
  have:=h2.l;have:=h2.w
  refine⟨⟨h2.g,by omega,?_⟩,fun x hx=> ?_⟩
  ·simp only[qbq];omega
  ·rcases wa.1 hx with rfl|hx
   ·exact hs
   ·exact hl x hx
theorem eZero_rng:eZero.Rng:= .mk _ _ _ _ _ qhy qhy (fun e h=>by cases h)
theorem qv9 (m:Nat) (hR:FR R L):∀(n:Nat) (ts:List PTok),TG ts→ts.length<n→ts.length<m→ts.length≤L→Fi (qdj R m n ts) fun l r=>Lf ts r 0 (qbq PItem.bulk l)∧∀q∈l,q.Rng
 |0,_,_,h,_,_=>by omega
 |n+1,ts,hg,hn,hm,hL=>by
  simp only[qdj]
  split
  ·refine Fi.bind (Fi.mono (pEq_f m hR ts hg hm hL) fun q r h=> ?_)
   obtain⟨h,hq⟩:=h
   have:=h.l;have:=h.w
   refine Fi.bind (Fi.mono (qv9 m hR n r h.g (by omega) (by omega) (by omega)) fun l r2 h2=> ?_)
   obtain⟨h2,hl⟩:=h2
   have:=h2.l;have:=h2.w
   refine⟨⟨h2.g,by omega,?_⟩,fun x hx=> ?_⟩
   ·simp only[qbq,PItem.bulk];omega
   ·rcases wa.1 hx with rfl|hx
    ·exact⟨hq,fun y hy=>by cases hy⟩
    ·exact hl x hx
  refine Fi.hs hg (fun h=> ?_) (show Fi (PR.ok [] ts) _ from⟨Lf.refl hg,fun x h=>by cases h⟩)
  have:=h.l;have:=h.w
  refine Fi.want h.g fun r1 h1=> ?_
  have:=h1.l;have:=h1.w
  refine Fi.bind (Fi.mono (qz0 m hR m r1 h1.g (by omega) (by omega) (by omega)) fun ss r2 h2=> ?_)
  obtain⟨h2,hs⟩:=h2
  have:=h2.l;have:=h2.w
  refine Fi.want h2.g fun r3 h3=>Fi.want h3.g fun r4 h4=> ?_
  have:=h3.l;have:=h3.w;have:=h4.l;have:=h4.w
  refine Fi.bind (Fi.mono (qv9 m hR n r4 h4.g (by omega) (by omega) (by omega)) fun l r5 h5=> ?_)
  obtain⟨h5,hl⟩:=h5
  have:=h5.l;have:=h5.w
  refine⟨⟨h5.g,by omega,?_⟩,fun x hx=> ?_⟩
  ·have e:(PEq.mk [] eZero).bulk=7:=rfl
   simp only[qbq,PItem.bulk,e];omega
  ·rcases wa.1 hx with rfl|hx
   ·exact⟨eZero_rng,hs⟩
   ·exact hl x hx
theorem pNode_f (m:Nat) (hR:FR R L) (ts:List PTok) (hg:TG ts) (hn:ts.length<m) (hL:ts.length≤L):Fi (qij m R ts) fun x r=>Lf ts r 1 x.bulk∧x.Rng:=by
 refine Fi.word hg fun x r h _=> ?_
 have:=h.l;have:=h.w
 refine Fi.bind (Fi.mono (Q':=fun l r2=>Lf r r2 0 (sB l)) ?_ fun f r1 h1=> ?_)
 ·split
  ·exact Fi.mono (qn2 m _ _ r h.g (by omega)) fun l r h=>⟨h.1.g,by have:=h.1.l;omega,by have:=h.1.w;omega⟩
  ·exact Lf.refl h.g
 have:=h1.l;have:=h1.w
 refine Fi.bind (Fi.mono (qn2 m _ _ r1 h1.g (by omega)) fun i r2 h2=> ?_)
 replace h2:=h2.1
 have:=h2.l;have:=h2.w
 refine Fi.want h2.g fun r3 h3=> ?_
 have:=h3.l;have:=h3.w
 refine Fi.bind (Fi.mono (qn2 m _ _ r3 h3.g (by omega)) fun u r4 h4=> ?_)
 replace h4:=h4.1
 have:=h4.l;have:=h4.w
 refine Fi.want h4.g fun r5 h5=> ?_
 have:=h5.l;have:=h5.w
 refine Fi.bind (Fi.mono (qv9 m hR m r5 h5.g (by omega) (by omega) (by omega)) fun l r6 h6=> ?_)
 obtain⟨h6,hl⟩:=h6
 have:=h6.l;have:=h6.w
 refine Fi.want h6.g fun r7 h7=> ?_
 have:=h7.l;have:=h7.w
 refine⟨⟨h7.g,by omega,?_⟩,hl⟩
 show tW r7+((x.length+1)+(sB f+1)+(sB i+1)+(sB u+1)+(qbq PItem.bulk l+1))≤tW ts
 omega
theorem pEnum_f (m:Nat) (ts:List PTok) (hg:TG ts) (hn:ts.length<m):Fi (qk1 m ts) fun x r=>Lf ts r 1 x.bulk∧x.Rng:=by
 refine Fi.word hg fun x r h _=>Fi.want h.g fun r1 h1=> ?_
 have:=h.l;have:=h.w;have:=h1.l;have:=h1.w
 refine Fi.bind (Fi.mono (qyn _ _ m r1 h1.g (by omega)) fun l r2 h2=> ?_)
 replace h2:=h2.1
 have:=h2.l;have:=h2.w
 refine Fi.want h2.g fun r3 h3=> ?_
 have:=h3.l;have:=h3.w
 refine⟨⟨h3.g,by omega,?_⟩,by unfold PEnum.Rng;trivial⟩
 show tW r3+((x.length+1)+(sB l+1))≤tW ts
 omega
theorem qyy (m:Nat) (hR:FR R L):∀(n:Nat) (ts:List PTok),TG ts→ts.length<n→ts.length<m→ts.length≤L→Fi (qcw R m n ts) fun p r=>Lf ts r 0 (qbq PEnum.bulk p.enums+qbq PNode.bulk p.nodes)∧p.Rng
 |0,_,_,h,_,_=>by omega
 |n+1,ts,hg,hn,hm,hL=>by
  simp only[qcw]
  split
  ·exact⟨Lf.refl hg,(⟨fun x h=>(wb h).elim,fun x h=>(wb h).elim⟩:PProg.Rng ⟨[],[]⟩)⟩
  refine Fi.hs hg (fun h=> ?_) ?_
  ·have:=h.l;have:=h.w
   refine Fi.bind (Fi.mono (pEnum_f m _ h.g (by omega)) fun t r h1=> ?_)
   obtain⟨h1,ht⟩:=h1
   have:=h1.l;have:=h1.w
   refine Fi.bind (Fi.mono (qyy m hR n r h1.g (by omega) (by omega) (by omega)) fun p r2 h2=> ?_)
   obtain⟨h2,hp⟩:=h2
   have:=h2.l;have:=h2.w
   refine⟨⟨h2.g,by omega,?_⟩,fun x hx=> ?_,hp.2⟩
   ·simp only[qbq];omega
   ·rcases wa.1 hx with rfl|hx
    ·exact ht
    ·exact hp.1 x hx
  ·refine Fi.want hg fun r h=> ?_
   have:=h.l;have:=h.w
   refine Fi.bind (Fi.mono (pNode_f m hR r h.g (by omega) (by omega)) fun t r h1=> ?_)
   obtain⟨h1,ht⟩:=h1
   have:=h1.l;have:=h1.w
   refine Fi.bind (Fi.mono (qyy m hR n r h1.g (by omega) (by omega) (by omega)) fun p r2 h2=> ?_)
   obtain⟨h2,hp⟩:=h2
   have:=h2.l;have:=h2.w
   refine⟨⟨h2.g,by omega,?_⟩,hp.1,fun x hx=> ?_⟩
   ·simp only[qbq];omega
   ·rcases wa.1 hx with rfl|hx
    ·exact ht
    ·exact hp.2 x hx
theorem qx3 (ts:List PTok) (hg:TG ts) {N:Nat} (hN:2*ts.length+2≤N):(∃p r,qcw (pE N) N N ts= .ok p r∧p.bulk≤tW ts+2∧p.Rng)∨∃e r,qcw (pE N) N N ts= .bad e r∧e≠0:=by
 have h:=qyy (R:=pE N) (L:=ts.length) N (fun o least t hg hl=>pE_f N o least t hg (by split<;>omega)) N ts hg (by omega) (by omega) (Nat.le_refl _)
 cases hx:qcw (pE N) N N ts with
 |ok p r=>
  rw[hx]at h
  refine .inl ⟨p,r,rfl,?_,h.2⟩
  have:=h.1.w
  simp only[PProg.bulk];omega
 |bad e r=>rw[hx]at h;exact .inr ⟨e,r,rfl,h⟩
 |out=>rw[hx]at h;exact h.elim
end Go.Ab
