/- Two texts with a line's end between scan to the tokens of both. -/
import Derived.Test.YtngklkmeknmloaaGreatDoorAbPSpec
import Derived.Test.YtngklkmeknmloaaGreatDoorAbReadT
import Derived.Test.YtngklkmeknmloaaGreatDoorAbTxt
import Derived.Test.YtngklkmeknmloaaGreatDoorAbPs
set_option linter.unusedSimpArgs false
set_option linter.unusedVariables false
set_option maxRecDepth 100000
set_option maxHeartbeats 4000000
open List renaming length_cons→wa,mem_singleton→wb,length_nil→wc,mem_cons→wd,cons_append→wf,length_append→wh,length_drop→wi,drop_append_of_le_length→wj,drop_drop→wo,map_cons→wq,headD_cons→wt,tail_cons→wu,drop_zero→wv,drop_left→ww
open Bool renaming and_eq_true→we
open Nat renaming le_refl→wg,zero_le→wk,add_comm→wz
open Option renaming map_eq_some_iff→wm
open Int renaming le_refl→w6
namespace Go.Ab
open Go
def Fi {α:Type} (x:PR α) (Q:α→List PTok→Prop):Prop:=match x with
 | .ok a r=>Q a r
 | .bad e _=>e≠0
 | .out=>False
def tW (ts:List PTok):Nat:=qbq (fun t:PTok=>t.text.length+16) ts
structure TokG (t:PTok):Prop where
 lo:0≤t.n
 hi:t.n≤9223372036854775807
 nm:t.sort=1→qdv t.text=true
 cn:t.sort=2→qiu t.text=true
def TG (ts:List PTok):Prop:=∀t∈ts,TokG t
def GR (e:PExpr):Prop:=e.Rng∧Good e
theorem TokG.n {t:PTok} (h:TokG t):qbp t.n:=⟨by have:=h.lo;omega,h.hi⟩
section
variable {α β:Type} {Q:β→List PTok→Prop} {ts:List PTok}
theorem Fi.bind {x:PR α} {k:α→List PTok→PR β} (h:Fi x fun a r=>Fi (k a r) Q):Fi (x.bind k) Q:=by cases x<;>exact h
theorem Fi.mono {x:PR β} {Q':β→List PTok→Prop} (h:Fi x Q') (k:∀a r,Q' a r→Q a r):Fi x Q:=by cases x<;>first|exact k _ _ h|exact h
theorem qjb {t:PTok} {r:List PTok} (h:TG (t::r)):TG r:=fun x hx=>h x (List.mem_cons_of_mem _ hx)
theorem qjc (t:PTok) (r:List PTok):tW (t::r)=t.text.length+16+tW r:=rfl
structure Lf (ts r:List PTok) (n w:Nat):Prop where
 g:TG r
 l:r.length+n≤ts.length
 w:tW r+w≤tW ts
theorem Lf.refl (h:TG ts):Lf ts ts 0 0:=⟨h,wg _,wg _⟩
theorem Lf.trans {a b c:List PTok} {n m v w:Nat} (h:Lf a b n v) (k:Lf b c m w):Lf a c (n+m) (v+w):=⟨k.g,by have:=h.l;have:=k.l;omega,by have:=h.w;have:=k.w;omega⟩
theorem Fi.has {s:Str} {f g:List PTok→PR β} (hg:TG ts) (h1:∀r,Lf ts r 1 (s.length+16)→Fi (f r) Q) (h2:Fi (g ts) Q):Fi (if hasS s ts=true then f ts.tail else g ts) Q:=by
 split
 ·rename_i h
  cases ts with
  |nil=>simp[hasS]at h
  |cons t r=>
   refine h1 r ⟨qjb hg,by simp,?_⟩
   simp only[hasS,qg1,we,beq_iff_eq]at h
   rw[qjc,h.2];omega
 ·exact h2
theorem Fi.hs {s:Str} {x y:PR β} (hg:TG ts) (h1:Lf ts ts.tail 1 (s.length+16)→Fi x Q) (h2:Fi y Q):Fi (if hasS s ts=true then x else y) Q:=by
 split
 ·rename_i h
  cases ts with
  |nil=>simp[hasS]at h
  |cons t r=>
   refine h1 ⟨qjb hg,by simp,?_⟩
   simp only[hasS,qg1,we,beq_iff_eq]at h
   rw[qjc,h.2];simp only[wu];omega
 ·exact h2
theorem Fi.want {s:Str} {k:List PTok→PR β} (hg:TG ts) (h:∀r,Lf ts r 1 (s.length+16)→Fi (k r) Q):Fi (qbe s ts k) Q:=Fi.has (f:=k) (g:=fun ts=> .bad 3 ts) hg h (show(3:Int)≠0 by decide)
def WG (n:Int) (x:Str):Prop:=(n=1→qdv x=true)∧(n=2→qiu x=true)
theorem Fi.word {n:Int} {k:Str→List PTok→PR β} (hg:TG ts) (h:∀x r,Lf ts r 1 (x.length+16)→WG n x→Fi (k x r) Q):Fi (qdf n ts k) Q:=by
 cases ts with
 |nil=>exact(show(3:Int)≠0 by decide)
 |cons t r=>
  simp only[qdf]
  split
  ·rename_i hs
   simp only[beq_iff_eq]at hs
   have ht:=hg t (by simp)
   exact h _ _ ⟨qjb hg,by simp,by rw[qjc];omega⟩ ⟨fun e=>ht.nm (hs.trans e),fun e=>ht.cn (hs.trans e)⟩
  ·exact(show(3:Int)≠0 by decide)
end
def sB (l:List Str):Nat:=qbq (fun s:Str=>s.length+1) l
theorem qus (s:Str) (l:List Str):sB (s::l)=s.length+1+sB l:=rfl
theorem qyn (k:Int) (sep:Str):∀(n:Nat) (ts:List PTok),TG ts→ts.length<n→Fi (qfx k sep n ts) fun l r=>Lf ts r 1 (sB l+15)∧∀x∈l,WG k x
 |0,_,_,h=>by omega
 |n+1,ts,hg,hn=>by
  refine Fi.word hg fun x r h hx=> ?_
  refine Fi.has (f:=fun ts=>(qfx k sep n ts).bind fun l ts=> .ok (x::l) ts) (g:=fun ts=> .ok [x] ts) h.g (fun r2 h2=> ?_) ?_
  ·refine Fi.bind (Fi.mono (qyn k sep n r2 h2.g (by have:=h.l;have:=h2.l;omega)) fun l r3 h3=> ?_)
   obtain⟨h3,hl⟩:=h3
   refine⟨⟨h3.g,?_,?_⟩,fun y hy=> ?_⟩
   ·have:=h.l;have:=h2.l;have:=h3.l;omega
   ·have:=h.w;have:=h2.w;have:=h3.w;rw[qus];omega
   ·rcases wd.1 hy with rfl|hy
    ·exact hx
    ·exact hl y hy
  ·refine⟨⟨h.g,h.l,?_⟩,fun y hy=>by rw[wb.1 hy];exact hx⟩
   have:=h.w;have e:sB [x]=x.length+1:=rfl;rw[e];omega
theorem qn2 (m:Nat) (o c:Str) (ts:List PTok) (hg:TG ts) (hn:ts.length<m):Fi (qfw m o c ts) fun l r=>Lf ts r 1 (sB l+16)∧∀x∈l,qdv x=true:=by
 refine Fi.want hg fun r h=>Fi.bind (Fi.mono (qyn _ _ m r h.g (by have:=h.l;omega)) fun l r2 h2=>Fi.want h2.1.g fun r3 h3=> ?_)
 obtain⟨h2,hl⟩:=h2
 refine⟨⟨h3.g,?_,?_⟩,fun x hx=>(hl x hx).1 rfl⟩
 ·have:=h.l;have:=h2.l;have:=h3.l;omega
 ·have:=h.w;have:=h2.w;have:=h3.w;omega
def FR (R:Rd) (L:Nat):Prop:=∀(o least:Nat) (ts:List PTok),TG ts→ts.length≤L→Fi (R o least ts) fun e r=>Lf ts r 0 e.bulk∧GR e
variable {R:Rd} {L:Nat}
theorem q1v (hR:FR R L) (o:Nat):∀(n:Nat) (ts:List PTok),TG ts→ts.length<n→ts.length≤L→Fi (qej R o n ts) fun l r=>Lf ts r 0 (PExpr.bulkL l)∧l≠[]∧∀e∈l,GR e
 |0,_,_,h,_=>by omega
 |n+1,ts,hg,hn,hL=>by
  refine Fi.bind (Fi.mono (hR o 1 ts hg hL) fun e r h=> ?_)
  obtain⟨h,he⟩:=h
  refine Fi.has (f:=fun ts=>(qej R o n ts).bind fun l ts=> .ok (e::l) ts) (g:=fun ts=> .ok [e] ts) h.g (fun r2 h2=> ?_) ?_
  ·have:=h.l;have:=h2.l
   refine Fi.bind (Fi.mono (q1v hR o n r2 h2.g (by omega) (by omega)) fun l r3 h3=> ?_)
   obtain⟨h3,_,hl⟩:=h3
   refine⟨⟨h3.g,?_,?_⟩,by simp,fun x hx=> ?_⟩
   ·have:=h3.l;omega
   ·have:=h.w;have:=h2.w;have:=h3.w;simp only[PExpr.bulkL];omega
   ·rcases wd.1 hx with rfl|hx
    ·exact he
    ·exact hl x hx
  ·exact⟨⟨h.g,h.l,by have:=h.w;simp only[PExpr.bulkL];omega⟩,by simp,fun x hx=>by rw[wb.1 hx];exact he⟩
theorem pArmL_f (hR:FR R L) (o:Nat):∀(n:Nat) (ts:List PTok),TG ts→ts.length<n→ts.length≤L→Fi (qey R o n ts) fun l r=>Lf ts r 0 (sB (l.map (·.1))+PExpr.bulkL (l.map (·.2)))∧l≠[]∧(∀c∈l.map (·.1),qiu c=true)∧∀e∈l.map (·.2),GR e
 |0,_,_,h,_=>by omega
 |n+1,ts,hg,hn,hL=>by
  refine Fi.word hg fun c r0 h0 hcn=>Fi.want h0.g fun r1 h1=> ?_
  have hcn:=hcn.2 rfl
  have:=h0.l;have:=h1.l;have:=h0.w;have:=h1.w
  refine Fi.bind (Fi.mono (hR o 1 r1 h1.g (by omega)) fun e r h=> ?_)
  obtain⟨h,he⟩:=h
  have:=h.l;have:=h.w
  refine Fi.has (f:=fun ts=>(qey R o n ts).bind fun l ts=> .ok ((c,e)::l) ts) (g:=fun ts=> .ok [(c,e)] ts) h.g (fun r2 h2=> ?_) ?_
  ·have:=h2.l;have:=h2.w
   refine Fi.bind (Fi.mono (pArmL_f hR o n r2 h2.g (by omega) (by omega)) fun l r3 h3=> ?_)
   obtain⟨h3,_,hcs,hl⟩:=h3
   have:=h3.l;have:=h3.w
   refine⟨⟨h3.g,by omega,?_⟩,by simp,fun x hx=> ?_,fun x hx=> ?_⟩
   ·simp only[wq,qus,PExpr.bulkL];omega
   ·rcases wd.1 hx with rfl|hx
    ·exact hcn
    ·exact hcs x hx
   ·rcases wd.1 hx with rfl|hx
    ·exact he
    ·exact hl x hx
  ·refine⟨⟨h.g,by omega,?_⟩,by simp,fun x hx=>by rw[wb.1 hx];exact hcn,fun x hx=>by rw[wb.1 hx];exact he⟩
   have e0:sB []=0:=rfl
   simp only[wq,List.map_nil,qus,PExpr.bulkL,e0];omega
theorem qf5 (op:Int) (x:Str) (n:Int) (c:List Str) (k:List PExpr):(PExpr.mk op x n c k).bulk=x.length+sB c+PExpr.bulkL k+6:=rfl
theorem qgc {op:Int} {x:Str} {n:Int} {c:List Str} {k:List PExpr} (h1: -100≤op∧op≤100) (h2:qbp n) (h3:∀e∈k,GR e) (h4:Good (.mk op x n c k)):GR (PExpr.mk op x n c k):=⟨.mk _ _ _ _ _ ⟨by omega,by omega⟩ h2 (fun e he=>(h3 e he).1),h4⟩
theorem qhy:qbp 0:=by unfold qbp;omega
theorem i64_1:qbp 1:=by unfold qbp;omega
theorem pArms_f (hR:FR R L) (o m:Nat) (op:Int) (ho:op=12∨op=13) (ts:List PTok) (hg:TG ts) (hn:ts.length≤m) (hL:ts.length≤L):Fi (qja m R o op ts) fun e r=>Lf ts r 0 e.bulk∧GR e:=by
 refine Fi.word hg fun x r0 h0 hx=>Fi.want h0.g fun r1 h1=> ?_
 have:=h0.l;have:=h1.l;have:=h0.w;have:=h1.w
 refine Fi.bind (Fi.mono (pArmL_f hR o m r1 h1.g (by omega) (by omega)) fun l r2 h2=> ?_)
 obtain⟨h2,hne,hcs,hl⟩:=h2
 refine Fi.want h2.g fun r3 h3=> ?_
 have:=h2.l;have:=h3.l;have:=h2.w;have:=h3.w
 refine⟨⟨h3.g,by omega,?_⟩,qgc (by omega) qhy hl (.arms op x _ _ ho (hx.1 rfl) (by simp) (by cases l with|nil=>exact absurd rfl hne|cons a b=>simp) hcs (fun e he=>(hl e he).2))⟩
 rw[qf5];omega
theorem pCall_f (hR:FR R L) (o m:Nat) (x:Str) (hx:qdv x=true) (ts:List PTok) (hg:TG ts) (hn:ts.length<m) (hL:ts.length≤L):Fi (qii m R o x ts) fun e r=>tW r+e.bulk≤tW ts+x.length+16∧r.length≤ts.length∧TG r∧GR e:=by
 refine Fi.bind (Fi.mono (Q':=fun l r=>Lf ts r 0 (sB l)∧∀x∈l,qdv x=true) ?_ fun c r h=> ?_)
 ·split
  ·exact Fi.mono (qn2 m _ _ ts hg hn) fun l r h=>⟨⟨h.1.g,by have:=h.1.l;omega,by have:=h.1.w;omega⟩,h.2⟩
  ·exact⟨Lf.refl hg,fun x h=>by cases h⟩
 ·obtain⟨h,hcs⟩:=h
  refine Fi.want h.g fun r1 h1=> ?_
  have:=h.l;have:=h1.l;have:=h.w;have:=h1.w
  refine Fi.bind (Fi.mono (q1v hR o m r1 h1.g (by omega) (by omega)) fun l r2 h2=> ?_)
  obtain⟨h2,hne,hl⟩:=h2
  refine Fi.want h2.g fun r3 h3=> ?_
  have:=h2.l;have:=h3.l;have:=h2.w;have:=h3.w
  refine⟨?_,by omega,h3.g,qgc (by omega) qhy hl (.call x _ _ hx hcs (by cases l with|nil=>exact absurd rfl hne|cons a b=>simp) (fun e he=>(hl e he).2))⟩
  rw[qf5];omega
def EP (ts:List PTok):PExpr→List PTok→Prop:=fun e r=>Lf ts r 0 e.bulk∧GR e
theorem pAtom_f (o m:Nat) (ts:List PTok) (hg:TG ts) (hn:ts.length≤m) (hR:FR R (ts.length-1)):Fi (qhu m R o ts) (EP ts):=by
 have hk:∀e∈([]:List PExpr),GR e:=fun e h=>by cases h
 unfold qhu
 split
 ·cases ts with
  |nil=>rename_i h;simp[qc3]at h
  |cons t r=>
   refine⟨⟨qjb hg,by simp,?_⟩,qgc (by omega) (hg t (by simp)).n hk (.int _ (hg t (by simp)).lo)⟩
   rw[qjc];simp only[eInt,qf5,PExpr.bulkL,sB,qbq,wc];omega
 split
 ·cases ts with
  |nil=>rename_i h;simp[qc3]at h
  |cons t r=>
   rename_i hst
   have hst:t.sort=2:=hst
   refine⟨⟨qjb hg,by simp,?_⟩,qgc (by omega) qhy hk (.con _ ((hg t (by simp)).cn hst))⟩
   rw[qjc];simp only[eCon,qf5,PExpr.bulkL,sB,qbq];omega
 split
 ·cases ts with
  |nil=>rename_i h;simp[qc3]at h
  |cons t r=>
   rename_i hst
   have hnm:=(hg t (by simp)).nm hst
   simp only
   split
   ·simp only[wa]at hn hR
    refine Fi.mono (pCall_f hR o m t.text hnm r (qjb hg) (by omega) (by omega)) fun e r2 h=>⟨⟨h.2.2.1,by have:=h.2.1;simp only[wa];omega,by have:=h.1;rw[qjc];omega⟩,h.2.2.2⟩
   ·refine⟨⟨qjb hg,by simp,?_⟩,qgc (by omega) qhy hk (.var _ hnm)⟩
    rw[qjc];simp only[eVar,qf5,PExpr.bulkL,sB,qbq];omega
 have bz:∀n:Int,(qum n).bulk=6:=fun n=>rfl
 refine Fi.hs hg (fun h=>show EP ts (qum 1) _ from⟨⟨h.g,by have:=h.l;omega,by have:=h.w;rw[bz];omega⟩,qgc (by omega) i64_1 hk (.bool 1 (.inr rfl))⟩) ?_
 refine Fi.hs hg (fun h=>show EP ts (qum 0) _ from⟨⟨h.g,by have:=h.l;omega,by have:=h.w;rw[bz];omega⟩,qgc (by omega) qhy hk (.bool 0 (.inl rfl))⟩) ?_
 have am:∀(s:Str) (op:Int),(op=12∨op=13)→∀r,Lf ts r 1 (s.length+16)→Fi (qja m R o op r) (EP ts):=fun s op ho r h=>
  Fi.mono (pArms_f hR o m op ho r h.g (by have:=h.l;omega) (by have:=h.l;omega)) fun e r2 h2=>⟨⟨h2.1.g,by have:=h.l;have:=h2.1.l;omega,by have:=h.w;have:=h2.1.w;omega⟩,h2.2⟩
 refine Fi.hs hg (am _ 12 (by omega) _) ?_
 refine Fi.hs hg (am _ 13 (by omega) _) ?_
 refine Fi.want hg fun r h=>Fi.bind (Fi.mono (hR o 1 r h.g (by have:=h.l;omega)) fun e r2 h2=>Fi.want h2.1.g fun r3 h3=> ?_)
 exact⟨⟨h3.g,by have:=h.l;have:=h2.1.l;have:=h3.l;omega,by have:=h.w;have:=h2.1.w;have:=h3.w;omega⟩,h2.2⟩
theorem pWhen_f:∀(n:Nat) (e:PExpr) (ts:List PTok),TG ts→ts.length<n→GR e→Fi (qdz n e ts) fun x r=>TG r∧r.length≤ts.length∧x.bulk+tW r≤e.bulk+tW ts∧GR x
 |0,_,_,_,h,_=>by omega
 |n+1,e,ts,hg,hn,he=>by
  refine Fi.has (f:=fun ts=>qdf 2 ts fun c ts=>qbe [40] ts fun ts=>qdf 1 ts fun x ts=>qbe [41] ts fun ts=>qdz n (qk0 x c e) ts) (g:=fun ts=> .ok e ts) hg (fun r h=> ?_) (show Fi (PR.ok e ts) _ from⟨hg,wg _,wg _,he⟩)
  refine Fi.word h.g fun c r1 h1 hc=>Fi.want h1.g fun r2 h2=>Fi.word h2.g fun x r3 h3 hx=>Fi.want h3.g fun r4 h4=> ?_
  have:=h.l;have:=h1.l;have:=h2.l;have:=h3.l;have:=h4.l;have:=h.w;have:=h1.w;have:=h2.w;have:=h3.w;have:=h4.w
  refine Fi.mono (pWhen_f n _ r4 h4.g (by omega) (qgc (by omega) qhy (fun k hk=>by rw[wb.1 hk];exact he) (.when x c e (hx.1 rfl) (hc.2 rfl) he.2))) fun z r5 h5=> ?_
  obtain⟨g5,l5,w5,q5⟩:=h5
  have e0:sB []=0:=rfl
  simp only[qk0,qf5,qus,PExpr.bulkL,e0]at w5
  exact⟨g5,by omega,by omega,q5⟩
theorem rng1 {a:PExpr} (h:GR a):∀e∈[a],GR e:=fun e he=>by rw[wb.1 he];exact h
theorem rng2 {a b:PExpr} (h:GR a) (k:GR b):∀e∈[a,b],GR e:=fun e he=>by
 rcases wd.1 he with rfl|he
 ·exact h
 ·exact rng1 k e he
theorem rng3 {a b c:PExpr} (h:GR a) (k:GR b) (l:GR c):∀e∈[a,b,c],GR e:=fun e he=>by
 rcases wd.1 he with rfl|he
 ·exact h
 ·exact rng2 k l e he
theorem qn3:sB []=0:=rfl
theorem q5g (o m:Nat) (ts:List PTok) (hg:TG ts) (hn:ts.length<m) (hR:FR R (ts.length-1)):Fi (qd2 m R o ts) (EP ts):=by
 refine Fi.bind (Fi.mono (pAtom_f o m ts hg (by omega) hR) fun e r h=> ?_)
 obtain⟨h,he⟩:=h
 have:=h.l;have:=h.w
 refine Fi.bind (Fi.mono (Q':=EP ts) ?_ fun e2 r2 h2=> ?_)
 ·split
  ·rename_i hc
   simp only[we]at hc
   cases r with
   |nil=>simp[hasS]at hc
   |cons t r=>
    simp only[hasS,qg1,we,beq_iff_eq]at hc
    have e6:tW (t::r)=5+16+tW r:=by rw[qjc,hc.2.2];rfl
    simp only[wa]at*
    refine Fi.bind (Fi.mono (hR o 0 r (qjb h.g) (by omega)) fun k r3 h3=> ?_)
    obtain⟨h3,hk⟩:=h3
    have:=h3.l;have:=h3.w
    refine⟨⟨h3.g,by omega,?_⟩,qgc (by omega) qhy (rng2 he hk) (.every e k (by simpa using hc.1) he.2 hk.2)⟩
    simp only[qn0,qf5,PExpr.bulkL,qn3,wc];omega
  ·exact⟨h,he⟩
 ·obtain⟨h2,he2⟩:=h2
  have:=h2.l;have:=h2.w
  refine Fi.mono (pWhen_f m e2 r2 h2.g (by omega) he2) fun z r5 h5=> ?_
  obtain⟨g5,l5,w5,q5⟩:=h5
  exact⟨⟨g5,by omega,by omega⟩,q5⟩
theorem pPrefix_f (o m:Nat) (ts:List PTok) (hg:TG ts) (hn:ts.length<m) (hR:FR R (ts.length-1)):Fi (qef m R o ts) (EP ts):=by
 have un:∀(s:Str) (r:List PTok),s∈unL→Lf ts r 1 (s.length+16)→Fi ((R o 0 r).bind fun k ts=> .ok (eUn s k) ts) (EP ts):=fun s r hs h=>by
  have:=h.l;have:=h.w
  refine Fi.bind (Fi.mono (hR o 0 _ h.g (by omega)) fun k r2 h2=> ?_)
  obtain⟨h2,hk⟩:=h2
  have:=h2.l;have:=h2.w
  refine⟨⟨h2.g,by omega,?_⟩,qgc (by omega) qhy (rng1 hk) (.un s k hs hk.2)⟩
  simp only[eUn,qf5,PExpr.bulkL,qn3];omega
 unfold qef
 refine Fi.hs hg (fun h=>un _ _ (by decide) h) ?_
 refine Fi.hs hg (fun h=>un _ _ (by decide) h) ?_
 refine Fi.hs hg (fun h=> ?_) ?_
 ·have:=h.l;have:=h.w
  refine Fi.bind (Fi.mono (hR o 0 _ h.g (by omega)) fun k r2 h2=> ?_)
  obtain⟨h2,hk⟩:=h2
  have:=h2.l;have:=h2.w
  refine⟨⟨h2.g,by omega,?_⟩,qgc (by omega) qhy (rng1 hk) (.pre k hk.2)⟩
  simp only[ePre,eIf,qkz,eFby,eBin,qf5,PExpr.bulkL,qn3,wc];omega
 refine Fi.hs hg (fun h=> ?_) (q5g o m ts hg hn hR)
 have:=h.l;have:=h.w
 refine Fi.bind (Fi.mono (hR o 1 _ h.g (by omega)) fun a r1 h1=> ?_)
 obtain⟨h1,ha⟩:=h1
 refine Fi.want h1.g fun r2 h2=> ?_
 have:=h1.l;have:=h1.w;have:=h2.l;have:=h2.w
 refine Fi.bind (Fi.mono (hR o 1 r2 h2.g (by omega)) fun b r3 h3=> ?_)
 obtain⟨h3,hb⟩:=h3
 refine Fi.want h3.g fun r4 h4=> ?_
 have:=h3.l;have:=h3.w;have:=h4.l;have:=h4.w
 refine Fi.bind (Fi.mono (hR o 1 r4 h4.g (by omega)) fun c r5 h5=> ?_)
 obtain⟨h5,hc⟩:=h5
 have:=h5.l;have:=h5.w
 refine⟨⟨h5.g,by omega,?_⟩,qgc (by omega) qhy (rng3 ha hb hc) (.cond a b c ha.2 hb.2 hc.2)⟩
 simp only[ePre,eIf,qkz,eFby,eBin,qf5,PExpr.bulkL,qn3,wc];omega
theorem bind_tok {ts:List PTok} (h:qbc (qau ts)≠0):∃t r,ts=t::r∧qau ts=t.text:=by
 cases ts with
 |nil=>exact absurd rfl h
 |cons t r=>
  refine⟨t,r,rfl,?_⟩
  simp only[qau]at h ⊢
  split
  ·rfl
  ·rename_i hq;rw[if_neg hq]at h;exact absurd rfl h
theorem bind_bin {s:Str} (h:3≤qbc s):s∈binL:=by
 refine Classical.byContradiction fun hn=> ?_
 simp only[binL,wd,List.not_mem_nil,or_false,not_or]at hn
 unfold qbc at h
 simp only[hn,if_false]at h
 (repeat' split at h)<;>omega
theorem qyo (hR:FR R L) (o least:Nat) (hl:0<least):∀(n most:Nat) (left:PExpr) (ts:List PTok),TG ts→ts.length<n→ts.length≤L+1→GR left→Fi (qez R o least n most left ts) fun x r=>TG r∧r.length≤ts.length∧x.bulk+tW r≤left.bulk+tW ts∧GR x
 |0,_,_,_,_,h,_,_=>by omega
 |n+1,most,left,ts,hg,hn,hL,he=>by
  simp only[qez]
  split
  ·exact⟨hg,wg _,wg _,he⟩
  ·rename_i hc
   have hb:qbc (qau ts)≠0:=by omega
   obtain⟨t,r,rfl,hs⟩:=bind_tok hb
   have ew:=qjc t r
   simp only[wa]at hn hL ⊢
   simp only[wu]
   have hg':=qjb hg
   split
   ·refine Fi.bind (Fi.mono (hR o 1 r hg' (by omega)) fun k r2 h2=> ?_)
    obtain⟨h2,hk⟩:=h2
    have:=h2.l;have:=h2.w
    refine⟨h2.g,by omega,?_,qgc (by omega) qhy (rng2 he hk) (.arrow _ _ he.2 hk.2)⟩
    simp only[ePre,eIf,qkz,eFby,eBin,qf5,PExpr.bulkL,qn3,wc];omega
   split
   ·refine Fi.bind (Fi.mono (hR o 2 r hg' (by omega)) fun k r2 h2=> ?_)
    obtain⟨h2,hk⟩:=h2
    have:=h2.l;have:=h2.w
    refine Fi.mono (qyo hR o least hl n 1 _ r2 h2.g (by omega) (by omega) (qgc (by omega) qhy (rng2 he hk) (.fby _ _ he.2 hk.2))) fun z r5 h5=> ?_
    obtain⟨g5,l5,w5,q5⟩:=h5
    simp only[ePre,eIf,qkz,eFby,eBin,qf5,PExpr.bulkL,qn3,wc]at w5
    exact⟨g5,by omega,by omega,q5⟩
   ·refine Fi.bind (Fi.mono (hR o _ r hg' (by omega)) fun k r2 h2=> ?_)
    obtain⟨h2,hk⟩:=h2
    have:=h2.l;have:=h2.w
    refine Fi.mono (qyo hR o least hl n _ _ r2 h2.g (by omega) (by omega) (qgc (by omega) qhy (rng2 he hk) (.bin _ _ _ (bind_bin (by omega)) he.2 hk.2))) fun z r5 h5=> ?_
    obtain⟨g5,l5,w5,q5⟩:=h5
    rw[hs]at w5
    simp only[ePre,eIf,qkz,eFby,eBin,qf5,PExpr.bulkL,qn3,wc]at w5
    exact⟨g5,by omega,by omega,q5⟩
theorem pE_f:∀(n o least:Nat) (ts:List PTok),TG ts→2*ts.length+(if least=0 then 1 else 2)≤n→Fi (pE n o least ts) (EP ts)
 |0,o,least,ts,hg,hn=>by split at hn<;>omega
 |n+1,o,least,ts,hg,hn=>by
  have hR:∀L,2*L+2≤n→FR (pE n) L:=fun L hL o least ts hg h=>pE_f n o least ts hg (by split<;>omega)
  simp only[pE]
  split
  ·rename_i h0
   rw[if_pos h0]at hn
   split
   ·exact(show(9:Int)≠0 by decide)
   ·cases ts with
    |nil=>
     have e:∀m,qef m (pE n) (o+1) []= .bad 3 []:=fun m=>rfl
     rw[e];exact(show(3:Int)≠0 by decide)
    |cons t r=>
     simp only[wa]at hn
     exact pPrefix_f (o+1) n _ hg (by simp only[wa];omega) (hR _ (by simp only[wa];omega))
  ·rename_i h0
   rw[if_neg h0]at hn
   cases ts with
   |nil=>
    obtain⟨n,rfl⟩:∃k,n=k+1:=⟨n-1,by omega⟩
    have e:∃x,pE (n+1) o 0 []= .bad x []∧x≠0:=by
     simp only[pE,if_true]
     split
     ·exact⟨_,rfl,by decide⟩
     ·exact⟨3,rfl,by decide⟩
    obtain⟨x,e,hx⟩:=e
    rw[e];exact hx
   |cons t0 r0=>
   generalize hts:t0::r0=ts at*
   have hne:1≤ts.length:=by rw[←hts];simp
   refine Fi.bind (Fi.mono (pE_f n o 0 ts hg (by rw[if_pos rfl];omega)) fun e r h=> ?_)
   obtain⟨h,he⟩:=h
   have:=h.l;have:=h.w
   refine Fi.mono (qyo (hR (ts.length-1) (by omega)) o least (by omega) n 7 e r h.g (by omega) (by omega) he) fun z r5 h5=> ?_
   obtain⟨g5,l5,w5,q5⟩:=h5
   exact⟨⟨g5,by omega,by omega⟩,q5⟩
end Go.Ab
namespace Go.Ab
open Go Go.Ab.Tab
theorem lex_n (s:Str):0≤(lexT s).1.n∧(lexT s).1.n≤9223372036854775807:=by
 cases s with
 |nil=>exact⟨w6 _,by decide⟩
 |cons c r=>
  simp only[lexT]
  split
  ·simp only[numT]
   split
   ·rename_i h;unfold maxI at h;omega
   ·omega
  split
  ·simp only[qi7];omega
  ·unfold qi8
   split<;>simp only[noTok]<;>omega
theorem qxv {p:Int→Bool} {s:Str} (hne:qcm s≠[]) (hp:p ((qcm s).headD 0).toNat=true) (hl:(qcm s).length≤24):qh8 p (qcm s)=true:=by
 have hin:qay qba (qcm s)=(qcm s).length:=by
  have:=qvs qba s
  have key:∀w:Str,w.all (fun c=>qba c.toNat)=true→qay qba w=w.length:=by
   intro w
   induction w with
   |nil=>intro _;rfl
   |cons c r ih=>
    intro h
    simp only[List.all_cons,we]at h
    simp only[qay,h.1,if_true,wa,ih h.2]
  exact key _ this
 generalize qcm s=w at*
 cases w with
 |nil=>exact absurd rfl hne
 |cons c r=>
  simp only[wt]at hp
  unfold qh8
  simp only[hin,hp,wa]at*
  simp;omega
theorem lex_g {s:Str} (h:(lexT s).2=true):TokG (lexT s).1:=by
 obtain⟨l0,l1⟩:=lex_n s
 refine⟨l0,l1,?_,?_⟩
 ·intro hs
  cases s with
  |nil=>cases h
  |cons c r=>
   simp only[lexT]at h hs ⊢
   split at h
   ·rename_i hd;rw[if_pos hd]at hs;cases hs
   ·rename_i hd
    rw[if_neg hd]at hs ⊢
    split at h
    ·rename_i hl
     rw[if_pos hl]at hs ⊢
     have hin:qba c.toNat=true:=by unfold qba;rw[hl];rfl
     have hw:qcm (c::r)=c::r.take (qay qba r):=by unfold qcm;simp only[qay,hin,if_true];first|rfl|(rw[wz];rfl)
     simp only[qi7]at hs ⊢
     split at hs
     ·cases hs
     ·rename_i hnw
      split at hs
      ·cases hs
      ·rename_i hu
       unfold qdv
       rw[qxv (by rw[hw];simp) ?_ (by simpa using h)]
       ·rw[Bool.eq_false_iff.2 hnw];rfl
       ·rw[hw]at hu ⊢
        simp only[wt]at hu ⊢
        simp only[Bool.or_eq_true]at hl
        rcases hl with hl|hl
        ·exact hl
        ·exact absurd hl hu
    ·rename_i hl
     rw[if_neg hl]at hs
     unfold qi8 at hs
     split at hs<;>cases hs
 ·intro hs
  cases s with
  |nil=>cases h
  |cons c r=>
   simp only[lexT]at h hs ⊢
   split at h
   ·rename_i hd;rw[if_pos hd]at hs;cases hs
   ·rename_i hd
    rw[if_neg hd]at hs ⊢
    split at h
    ·rename_i hl
     rw[if_pos hl]at hs ⊢
     have hin:qba c.toNat=true:=by unfold qba;rw[hl];rfl
     have hw:qcm (c::r)=c::r.take (qay qba r):=by unfold qcm;simp only[qay,hin,if_true];first|rfl|(rw[wz];rfl)
     simp only[qi7]at hs ⊢
     split at hs
     ·cases hs
     ·split at hs
      ·rename_i hu
       exact qxv (by rw[hw];simp) hu (by simpa using h)
      ·cases hs
    ·rename_i hl
     rw[if_neg hl]at hs
     unfold qi8 at hs
     split at hs<;>cases hs
theorem qzq (text:Str):∀(f k:Nat) (l:List PTok) (p:Nat),k≤text.length→qci text f k=(some l,p)→(∃q e,l=q++[e]∧e.sort=6)∧l.length+k≤text.length+1∧TG l∧tW l+17*k≤17*text.length+16
 |0,k,l,p,_,h=>by simp[qci]at h
 |f+1,k,l,p,hk,h=>by
  have hgl:=qp7 false (text.drop k)
  rw[wi]at hgl
  simp only[qci]at h
  generalize hg:gapS false (text.drop k)=g at*
  split at h
  ·rename_i he
   simp only[Prod.mk.injEq,Option.some.injEq]at h
   obtain⟨rfl,_⟩:=h
   refine⟨⟨[],_,rfl,rfl⟩,by simp only[List.length_singleton];omega,fun t ht=> ?_,?_⟩
   ·rw[wb.1 ht];exact⟨w6 _,(by decide:(0:Int)≤9223372036854775807),fun e=>(by cases e),fun e=>(by cases e)⟩
   ·have e:tW [atP text (k+g) endT]=16:=rfl
    rw[e];omega
  ·rename_i he
   split at h
   ·rename_i hl
    obtain⟨h1,h2⟩:=qp6 hl
    rw[wi]at h2
    have hn:=lex_g hl
    generalize(lexT (text.drop (k+g))).1=t0 at*
    have hk2:k+g+t0.text.length≤text.length:=by omega
    split at h
    ·rename_i l2 p2 hs
     simp only[Prod.mk.injEq,Option.some.injEq]at h
     obtain⟨rfl,rfl⟩:=h
     obtain⟨⟨q,e,hq,h6⟩,hb,hc,hw⟩:=qzq text f _ l2 p2 hk2 hs
     refine⟨⟨_::q,e,by rw[hq];rfl,h6⟩,by simp only[wa];omega,fun t ht=> ?_,?_⟩
     ·rcases wd.1 ht with rfl|ht
      ·exact⟨hn.lo,hn.hi,hn.nm,hn.cn⟩
      ·exact hc t ht
     ·have e:tW (atP text (k+g) t0::l2)=t0.text.length+16+tW l2:=rfl
      rw[e];omega
    ·cases h
   ·cases h
theorem scan_ok {text:Str} (hT:text.length≤65536) {l:List PTok} {p:Nat} (h:qci text (text.length+1) 0=(some l,p)):TsOk l∧TG l∧tW l≤1114128:=by
 obtain⟨h1,h2,h3,h4⟩:=qzq text _ 0 l p (wk _) h
 exact⟨⟨h1,by omega⟩,h3,by omega⟩
end Go.Ab
namespace Go.Ab
open Go Go.Ab.Tab
def qfz:Nat→Str→Option (List PTok)
 |0,_=>none
 |f+1,s=>if gapS false s=s.length then some [endT]
  else if(lexT (s.drop (gapS false s))).2=true then(qfz f ((s.drop (gapS false s)).drop (lexT (s.drop (gapS false s))).1.text.length)).map ((lexT (s.drop (gapS false s))).1:: ·)
  else none
theorem lex_strip (s:Str):strip (lexT s).1=(lexT s).1:=by
 cases s with
 |nil=>rfl
 |cons c r=>
  simp only[lexT]
  split
  ·rfl
  split
  ·rfl
  ·unfold qi8;split<;>rfl
theorem qyp (text:Str):∀(f k:Nat),k≤text.length→(qci text f k).1.map (·.map strip)=qfz f (text.drop k)
 |0,k,_=>rfl
 |f+1,k,hk=>by
  have hg:=qp7 false (text.drop k)
  have hl:(text.drop k).length=text.length-k:=wi
  simp only[qci,qfz]
  rw[wo]
  by_cases h1:k+gapS false (text.drop k)=text.length
  ·rw[if_pos h1,if_pos (show gapS false (text.drop k)=(text.drop k).length by omega)];rfl
  ·rw[if_neg h1,if_neg (show ¬gapS false (text.drop k)=(text.drop k).length by omega)]
   by_cases h2:(lexT (text.drop (k+gapS false (text.drop k)))).2=true
   ·rw[if_pos h2,if_pos h2]
    obtain⟨_,h4⟩:=qp6 h2
    have hd:(text.drop (k+gapS false (text.drop k))).length=text.length-(k+gapS false (text.drop k)):=wi
    have ih:=qyp text f (k+gapS false (text.drop k)+(lexT (text.drop (k+gapS false (text.drop k)))).1.text.length) (by omega)
    rw[wo,←ih]
    cases hs:qci text f (k+gapS false (text.drop k)+(lexT (text.drop (k+gapS false (text.drop k)))).1.text.length)with
    |mk x p=>
     cases x with
     |none=>rfl
     |some l=>
      simp only[Option.map_some,wq]
      rw[strip_at _ _ _ (lex_strip _).symm]
   ·rw[if_neg h2,if_neg h2];rfl
theorem S_mono {s:Str} {l:List PTok}:∀{f g:Nat},f≤g→qfz f s=some l→qfz g s=some l:=by
 intro f
 induction f generalizing s l with
 |zero=>intro g _ h;cases h
 |succ f ih=>
  intro g hg h
  obtain⟨g,rfl⟩:∃k,g=k+1:=⟨g-1,by omega⟩
  simp only[qfz]at h ⊢
  split at h
  ·rename_i h1;rw[if_pos h1];exact h
  ·rename_i h1
   rw[if_neg h1]
   split at h
   ·rename_i h2
    rw[if_pos h2]
    rw[wm]at h ⊢
    obtain⟨x,hx,e⟩:=h
    exact⟨x,ih (by omega) hx,e⟩
   ·cases h
theorem scan_of_S {text:Str} {F:Nat} {l:List PTok} (h:qfz F text=some l):∃l' p,qci text (text.length+1) 0=(some l',p)∧l'.map strip=l:=by
 have h1:=S_mono (Nat.le_max_left F (text.length+1)) h
 have h2:=qyp text (max F (text.length+1)) 0 (wk _)
 rw[wv,h1,qzp text _ (text.length+1) 0 (by omega) (by omega) (wk _)]at h2
 cases hs:qci text (text.length+1) 0 with
 |mk x p=>
  rw[hs]at h2
  cases x with
  |none=>cases h2
  |some l'=>exact⟨l',p,rfl,by simpa using h2⟩
theorem qzr {text:Str} {l':List PTok} {p:Nat} (h:qci text (text.length+1) 0=(some l',p)):qfz (text.length+1) text=some (l'.map strip):=by
 have h2:=qyp text (text.length+1) 0 (wk _)
 rw[h]at h2
 exact h2.symm
def Scn (s:Str) (l:List PTok) (u:Str):Prop:=∃k,∀f,qfz (f+k) s=(qfz f u).map (l++ ·)
theorem Scn.refl (s:Str):Scn s [] s:=⟨0,fun f=>by simp⟩
theorem Scn.trans {s u v:Str} {l m:List PTok} (h:Scn s l u) (k:Scn u m v):Scn s (l++m) v:=by
 obtain⟨a,h⟩:=h;obtain⟨b,k⟩:=k
 refine⟨b+a,fun f=> ?_⟩
 rw[←Nat.add_assoc,h,k,Option.map_map]
 congr 1
 funext x
 simp
theorem Scn.done {s u:Str} {l m:List PTok} {f:Nat} (h:Scn s l u) (k:qfz f u=some m):∃F,qfz F s=some (l++m):=by
 obtain⟨a,h⟩:=h
 exact⟨f+a,by rw[h,k];rfl⟩
theorem Scn.word {w Y:Str} {t:PTok} (hg:gapS false (w++Y)=0) (hl:lexT (w++Y)=(t,true)) (ht:t.text=w) (hne:w≠[]):Scn (w++Y) [t] Y:=by
 refine⟨1,fun f=> ?_⟩
 have h0:¬(0=(w++Y).length):=by
  cases w with
  |nil=>exact absurd rfl hne
  |cons c r=>simp
 simp only[qfz,hg,if_neg h0,wv,hl,if_true,ht,ww]
 rfl
theorem Scn.gap {g X:Str} (h:gapS false (g++X)=g.length+gapS false X):Scn (g++X) [] X:=by
 refine⟨0,fun f=> ?_⟩
 have e:(qfz f X).map (([]:List PTok)++ ·)=qfz f X:=by simp
 rw[e,Nat.add_zero]
 cases f with
 |zero=>rfl
 |succ f=>
  simp only[qfz,h,wh]
  have hd:(g++X).drop (g.length+gapS false X)=X.drop (gapS false X):=by rw[←wo,ww]
  rw[hd]
  by_cases h1:gapS false X=X.length
  ·rw[if_pos h1,if_pos (by omega)]
  ·rw[if_neg h1,if_neg (by omega)]
theorem Scn.words:∀(ws:List Str) (u:Str),ws≠[]→Oks ws→Scn (J ws++32::u) (toks ws) u
 |[],_,h,_=>absurd rfl h
 |[w],u,_,hk=>by
  have ok:=hk w (by simp)
  have hb:Bl (32::u):= .inr ⟨u,rfl⟩
  exact(Scn.word (q1u ok hb) (wok_lex ok hb) rfl (wok_noB ok).1).trans (Scn.gap (g:=[32]) (X:=u) rfl)
 |w::v::r,u,_,hk=>by
  have ok:=hk w (by simp)
  have ih:=Scn.words (v::r) u (by simp) (fun x hx=>hk x (by simp[hx]))
  have hb:Bl (32::(J (v::r)++32::u)):= .inr ⟨_,rfl⟩
  rw[J_cons w _ (by simp),List.append_assoc,wf]
  exact((Scn.word (q1u ok hb) (wok_lex ok hb) rfl (wok_noB ok).1).trans (Scn.gap (g:=[32]) (X:=J (v::r)++32::u) rfl)).trans ih
end Go.Ab
namespace Go.Ab
open Go Go.Ab.Tab
theorem qyq (u:Str):∀(s:Str) (b:Bool),(gapS b s=s.length→gapS b (s++10::u)=s.length+1+gapS false u)∧(gapS b s≠s.length→gapS b (s++10::u)=gapS b s)
 |[],b=>by
  refine⟨fun _=> ?_,fun h=> ?_⟩
  ·cases b<;>(show 1+gapS false u=_;simp)
  ·exfalso;apply h;cases b<;>rfl
 |c::r,b=>by
  have i1:=qyq u r false
  have i2:=qyq u r true
  cases b
  ·simp only[gapS,wf,wa]
   split
   ·exact⟨fun h=>by rw[i1.1 (by omega)];omega,fun h=>by rw[i1.2 (by omega)]⟩
   ·have hh:(c=45∧(r++10::u).head? =some 45)↔(c=45∧r.head? =some 45):=by
     cases r with
     |nil=>simp
     |cons d t=>simp
    simp only[hh]
    split
    ·exact⟨fun h=>by rw[i2.1 (by omega)];omega,fun h=>by rw[i2.2 (by omega)]⟩
    ·exact⟨fun h=>by omega,fun _=>rfl⟩
  ·simp only[gapS,wf,wa]
   split
   ·exact⟨fun h=>by rw[i1.1 (by omega)];omega,fun h=>by rw[i1.2 (by omega)]⟩
   ·exact⟨fun h=>by rw[i2.1 (by omega)];omega,fun h=>by rw[i2.2 (by omega)]⟩
theorem qv0 {p:Int→Bool} (hp:p 10=false) (u:Str):∀s:Str,qay p (s++10::u)=qay p s
 |[]=>by
  have h:p ((10:UInt8).toNat:Nat)=false:=hp
  simp only[List.nil_append,qay,h];rfl
 |c::r=>by
  simp only[wf,qay,qv0 hp u r]
theorem qv1 {s v:Str} {n:Nat} (h:n≤s.length):(s++v).take n=s.take n:=by rw[List.take_append_of_le_length h]
theorem pre_app (u:Str) {x:Str} (hx:∀c∈x,c≠10) (s:Str):preB (s++10::u) x=preB s x:=by
 unfold preB
 by_cases h:x.length≤s.length
 ·have h2:x.length≤(s++10::u).length:=by simp only[wh];omega
  rw[decide_eq_true h,decide_eq_true h2,qv1 h]
 ·rw[decide_eq_false h,Bool.false_and]
  cases hd:((s++10::u).take x.length==x)
  ·rw[Bool.and_false]
  ·exfalso
   simp only[beq_iff_eq]at hd
   have h1:(s++10::u)[s.length]? =some 10:=by rw[List.getElem?_append_right (wg _)];simp
   have h2:((s++10::u).take x.length)[s.length]? =some 10:=by rw[List.getElem?_take_of_lt (by omega)];exact h1
   rw[hd]at h2
   exact hx 10 (List.mem_of_getElem? h2) rfl
theorem qxw {α:Type} {p q:α→Bool}:∀{l:List α},(∀x∈l,p x=q x)→l.find? p=l.find? q
 |[],_=>rfl
 |a::l,h=>by
  simp only[List.find?,h a (by simp),qxw (l:=l) (fun x hx=>h x (by simp[hx]))]
theorem lex_app (u:Str) {s:Str} (h:(lexT s).2=true):lexT (s++10::u)=lexT s:=by
 cases s with
 |nil=>cases h
 |cons c r=>
  have e1:qay qby (c::(r++10::u))=qay qby (c::r):=qv0 (p:=qby) rfl u (c::r)
  have e2:qay qba (c::(r++10::u))=qay qba (c::r):=qv0 (p:=qba) rfl u (c::r)
  have e3:numD (c::(r++10::u))=numD (c::r):=by
   unfold numD
   rw[e1];exact qv1 (s:=c::r) (qft _ _)
  have e4:qcm (c::(r++10::u))=qcm (c::r):=by
   unfold qcm
   rw[e2];exact qv1 (s:=c::r) (qft _ _)
  simp only[wf,lexT]
  split
  ·unfold numT qou;rw[e3,e2]
  split
  ·unfold qi7;rw[e4]
  ·unfold qi8
   have hs:∀x∈signL',∀c∈x,c≠10:=by decide
   have:=qxw (l:=signL') (p:=preB (c::(r++10::u))) (q:=preB (c::r)) (fun x hx=>pre_app u (hs x hx) (c::r))
   rw[this]
theorem lex_sort {s:Str} (h:(lexT s).2=true):(lexT s).1.sort≠6:=by
 cases s with
 |nil=>cases h
 |cons c r=>
  simp only[lexT]at h ⊢
  split
  ·simp[numT]
  split
  ·simp only[qi7];split
   ·simp
   ·split<;>simp
  ·unfold qi8;split<;>simp[noTok]
theorem Scn.step {s:Str} {g:Nat} (hg:gapS false s=g) (hne:g≠s.length) (hl:(lexT (s.drop g)).2=true):Scn s [(lexT (s.drop g)).1] ((s.drop g).drop (lexT (s.drop g)).1.text.length):=by
 subst hg
 refine⟨1,fun f=> ?_⟩
 simp only[qfz]
 rw[if_neg hne,if_pos hl]
 rfl
theorem S_app (u:Str):∀(f:Nat) (s:Str) (l:List PTok),qfz f s=some l→∃l0,l=l0++[endT]∧(∀t∈l0,t.sort≠6)∧Scn (s++10::u) l0 u
 |0,_,_,h=>by cases h
 |f+1,s,l,h=>by
  simp only[qfz]at h
  have hga:=qyq u s false
  have hgl:=qp7 false s
  split at h
  ·rename_i hg
   cases h
   refine⟨[],rfl,fun t ht=>(by cases ht),?_⟩
   have e:s++10::u=(s++[10])++u:=by simp
   rw[e]
   refine Scn.gap ?_
   rw[←e,hga.1 hg]
   simp only[wh,wa,wc]
  ·rename_i hg
   split at h
   ·rename_i hl
    rw[wm]at h
    obtain⟨l1,h1,rfl⟩:=h
    obtain⟨l0,rfl,hs,hc⟩:=S_app u f _ l1 h1
    have hd:(s++10::u).drop (gapS false s)=s.drop (gapS false s)++10::u:=wj hgl
    have hlen:=(qp6 hl).2
    have hst:=Scn.step (s:=s++10::u) (g:=gapS false s) (hga.2 hg) (by simp only[wh,wa];omega) (by rw[hd,lex_app u hl];exact hl)
    rw[hd,lex_app u hl,wj hlen]at hst
    refine⟨(lexT (s.drop (gapS false s))).1::l0,rfl,fun t ht=> ?_,hst.trans hc⟩
    rcases wd.1 ht with rfl|ht
    ·exact lex_sort hl
    ·exact hs t ht
   ·cases h
theorem join_scan {a b:Str} {la lb:List PTok} {p q:Nat} (ha:qci a (a.length+1) 0=(some la,p)) (hb:qci b (b.length+1) 0=(some lb,q)):
 ∃l0 l k,la.map strip=l0++[endT]∧(∀t∈l0,t.sort≠6)∧qci (a++10::b) ((a++10::b).length+1) 0=(some l,k)∧l.map strip=l0++lb.map strip:=by
 obtain⟨l0,h1,h2,h3⟩:=S_app b _ a _ (qzr ha)
 obtain⟨F,hF⟩:=h3.done (qzr hb)
 obtain⟨l,k,h4,h5⟩:=scan_of_S hF
 exact⟨l0,l,k,h1,h2,h4,h5⟩
end Go.Ab
