/- What a scan answers: tokens that end as they must, with numbers in range, no heavier than the text. -/
import Derived.Test.YtngklkmeknmloaaGreatDoorAbTypes
import Derived.Test.YtngklkmeknmloaaGreatDoorAbReadT
import Derived.Test.YtngklkmeknmloaaGreatDoorAbScn5
import Derived.Test.YtngklkmeknmloaaGreatDoorAbSize
set_option linter.unusedSimpArgs false
set_option linter.unusedVariables false
set_option maxRecDepth 100000
set_option maxHeartbeats 4000000
open List renaming length_cons→wa,length_nil→wb,mem_singleton→wc,mem_cons→we,length_drop→wg,tail_cons→wh,map_cons→wi
open Nat renaming le_refl→wd
open Bool renaming and_eq_true→wf
open Int renaming le_refl→wj
namespace Go.Ab
open Go
def Fi {α:Type} (x:PR α) (Q:α→List PTok→Prop):Prop:=match x with
 | .ok a r=>Q a r
 | .bad e _=>e≠0
 | .out=>False
def tW (ts:List PTok):Nat:=qby (fun t:PTok=>t.text.length+16) ts
def TG (ts:List PTok):Prop:=∀t∈ts,qbr t.n
section
variable {α β:Type} {Q:β→List PTok→Prop} {ts:List PTok}
theorem Fi.bind {x:PR α} {k:α→List PTok→PR β} (h:Fi x fun a r=>Fi (k a r) Q):Fi (x.bind k) Q:=by cases x<;>exact h
theorem Fi.mono {x:PR β} {Q':β→List PTok→Prop} (h:Fi x Q') (k:∀a r,Q' a r→Q a r):Fi x Q:=by cases x<;>first|exact k _ _ h|exact h
theorem qjv {t:PTok} {r:List PTok} (h:TG (t::r)):TG r:=fun x hx=>h x (List.mem_cons_of_mem _ hx)
theorem qjw (t:PTok) (r:List PTok):tW (t::r)=t.text.length+16+tW r:=rfl
structure Lf (ts r:List PTok) (n w:Nat):Prop where
 g:TG r
 l:r.length+n≤ts.length
 w:tW r+w≤tW ts
theorem Lf.refl (h:TG ts):Lf ts ts 0 0:=⟨h,wd _,wd _⟩
theorem Lf.trans {a b c:List PTok} {n m v w:Nat} (h:Lf a b n v) (k:Lf b c m w):Lf a c (n+m) (v+w):=⟨k.g,by have:=h.l;have:=k.l;omega,by have:=h.w;have:=k.w;omega⟩
theorem Fi.has {s:Str} {f g:List PTok→PR β} (hg:TG ts) (h1:∀r,Lf ts r 1 (s.length+16)→Fi (f r) Q) (h2:Fi (g ts) Q):Fi (if hasS s ts=true then f ts.tail else g ts) Q:=by
 split
 ·rename_i h
  cases ts with
  |nil=>simp[hasS]at h
  |cons t r=>
   refine h1 r ⟨qjv hg,by simp,?_⟩
   simp only[hasS,qr7,wf,beq_iff_eq]at h
   rw[qjw,h.2];omega
 ·exact h2
theorem Fi.hs {s:Str} {x y:PR β} (hg:TG ts) (h1:Lf ts ts.tail 1 (s.length+16)→Fi x Q) (h2:Fi y Q):Fi (if hasS s ts=true then x else y) Q:=by
 split
 ·rename_i h
  cases ts with
  |nil=>simp[hasS]at h
  |cons t r=>
   refine h1 ⟨qjv hg,by simp,?_⟩
   simp only[hasS,qr7,wf,beq_iff_eq]at h
   rw[qjw,h.2];simp only[wh];omega
 ·exact h2
theorem Fi.want {s:Str} {k:List PTok→PR β} (hg:TG ts) (h:∀r,Lf ts r 1 (s.length+16)→Fi (k r) Q):Fi (qav s ts k) Q:=Fi.has (f:=k) (g:=fun ts=> .bad 3 ts) hg h (show(3:Int)≠0 by decide)
theorem Fi.word {n:Int} {k:Str→List PTok→PR β} (hg:TG ts) (h:∀x r,Lf ts r 1 (x.length+16)→Fi (k x r) Q):Fi (qef n ts k) Q:=by
 cases ts with
 |nil=>exact(show(3:Int)≠0 by decide)
 |cons t r=>
  simp only[qef]
  split
  ·exact h _ _ ⟨qjv hg,by simp,by rw[qjw];omega⟩
  ·exact(show(3:Int)≠0 by decide)
end
def sB (l:List Str):Nat:=qby (fun s:Str=>s.length+1) l
theorem qvs (s:Str) (l:List Str):sB (s::l)=s.length+1+sB l:=rfl
theorem qzy (k:Int) (sep:Str):∀(n:Nat) (ts:List PTok),TG ts→ts.length<n→Fi (qem k sep n ts) fun l r=>Lf ts r 1 (sB l+15)
 |0,_,_,h=>by omega
 |n+1,ts,hg,hn=>by
  refine Fi.word hg fun x r h=> ?_
  refine Fi.has (f:=fun ts=>(qem k sep n ts).bind fun l ts=> .ok (x::l) ts) (g:=fun ts=> .ok [x] ts) h.g (fun r2 h2=> ?_) ?_
  ·refine Fi.bind (Fi.mono (qzy k sep n r2 h2.g (by have:=h.l;have:=h2.l;omega)) fun l r3 h3=> ?_)
   refine⟨h3.g,?_,?_⟩
   ·have:=h.l;have:=h2.l;have:=h3.l;omega
   ·have:=h.w;have:=h2.w;have:=h3.w;rw[qvs];omega
  ·refine⟨h.g,h.l,?_⟩
   have:=h.w;have e:sB [x]=x.length+1:=rfl;rw[e];omega
theorem qop (m:Nat) (o c:Str) (ts:List PTok) (hg:TG ts) (hn:ts.length<m):Fi (qdn m o c ts) fun l r=>Lf ts r 1 (sB l+16):=by
 refine Fi.want hg fun r h=>Fi.bind (Fi.mono (qzy _ _ m r h.g (by have:=h.l;omega)) fun l r2 h2=>Fi.want h2.g fun r3 h3=> ?_)
 refine⟨h3.g,?_,?_⟩
 ·have:=h.l;have:=h2.l;have:=h3.l;omega
 ·have:=h.w;have:=h2.w;have:=h3.w;omega
def FR (R:Rd) (L:Nat):Prop:=∀(o least:Nat) (ts:List PTok),TG ts→ts.length≤L→Fi (R o least ts) fun e r=>Lf ts r 0 e.bulk∧e.Rng
variable {R:Rd} {L:Nat}
theorem q3z (hR:FR R L) (o:Nat):∀(n:Nat) (ts:List PTok),TG ts→ts.length<n→ts.length≤L→Fi (qc4 R o n ts) fun l r=>Lf ts r 0 (PExpr.bulkL l)∧∀e∈l,e.Rng
 |0,_,_,h,_=>by omega
 |n+1,ts,hg,hn,hL=>by
  refine Fi.bind (Fi.mono (hR o 1 ts hg hL) fun e r h=> ?_)
  obtain⟨h,he⟩:=h
  refine Fi.has (f:=fun ts=>(qc4 R o n ts).bind fun l ts=> .ok (e::l) ts) (g:=fun ts=> .ok [e] ts) h.g (fun r2 h2=> ?_) ?_
  ·have:=h.l;have:=h2.l
   refine Fi.bind (Fi.mono (q3z hR o n r2 h2.g (by omega) (by omega)) fun l r3 h3=> ?_)
   obtain⟨h3,hl⟩:=h3
   refine⟨⟨h3.g,?_,?_⟩,fun x hx=> ?_⟩
   ·have:=h3.l;omega
   ·have:=h.w;have:=h2.w;have:=h3.w;simp only[PExpr.bulkL];omega
   ·rcases we.1 hx with rfl|hx
    ·exact he
    ·exact hl x hx
  ·exact⟨⟨h.g,h.l,by have:=h.w;simp only[PExpr.bulkL];omega⟩,fun x hx=>by rw[wc.1 hx];exact he⟩
theorem pArmL_f (hR:FR R L) (o:Nat):∀(n:Nat) (ts:List PTok),TG ts→ts.length<n→ts.length≤L→Fi (qdu R o n ts) fun l r=>Lf ts r 0 (sB (l.map (·.1))+PExpr.bulkL (l.map (·.2)))∧∀e∈l.map (·.2),e.Rng
 |0,_,_,h,_=>by omega
 |n+1,ts,hg,hn,hL=>by
  refine Fi.word hg fun c r0 h0=>Fi.want h0.g fun r1 h1=> ?_
  have:=h0.l;have:=h1.l;have:=h0.w;have:=h1.w
  refine Fi.bind (Fi.mono (hR o 1 r1 h1.g (by omega)) fun e r h=> ?_)
  obtain⟨h,he⟩:=h
  have:=h.l;have:=h.w
  refine Fi.has (f:=fun ts=>(qdu R o n ts).bind fun l ts=> .ok ((c,e)::l) ts) (g:=fun ts=> .ok [(c,e)] ts) h.g (fun r2 h2=> ?_) ?_
  ·have:=h2.l;have:=h2.w
   refine Fi.bind (Fi.mono (pArmL_f hR o n r2 h2.g (by omega) (by omega)) fun l r3 h3=> ?_)
   obtain⟨h3,hl⟩:=h3
   have:=h3.l;have:=h3.w
   refine⟨⟨h3.g,by omega,?_⟩,fun x hx=> ?_⟩
   ·simp only[wi,qvs,PExpr.bulkL];omega
   ·rcases we.1 hx with rfl|hx
    ·exact he
    ·exact hl x hx
  ·refine⟨⟨h.g,by omega,?_⟩,fun x hx=>by rw[wc.1 hx];exact he⟩
   have e0:sB []=0:=rfl
   simp only[wi,List.map_nil,qvs,PExpr.bulkL,e0];omega
theorem qgl (op:Int) (x:Str) (n:Int) (c:List Str) (k:List PExpr):(PExpr.mk op x n c k).bulk=x.length+sB c+PExpr.bulkL k+6:=rfl
theorem qgc {op:Int} {x:Str} {n:Int} {c:List Str} {k:List PExpr} (h1: -100≤op∧op≤100) (h2:qbr n) (h3:∀e∈k,e.Rng):(PExpr.mk op x n c k).Rng:= .mk _ _ _ _ _ ⟨by omega,by omega⟩ h2 h3
theorem qi1:qbr 0:=by unfold qbr;omega
theorem i64_1:qbr 1:=by unfold qbr;omega
theorem pArms_f (hR:FR R L) (o m:Nat) (op:Int) (ho: -100≤op∧op≤100) (ts:List PTok) (hg:TG ts) (hn:ts.length≤m) (hL:ts.length≤L):Fi (qkj m R o op ts) fun e r=>Lf ts r 0 e.bulk∧e.Rng:=by
 refine Fi.word hg fun x r0 h0=>Fi.want h0.g fun r1 h1=> ?_
 have:=h0.l;have:=h1.l;have:=h0.w;have:=h1.w
 refine Fi.bind (Fi.mono (pArmL_f hR o m r1 h1.g (by omega) (by omega)) fun l r2 h2=> ?_)
 obtain⟨h2,hl⟩:=h2
 refine Fi.want h2.g fun r3 h3=> ?_
 have:=h2.l;have:=h3.l;have:=h2.w;have:=h3.w
 refine⟨⟨h3.g,by omega,?_⟩,qgc ho qi1 hl⟩
 rw[qgl];omega
theorem pCall_f (hR:FR R L) (o m:Nat) (x:Str) (ts:List PTok) (hg:TG ts) (hn:ts.length<m) (hL:ts.length≤L):Fi (qjq m R o x ts) fun e r=>tW r+e.bulk≤tW ts+x.length+16∧r.length≤ts.length∧TG r∧e.Rng:=by
 refine Fi.bind (Fi.mono (Q':=fun l r=>Lf ts r 0 (sB l)) ?_ fun c r h=> ?_)
 ·split
  ·exact Fi.mono (qop m _ _ ts hg hn) fun l r h=>⟨h.g,by have:=h.l;omega,by have:=h.w;omega⟩
  ·exact Lf.refl hg
 ·refine Fi.want h.g fun r1 h1=> ?_
  have:=h.l;have:=h1.l;have:=h.w;have:=h1.w
  refine Fi.bind (Fi.mono (q3z hR o m r1 h1.g (by omega) (by omega)) fun l r2 h2=> ?_)
  obtain⟨h2,hl⟩:=h2
  refine Fi.want h2.g fun r3 h3=> ?_
  have:=h2.l;have:=h3.l;have:=h2.w;have:=h3.w
  refine⟨?_,by omega,h3.g,qgc (by omega) qi1 hl⟩
  rw[qgl];omega
def EP (ts:List PTok):PExpr→List PTok→Prop:=fun e r=>Lf ts r 0 e.bulk∧e.Rng
theorem pAtom_f (o m:Nat) (ts:List PTok) (hg:TG ts) (hn:ts.length≤m) (hR:FR R (ts.length-1)):Fi (qhj m R o ts) (EP ts):=by
 have hk:∀e∈([]:List PExpr),e.Rng:=fun e h=>by cases h
 unfold qhj
 split
 ·cases ts with
  |nil=>rename_i h;simp[qd6]at h
  |cons t r=>
   refine⟨⟨qjv hg,by simp,?_⟩,qgc (by omega) (hg t (by simp)) hk⟩
   rw[qjw];simp only[eInt,qgl,PExpr.bulkL,sB,qby,wb];omega
 split
 ·cases ts with
  |nil=>rename_i h;simp[qd6]at h
  |cons t r=>
   refine⟨⟨qjv hg,by simp,?_⟩,qgc (by omega) qi1 hk⟩
   rw[qjw];simp only[eCon,qgl,PExpr.bulkL,sB,qby];omega
 split
 ·cases ts with
  |nil=>rename_i h;simp[qd6]at h
  |cons t r=>
   simp only
   split
   ·simp only[wa]at hn hR
    refine Fi.mono (pCall_f hR o m t.text r (qjv hg) (by omega) (by omega)) fun e r2 h=>⟨⟨h.2.2.1,by have:=h.2.1;simp only[wa];omega,by have:=h.1;rw[qjw];omega⟩,h.2.2.2⟩
   ·refine⟨⟨qjv hg,by simp,?_⟩,qgc (by omega) qi1 hk⟩
    rw[qjw];simp only[eVar,qgl,PExpr.bulkL,sB,qby];omega
 have bz:∀n:Int,(qvd n).bulk=6:=fun n=>rfl
 refine Fi.hs hg (fun h=>show EP ts (qvd 1) _ from⟨⟨h.g,by have:=h.l;omega,by have:=h.w;rw[bz];omega⟩,qgc (by omega) i64_1 hk⟩) ?_
 refine Fi.hs hg (fun h=>show EP ts (qvd 0) _ from⟨⟨h.g,by have:=h.l;omega,by have:=h.w;rw[bz];omega⟩,qgc (by omega) qi1 hk⟩) ?_
 have am:∀(s:Str) (op:Int),(-100≤op∧op≤100)→∀r,Lf ts r 1 (s.length+16)→Fi (qkj m R o op r) (EP ts):=fun s op ho r h=>
  Fi.mono (pArms_f hR o m op ho r h.g (by have:=h.l;omega) (by have:=h.l;omega)) fun e r2 h2=>⟨⟨h2.1.g,by have:=h.l;have:=h2.1.l;omega,by have:=h.w;have:=h2.1.w;omega⟩,h2.2⟩
 refine Fi.hs hg (am _ 12 (by omega) _) ?_
 refine Fi.hs hg (am _ 13 (by omega) _) ?_
 refine Fi.want hg fun r h=>Fi.bind (Fi.mono (hR o 1 r h.g (by have:=h.l;omega)) fun e r2 h2=>Fi.want h2.1.g fun r3 h3=> ?_)
 exact⟨⟨h3.g,by have:=h.l;have:=h2.1.l;have:=h3.l;omega,by have:=h.w;have:=h2.1.w;have:=h3.w;omega⟩,h2.2⟩
theorem pWhen_f:∀(n:Nat) (e:PExpr) (ts:List PTok),TG ts→ts.length<n→e.Rng→Fi (qdf n e ts) fun x r=>TG r∧r.length≤ts.length∧x.bulk+tW r≤e.bulk+tW ts∧x.Rng
 |0,_,_,_,h,_=>by omega
 |n+1,e,ts,hg,hn,he=>by
  refine Fi.has (f:=fun ts=>qef 2 ts fun c ts=>qav [40] ts fun ts=>qef 1 ts fun x ts=>qav [41] ts fun ts=>qdf n (qhi x c e) ts) (g:=fun ts=> .ok e ts) hg (fun r h=> ?_) (show Fi (PR.ok e ts) _ from⟨hg,wd _,wd _,he⟩)
  refine Fi.word h.g fun c r1 h1=>Fi.want h1.g fun r2 h2=>Fi.word h2.g fun x r3 h3=>Fi.want h3.g fun r4 h4=> ?_
  have:=h.l;have:=h1.l;have:=h2.l;have:=h3.l;have:=h4.l;have:=h.w;have:=h1.w;have:=h2.w;have:=h3.w;have:=h4.w
  refine Fi.mono (pWhen_f n _ r4 h4.g (by omega) (qgc (by omega) qi1 (fun k hk=>by rw[wc.1 hk];exact he))) fun z r5 h5=> ?_
  obtain⟨g5,l5,w5,q5⟩:=h5
  have e0:sB []=0:=rfl
  simp only[qhi,qgl,qvs,PExpr.bulkL,e0]at w5
  exact⟨g5,by omega,by omega,q5⟩
theorem rng1 {a:PExpr} (h:a.Rng):∀e∈[a],e.Rng:=fun e he=>by rw[wc.1 he];exact h
theorem rng2 {a b:PExpr} (h:a.Rng) (k:b.Rng):∀e∈[a,b],e.Rng:=fun e he=>by
 rcases we.1 he with rfl|he
 ·exact h
 ·exact rng1 k e he
theorem rng3 {a b c:PExpr} (h:a.Rng) (k:b.Rng) (l:c.Rng):∀e∈[a,b,c],e.Rng:=fun e he=>by
 rcases we.1 he with rfl|he
 ·exact h
 ·exact rng2 k l e he
theorem qoq:sB []=0:=rfl
theorem q64 (o m:Nat) (ts:List PTok) (hg:TG ts) (hn:ts.length<m) (hR:FR R (ts.length-1)):Fi (qdz m R o ts) (EP ts):=by
 refine Fi.bind (Fi.mono (pAtom_f o m ts hg (by omega) hR) fun e r h=> ?_)
 obtain⟨h,he⟩:=h
 have:=h.l;have:=h.w
 refine Fi.bind (Fi.mono (Q':=EP ts) ?_ fun e2 r2 h2=> ?_)
 ·split
  ·rename_i hc
   simp only[wf]at hc
   cases r with
   |nil=>simp[hasS]at hc
   |cons t r=>
    simp only[hasS,qr7,wf,beq_iff_eq]at hc
    have e6:tW (t::r)=5+16+tW r:=by rw[qjw,hc.2.2];rfl
    simp only[wa]at*
    refine Fi.bind (Fi.mono (hR o 0 r (qjv h.g) (by omega)) fun k r3 h3=> ?_)
    obtain⟨h3,hk⟩:=h3
    have:=h3.l;have:=h3.w
    refine⟨⟨h3.g,by omega,?_⟩,qgc (by omega) qi1 (rng2 he hk)⟩
    simp only[qfj,qgl,PExpr.bulkL,qoq,wb];omega
  ·exact⟨h,he⟩
 ·obtain⟨h2,he2⟩:=h2
  have:=h2.l;have:=h2.w
  refine Fi.mono (pWhen_f m e2 r2 h2.g (by omega) he2) fun z r5 h5=> ?_
  obtain⟨g5,l5,w5,q5⟩:=h5
  exact⟨⟨g5,by omega,by omega⟩,q5⟩
theorem pPrefix_f (o m:Nat) (ts:List PTok) (hg:TG ts) (hn:ts.length<m) (hR:FR R (ts.length-1)):Fi (qfo m R o ts) (EP ts):=by
 have un:∀(s:Str) (r:List PTok),Lf ts r 1 (s.length+16)→Fi ((R o 0 r).bind fun k ts=> .ok (eUn s k) ts) (EP ts):=fun s r h=>by
  have:=h.l;have:=h.w
  refine Fi.bind (Fi.mono (hR o 0 _ h.g (by omega)) fun k r2 h2=> ?_)
  obtain⟨h2,hk⟩:=h2
  have:=h2.l;have:=h2.w
  refine⟨⟨h2.g,by omega,?_⟩,qgc (by omega) qi1 (rng1 hk)⟩
  simp only[eUn,qgl,PExpr.bulkL,qoq];omega
 unfold qfo
 refine Fi.hs hg (fun h=>un _ _ h) ?_
 refine Fi.hs hg (fun h=>un _ _ h) ?_
 refine Fi.hs hg (fun h=> ?_) ?_
 ·have:=h.l;have:=h.w
  refine Fi.bind (Fi.mono (hR o 0 _ h.g (by omega)) fun k r2 h2=> ?_)
  obtain⟨h2,hk⟩:=h2
  have:=h2.l;have:=h2.w
  refine⟨⟨h2.g,by omega,?_⟩,qgc (by omega) qi1 (rng1 hk)⟩
  simp only[ePre,eIf,qfk,eFby,eBin,qgl,PExpr.bulkL,qoq,wb];omega
 refine Fi.hs hg (fun h=> ?_) (q64 o m ts hg hn hR)
 have:=h.l;have:=h.w
 refine Fi.bind (Fi.mono (hR o 1 _ h.g (by omega)) fun a r1 h1=> ?_)
 obtain⟨h1,ha⟩:=h1
 refine Fi.want h1.g fun r2 h2=> ?_
 have:=h1.l;have:=h1.w;have:=h2.l;have:=h2.w
 refine Fi.bind (Fi.mono (hR o 1 r2 h2.g (by omega)) fun b r3 h3=> ?_)
 obtain⟨h3,hb⟩:=h3
 refine Fi.want h3.g fun r4 h4=> ?_
 have:=h3.l;have:=h3.w;have:=h4.l;have:=h4.w
 refine Fi.bind (Fi.mono (hR o 1 r4 h4.g (by omega)) fun c r5 h5=> ?_)
 obtain⟨h5,hc⟩:=h5
 have:=h5.l;have:=h5.w
 refine⟨⟨h5.g,by omega,?_⟩,qgc (by omega) qi1 (rng3 ha hb hc)⟩
 simp only[ePre,eIf,qfk,eFby,eBin,qgl,PExpr.bulkL,qoq,wb];omega
theorem bind_tok {ts:List PTok} (h:qa7 (qaw ts)≠0):∃t r,ts=t::r∧qaw ts=t.text:=by
 cases ts with
 |nil=>exact absurd rfl h
 |cons t r=>
  refine⟨t,r,rfl,?_⟩
  simp only[qaw]at h ⊢
  split
  ·rfl
  ·rename_i hq;rw[if_neg hq]at h;exact absurd rfl h
theorem qzz (hR:FR R L) (o least:Nat) (hl:0<least):∀(n most:Nat) (left:PExpr) (ts:List PTok),TG ts→ts.length<n→ts.length≤L+1→left.Rng→Fi (qd7 R o least n most left ts) fun x r=>TG r∧r.length≤ts.length∧x.bulk+tW r≤left.bulk+tW ts∧x.Rng
 |0,_,_,_,_,h,_,_=>by omega
 |n+1,most,left,ts,hg,hn,hL,he=>by
  simp only[qd7]
  split
  ·exact⟨hg,wd _,wd _,he⟩
  ·rename_i hc
   have hb:qa7 (qaw ts)≠0:=by omega
   obtain⟨t,r,rfl,hs⟩:=bind_tok hb
   have ew:=qjw t r
   simp only[wa]at hn hL ⊢
   simp only[wh]
   have hg':=qjv hg
   split
   ·refine Fi.bind (Fi.mono (hR o 1 r hg' (by omega)) fun k r2 h2=> ?_)
    obtain⟨h2,hk⟩:=h2
    have:=h2.l;have:=h2.w
    refine⟨h2.g,by omega,?_,qgc (by omega) qi1 (rng2 he hk)⟩
    simp only[ePre,eIf,qfk,eFby,eBin,qgl,PExpr.bulkL,qoq,wb];omega
   split
   ·refine Fi.bind (Fi.mono (hR o 2 r hg' (by omega)) fun k r2 h2=> ?_)
    obtain⟨h2,hk⟩:=h2
    have:=h2.l;have:=h2.w
    refine Fi.mono (qzz hR o least hl n 1 _ r2 h2.g (by omega) (by omega) (qgc (by omega) qi1 (rng2 he hk))) fun z r5 h5=> ?_
    obtain⟨g5,l5,w5,q5⟩:=h5
    simp only[ePre,eIf,qfk,eFby,eBin,qgl,PExpr.bulkL,qoq,wb]at w5
    exact⟨g5,by omega,by omega,q5⟩
   ·refine Fi.bind (Fi.mono (hR o _ r hg' (by omega)) fun k r2 h2=> ?_)
    obtain⟨h2,hk⟩:=h2
    have:=h2.l;have:=h2.w
    refine Fi.mono (qzz hR o least hl n _ _ r2 h2.g (by omega) (by omega) (qgc (by omega) qi1 (rng2 he hk))) fun z r5 h5=> ?_
    obtain⟨g5,l5,w5,q5⟩:=h5
    rw[hs]at w5
    simp only[ePre,eIf,qfk,eFby,eBin,qgl,PExpr.bulkL,qoq,wb]at w5
    exact⟨g5,by omega,by omega,q5⟩
theorem pE_f:∀(n o least:Nat) (ts:List PTok),TG ts→2*ts.length+(if least=0 then 1 else 2)≤n→Fi (pE n o least ts) (EP ts)
 |0,o,least,ts,hg,hn=>by split at hn<;>omega
 |n+1,o,least,ts,hg,hn=>by
  have hR:∀L,2*L+2≤n→FR (pE n) L:=fun L hL o least ts hg h=>pE_f n o least ts hg (by split<;>omega)
  simp only[pE]
  split
  ·rename_i h0
   rw[if_pos h0]at hn
   split
   ·exact(show(9:Int)≠0 by decide)
   ·cases ts with
    |nil=>
     have e:∀m,qfo m (pE n) (o+1) []= .bad 3 []:=fun m=>rfl
     rw[e];exact(show(3:Int)≠0 by decide)
    |cons t r=>
     simp only[wa]at hn
     exact pPrefix_f (o+1) n _ hg (by simp only[wa];omega) (hR _ (by simp only[wa];omega))
  ·rename_i h0
   rw[if_neg h0]at hn
   cases ts with
   |nil=>
    obtain⟨n,rfl⟩:∃k,n=k+1:=⟨n-1,by omega⟩
    have e:∃x,pE (n+1) o 0 []= .bad x []∧x≠0:=by
     simp only[pE,if_true]
     split
     ·exact⟨_,rfl,by decide⟩
     ·exact⟨3,rfl,by decide⟩
    obtain⟨x,e,hx⟩:=e
    rw[e];exact hx
   |cons t0 r0=>
   generalize hts:t0::r0=ts at*
   have hne:1≤ts.length:=by rw[←hts];simp
   refine Fi.bind (Fi.mono (pE_f n o 0 ts hg (by rw[if_pos rfl];omega)) fun e r h=> ?_)
   obtain⟨h,he⟩:=h
   have:=h.l;have:=h.w
   refine Fi.mono (qzz (hR (ts.length-1) (by omega)) o least (by omega) n 7 e r h.g (by omega) (by omega) he) fun z r5 h5=> ?_
   obtain⟨g5,l5,w5,q5⟩:=h5
   exact⟨⟨g5,by omega,by omega⟩,q5⟩
end Go.Ab
namespace Go.Ab
open Go Go.Ab.Tab
theorem lex_n (s:Str):0≤(lexT s).1.n∧(lexT s).1.n≤9223372036854775807:=by
 cases s with
 |nil=>exact⟨wj _,by decide⟩
 |cons c r=>
  simp only[lexT]
  split
  ·simp only[numT]
   split
   ·rename_i h;unfold maxI at h;omega
   ·omega
  split
  ·simp only[qny];omega
  ·unfold qpo
   split<;>simp only[noTok]<;>omega
theorem q08 (text:Str):∀(f k:Nat) (l:List PTok) (p:Nat),k≤text.length→qcn text f k=(some l,p)→(∃q e,l=q++[e]∧e.sort=6)∧l.length+k≤text.length+1∧(∀t∈l,0≤t.n∧t.n≤9223372036854775807)∧tW l+17*k≤17*text.length+16
 |0,k,l,p,_,h=>by simp[qcn]at h
 |f+1,k,l,p,hk,h=>by
  have hgl:=qzw false (text.drop k)
  rw[wg]at hgl
  simp only[qcn]at h
  generalize hg:gapS false (text.drop k)=g at*
  split at h
  ·rename_i he
   simp only[Prod.mk.injEq,Option.some.injEq]at h
   obtain⟨rfl,_⟩:=h
   refine⟨⟨[],_,rfl,rfl⟩,by simp only[List.length_singleton];omega,fun t ht=> ?_,?_⟩
   ·rw[wc.1 ht];exact⟨wj _,(by decide:(0:Int)≤9223372036854775807)⟩
   ·have e:tW [atP text (k+g) endT]=16:=rfl
    rw[e];omega
  ·rename_i he
   split at h
   ·rename_i hl
    obtain⟨h1,h2⟩:=qzv hl
    rw[wg]at h2
    have hn:=lex_n (text.drop (k+g))
    generalize(lexT (text.drop (k+g))).1=t0 at*
    have hk2:k+g+t0.text.length≤text.length:=by omega
    split at h
    ·rename_i l2 p2 hs
     simp only[Prod.mk.injEq,Option.some.injEq]at h
     obtain⟨rfl,rfl⟩:=h
     obtain⟨⟨q,e,hq,h6⟩,hb,hc,hw⟩:=q08 text f _ l2 p2 hk2 hs
     refine⟨⟨_::q,e,by rw[hq];rfl,h6⟩,by simp only[wa];omega,fun t ht=> ?_,?_⟩
     ·rcases we.1 ht with rfl|ht
      ·exact hn
      ·exact hc t ht
     ·have e:tW (atP text (k+g) t0::l2)=t0.text.length+16+tW l2:=rfl
      rw[e];omega
    ·cases h
   ·cases h
theorem scan_ok {text:Str} (hT:text.length≤65536) {l:List PTok} {p:Nat} (h:qcn text (text.length+1) 0=(some l,p)):TsOk l∧TG l∧tW l≤1114128:=by
 obtain⟨h1,h2,h3,h4⟩:=q08 text _ 0 l p (Nat.zero_le _) h
 exact⟨⟨h1,by omega⟩,fun t ht=>by have:=h3 t ht;exact⟨by omega,this.2⟩,by omega⟩
end Go.Ab
