/- What is told of an expression that may be is read as that expression. -/
import Derived.Test.YtngklkmeknmloaaGreatDoorAbPSpec
import Derived.Test.YtngklkmeknmloaaGreatDoorAbTok
import Derived.Test.YtngklkmeknmloaaGreatDoorAbEffB
set_option linter.unusedSimpArgs false
set_option linter.unusedVariables false
set_option maxRecDepth 100000
set_option maxHeartbeats 4000000
open List renaming eq_nil_of_length_eq_zero→wa,mem_cons→wb,not_mem_nil→wc,length_nil→wd,map_cons→wg
open Bool renaming and_false→we
namespace Go.Ab
open Go Go.Ab.Tab
mutual
def nd:PExpr→Nat
 | .mk _ _ _ _ ks=>ndL ks+1
def ndL:List PExpr→Nat
 |[]=>0
 |k::r=>max (nd k) (ndL r)
end
theorem nd_le {k:PExpr}:∀{l:List PExpr},k∈l→nd k≤ndL l
 |x::r,h=>by
  simp only[ndL]
  rcases wb.1 h with rfl|h
  ·omega
  ·have:=nd_le h;omega
theorem qgy (k:PExpr):1≤nd k:=by cases k;simp only[nd];omega
def stopA (r:List PTok):Prop:=hasS [91] r=false∧hasS [40] r=false
def stopU (r:List PTok):Prop:=stopA r∧hasS [119,104,101,110] r=false∧hasS [101,118,101,114,121] r=false
def qkv (r:List PTok):Prop:=stopU r∧qa2 (qap r)=0
def noPre (ts:List PTok):Prop:=∀m R o,qe7 m R o ts=qdl m R o ts
def Back (e:PExpr):Prop:=∀o r,o+2*nd e≤102→stopA r→Ev (fun m n=>qgx m (pE n) o (toks e.words++r)) (.ok e r)
def Fst (e:PExpr):Prop:=∀r,noPre (toks e.words++r)
theorem Ev.paren {o:Nat} {ts r:List PTok} {e:PExpr} (h:Ev (fun _ n=>pE n o 1 ts) (.ok e (tokW [41]::r))):Ev (fun m n=>qgx m (pE n) o (tokW [40]::ts)) (.ok e r):=
 Ev.congr (g:=fun _ n=>(pE n o 1 ts).bind fun e ts=>qbi [41] ts fun ts=> .ok e ts) (fun _ _=>rfl) (Ev.bind (k:=fun _ _ e ts=>qbi [41] ts fun ts=> .ok e ts) h (Ev.pure fun _ _=>rfl))
theorem Ev.when0 {e:PExpr} {r:List PTok} (hw:hasS [119,104,101,110] r=false):Ev (fun m _=>qc2 m e r) (.ok e r):=
 Ev.succ (g:=fun _ _=> .ok e r) (fun m n=>by simp only[qc2,hw];rfl) (Ev.pure fun _ _=>rfl)
theorem Ev.sampled {o:Nat} {ts r:List PTok} {e:PExpr} (h:Ev (fun m n=>qgx m (pE n) o ts) (.ok e r)) (hw:hasS [119,104,101,110] r=false) (he:hasS [101,118,101,114,121] r=false):Ev (fun m n=>qdl m (pE n) o ts) (.ok e r):=by
 unfold qdl
 refine Ev.bind (f:=fun m n=>qgx m (pE n) o ts) (k:=fun m n e ts=>(if e.op==14 && hasS [101,118,101,114,121] ts then(pE n o 0 ts.tail).bind fun k ts=> .ok (qe1 e k) ts else .ok e ts).bind fun e ts=>qc2 m e ts) h ?_
 refine Ev.congr (g:=fun m _=>qc2 m e r) (fun m n=> ?_) (Ev.when0 hw)
 simp only[he,we];rfl
theorem Ev.unary {o:Nat} {ts:List PTok} {x:PR PExpr} (h:Ev (fun m n=>qdl m (pE n) (o+1) ts) x) (hf:noPre ts) (ho:o<100):Ev (fun _ n=>pE n o 0 ts) x:=
 Ev.un ho (Ev.congr (fun m n=>hf m (pE n) (o+1)) h)
theorem Ev.loop0 {o least most:Nat} {e:PExpr} {r:List PTok} (hl:least≠0) (hs:qa2 (qap r)=0):Ev (fun m n=>qcm (pE n) o least m most e r) (.ok e r):=
 Ev.succ (g:=fun _ _=> .ok e r) (fun m n=>by
  simp only[qcm,hs]
  rw[if_pos (by omega)]) (Ev.pure fun _ _=>rfl)
theorem Ev.infStop {o least:Nat} {ts r:List PTok} {e:PExpr} (hl:least≠0) (h:Ev (fun _ n=>pE n o 0 ts) (.ok e r)) (hs:qa2 (qap r)=0):Ev (fun _ n=>pE n o least ts) (.ok e r):=
 Ev.inf hl h (Ev.loop0 hl hs)
theorem Back.unary {k:PExpr} (hb:Back k) (hf:Fst k) {o:Nat} {r:List PTok} (h:o+1+2*nd k≤102) (ho:o<100) (hs:stopU r):Ev (fun _ n=>pE n o 0 (toks k.words++r)) (.ok k r):=
 Ev.unary (Ev.sampled (hb (o+1) r h hs.1) hs.2.1 hs.2.2) (hf r) ho
theorem Back.inf {k:PExpr} (hb:Back k) (hf:Fst k) {o least:Nat} {r:List PTok} (hl:least≠0) (h:o+1+2*nd k≤102) (ho:o<100) (hs:qkv r):Ev (fun _ n=>pE n o least (toks k.words++r)) (.ok k r):=
 Ev.infStop hl (hb.unary hf h ho hs.1) hs.2
theorem qh3 (r:List PTok):qkv (tokW [41]::r):=⟨⟨⟨rfl,rfl⟩,rfl,rfl⟩,rfl⟩
theorem q44 (r:List PTok):qkv (tokW [44]::r):=⟨⟨⟨rfl,rfl⟩,rfl,rfl⟩,rfl⟩
theorem stop_bar (r:List PTok):qkv (tokW [124]::r):=⟨⟨⟨rfl,rfl⟩,rfl,rfl⟩,rfl⟩
theorem stop_then (r:List PTok):qkv (tokW [116,104,101,110]::r):=⟨⟨⟨rfl,rfl⟩,rfl,rfl⟩,rfl⟩
theorem stop_else (r:List PTok):qkv (tokW [101,108,115,101]::r):=⟨⟨⟨rfl,rfl⟩,rfl,rfl⟩,rfl⟩
theorem stop_bin {s:Str} (h:s∈binL) (r:List PTok):stopU (tokW s::r):=by
 simp only[binL,wb,wc,or_false]at h
 rcases h with rfl|rfl|rfl|rfl|rfl|rfl|rfl|rfl|rfl|rfl|rfl<;>exact⟨⟨rfl,rfl⟩,rfl,rfl⟩
theorem bin_bind {s:Str} (h:s∈binL) (r:List PTok):qap (tokW s::r)=s∧3≤qa2 s∧qa2 s≤7:=by
 simp only[binL,wb,wc,or_false]at h
 rcases h with rfl|rfl|rfl|rfl|rfl|rfl|rfl|rfl|rfl|rfl|rfl<;>exact⟨rfl,by decide,by decide⟩
theorem tw1 (w:Str) (l:List Str) (r:List PTok):toks (w::l)++r=tokW w::(toks l++r):=rfl
theorem tw0 (r:List PTok):toks []++r=r:=rfl
theorem twa (a b:List Str) (r:List PTok):toks (a++b)++r=toks a++(toks b++r):=by rw[q1h,List.append_assoc]
theorem back_un (s:Str) (k:PExpr) (hs:s∈unL) (hb:Back k) (hf:Fst k):Back (eUn s k):=by
 intro o r hd _
 have p_k:=qgy k
 have hn:nd (eUn s k)=nd k+1:=by simp only[eUn,nd,ndL];omega
 have hw:(eUn s k).words=[[40],s]++k.words++[[41]]:=by rw[qas];rfl
 rw[hw];simp only[twa,tw1,tw0]
 refine Ev.paren (Ev.infStop (by decide) (Ev.un (by omega) ?_) rfl)
 have hk:Ev (fun _ n=>pE n (o+1) 0 (toks k.words++tokW [41]::r)) (.ok k (tokW [41]::r)):=hb.unary hf (by omega) (by omega) (qh3 r).1
 simp only[unL,wb,wc,or_false]at hs
 rcases hs with rfl|rfl
 ·exact Ev.congr (g:=fun _ n=>(pE n (o+1) 0 (toks k.words++tokW [41]::r)).bind fun k ts=> .ok (eUn [110,111,116] k) ts) (fun _ _=>rfl) (Ev.bind (k:=fun _ _ k ts=> .ok (eUn [110,111,116] k) ts) hk (Ev.pure fun _ _=>rfl))
 ·exact Ev.congr (g:=fun _ n=>(pE n (o+1) 0 (toks k.words++tokW [41]::r)).bind fun k ts=> .ok (eUn [45] k) ts) (fun _ _=>rfl) (Ev.bind (k:=fun _ _ k ts=> .ok (eUn [45] k) ts) hk (Ev.pure fun _ _=>rfl))
theorem back_pre (k:PExpr) (hb:Back k) (hf:Fst k):Back (ePre k):=by
 intro o r hd _
 have p_k:=qgy k
 have hn:nd (ePre k)=nd k+1:=by simp only[ePre,nd,ndL];omega
 have hw:(ePre k).words=[[40],[112,114,101]]++k.words++[[41]]:=by rw[qas];rfl
 rw[hw];simp only[twa,tw1,tw0]
 refine Ev.paren (Ev.infStop (by decide) (Ev.un (by omega) ?_) rfl)
 have hk:Ev (fun _ n=>pE n (o+1) 0 (toks k.words++tokW [41]::r)) (.ok k (tokW [41]::r)):=hb.unary hf (by omega) (by omega) (qh3 r).1
 exact Ev.congr (g:=fun _ n=>(pE n (o+1) 0 (toks k.words++tokW [41]::r)).bind fun k ts=> .ok (ePre k) ts) (fun _ _=>rfl) (Ev.bind (k:=fun _ _ k ts=> .ok (ePre k) ts) hk (Ev.pure fun _ _=>rfl))
theorem back_if (a b c:PExpr) (ha:Back a) (fa:Fst a) (hb:Back b) (fb:Fst b) (hc:Back c) (fc:Fst c):Back (eIf a b c):=by
 intro o r hd _
 have p_a:=qgy a
 have p_b:=qgy b
 have p_c:=qgy c
 have hn:nd (eIf a b c)=max (nd a) (max (nd b) (nd c))+1:=by simp only[eIf,nd,ndL];omega
 have hw:(eIf a b c).words=[[40],[105,102]]++a.words++[[116,104,101,110]]++b.words++[[101,108,115,101]]++c.words++[[41]]:=by rw[qas];rfl
 rw[hw];simp only[twa,tw1,tw0]
 refine Ev.paren (Ev.infStop (by decide) (Ev.un (by omega) ?_) rfl)
 obtain⟨tc,htc⟩:∃t,t=toks c.words++tokW [41]::r:=⟨_,rfl⟩
 obtain⟨tb,htb⟩:∃t,t=toks b.words++tokW [101,108,115,101]::tc:=⟨_,rfl⟩
 have h1:Ev (fun _ n=>pE n (o+1) 1 (toks a.words++tokW [116,104,101,110]::tb)) (.ok a (tokW [116,104,101,110]::tb)):=ha.inf fa (by decide) (by omega) (by omega) (stop_then _)
 have h2:Ev (fun _ n=>pE n (o+1) 1 (toks b.words++tokW [101,108,115,101]::tc)) (.ok b (tokW [101,108,115,101]::tc)):=hb.inf fb (by decide) (by omega) (by omega) (stop_else _)
 have h3:Ev (fun _ n=>pE n (o+1) 1 (toks c.words++tokW [41]::r)) (.ok c (tokW [41]::r)):=hc.inf fc (by decide) (by omega) (by omega) (qh3 _)
 rw[←htc,←htb]
 refine Ev.congr (g:=fun _ n=>(pE n (o+1) 1 (toks a.words++tokW [116,104,101,110]::tb)).bind fun a ts=>qbi [116,104,101,110] ts fun ts=>(pE n (o+1) 1 ts).bind fun b ts=>qbi [101,108,115,101] ts fun ts=>(pE n (o+1) 1 ts).bind fun c ts=> .ok (eIf a b c) ts) (fun _ _=>rfl) ?_
 refine Ev.bind (k:=fun _ n a ts=>qbi [116,104,101,110] ts fun ts=>(pE n (o+1) 1 ts).bind fun b ts=>qbi [101,108,115,101] ts fun ts=>(pE n (o+1) 1 ts).bind fun c ts=> .ok (eIf a b c) ts) h1 ?_
 refine Ev.congr (g:=fun _ n=>(pE n (o+1) 1 tb).bind fun b ts=>qbi [101,108,115,101] ts fun ts=>(pE n (o+1) 1 ts).bind fun c ts=> .ok (eIf a b c) ts) (fun _ _=>rfl) ?_
 rw[htb]
 refine Ev.bind (k:=fun _ n b ts=>qbi [101,108,115,101] ts fun ts=>(pE n (o+1) 1 ts).bind fun c ts=> .ok (eIf a b c) ts) h2 ?_
 refine Ev.congr (g:=fun _ n=>(pE n (o+1) 1 tc).bind fun c ts=> .ok (eIf a b c) ts) (fun _ _=>rfl) ?_
 rw[htc]
 exact Ev.bind (k:=fun _ n c ts=> .ok (eIf a b c) ts) h3 (Ev.pure fun _ _=>rfl)
theorem back_bin (s:Str) (a b:PExpr) (hs:s∈binL) (ha:Back a) (fa:Fst a) (hb:Back b) (fb:Fst b):Back (eBin s a b):=by
 intro o r hd _
 have p_a:=qgy a
 have p_b:=qgy b
 have hn:nd (eBin s a b)=max (nd a) (nd b)+1:=by simp only[eBin,nd,ndL];omega
 have hw:(eBin s a b).words=[[40]]++a.words++[s]++b.words++[[41]]:=by rw[qas];rfl
 rw[hw];simp only[twa,tw1,tw0]
 obtain⟨tb,htb⟩:∃t,t=toks b.words++tokW [41]::r:=⟨_,rfl⟩
 rw[←htb]
 obtain⟨k1,k2,k3⟩:=bin_bind hs tb
 refine Ev.paren (Ev.inf (by decide) (ha.unary fa (by omega) (by omega) (stop_bin hs tb)) ?_)
 refine Ev.succ (g:=fun m n=>(pE n o (qa2 s+1) tb).bind fun r ts'=>qcm (pE n) o 1 m (if qa2 s=5 then 4 else qa2 s) (eBin s a r) ts') (fun m n=> ?_) ?_
 ·simp only[qcm,k1]
  rw[if_neg (by omega),if_neg (by omega),if_neg (by omega)];rfl
 ·rw[htb]
  exact Ev.bind (k:=fun m n r ts'=>qcm (pE n) o 1 m (if qa2 s=5 then 4 else qa2 s) (eBin s a r) ts') (hb.inf fb (by omega) (by omega) (by omega) (qh3 r)) (Ev.loop0 (by decide) rfl)
theorem back_fby (a b:PExpr) (ha:Back a) (fa:Fst a) (hb:Back b) (fb:Fst b):Back (eFby a b):=by
 intro o r hd _
 have p_a:=qgy a
 have p_b:=qgy b
 have hn:nd (eFby a b)=max (nd a) (nd b)+1:=by simp only[eFby,nd,ndL];omega
 have hw:(eFby a b).words=[[40]]++a.words++[[102,98,121]]++b.words++[[41]]:=by rw[qas];rfl
 rw[hw];simp only[twa,tw1,tw0]
 refine Ev.paren (Ev.inf (by decide) (ha.unary fa (by omega) (by omega) ⟨⟨rfl,rfl⟩,rfl,rfl⟩) ?_)
 refine Ev.succ (g:=fun m n=>(pE n o 2 (toks b.words++tokW [41]::r)).bind fun r ts'=>qcm (pE n) o 1 m 1 (eFby a r) ts') (fun m n=>rfl) ?_
 exact Ev.bind (k:=fun m n r ts'=>qcm (pE n) o 1 m 1 (eFby a r) ts') (hb.inf fb (by omega) (by omega) (by omega) (qh3 r)) (Ev.loop0 (by decide) rfl)
theorem q45 (a b:PExpr) (ha:Back a) (fa:Fst a) (hb:Back b) (fb:Fst b):Back (qd8 a b):=by
 intro o r hd _
 have p_a:=qgy a
 have p_b:=qgy b
 have hn:nd (qd8 a b)=max (nd a) (nd b)+1:=by simp only[qd8,nd,ndL];omega
 have hw:(qd8 a b).words=[[40]]++a.words++[[45,62]]++b.words++[[41]]:=by rw[qas];rfl
 rw[hw];simp only[twa,tw1,tw0]
 refine Ev.paren (Ev.inf (by decide) (ha.unary fa (by omega) (by omega) ⟨⟨rfl,rfl⟩,rfl,rfl⟩) ?_)
 refine Ev.succ (g:=fun m n=>(pE n o 1 (toks b.words++tokW [41]::r)).bind fun r ts'=> .ok (qd8 a r) ts') (fun m n=>rfl) ?_
 exact Ev.bind (k:=fun m n r ts'=> .ok (qd8 a r) ts') (hb.inf fb (by omega) (by omega) (by omega) (qh3 r)) (Ev.pure fun _ _=>rfl)
theorem q46 (a b:PExpr) (hop:a.op=14) (ha:Back a) (fa:Fst a) (hb:Back b) (fb:Fst b):Back (qe1 a b):=by
 intro o r hd _
 have p_a:=qgy a
 have p_b:=qgy b
 have hn:nd (qe1 a b)=max (nd a) (nd b)+1:=by simp only[qe1,nd,ndL];omega
 have hw:(qe1 a b).words=[[40]]++a.words++[[101,118,101,114,121]]++b.words++[[41]]:=by rw[qas];rfl
 rw[hw];simp only[twa,tw1,tw0]
 refine Ev.paren (Ev.infStop (by decide) (Ev.unary ?_ (fa _) (by omega)) rfl)
 unfold qdl
 refine Ev.bind (f:=fun m n=>qgx m (pE n) (o+1) _) (k:=fun m n e ts=>(if e.op==14 && hasS [101,118,101,114,121] ts then(pE n (o+1) 0 ts.tail).bind fun k ts=> .ok (qe1 e k) ts else .ok e ts).bind fun e ts=>qc2 m e ts) (ha (o+1) _ (by omega) ⟨rfl,rfl⟩) ?_
 refine Ev.congr (g:=fun m n=>((pE n (o+1) 0 (toks b.words++tokW [41]::r)).bind fun k ts=> .ok (qe1 a k) ts).bind fun e ts=>qc2 m e ts) (fun m n=> ?_) ?_
 ·simp only[hop];rfl
 ·refine Ev.bind (k:=fun m _ e ts=>qc2 m e ts) (f:=fun _ n=>(pE n (o+1) 0 (toks b.words++tokW [41]::r)).bind fun k ts=> .ok (qe1 a k) ts) ?_ (Ev.when0 rfl)
  exact Ev.bind (k:=fun _ _ k ts=> .ok (qe1 a k) ts) (hb.unary fb (by omega) (by omega) (qh3 r).1) (Ev.pure fun _ _=>rfl)
theorem back_when (x c:Str) (k:PExpr) (hx:qcf x=true) (hc:qfb c=true) (hb:Back k) (hf:Fst k):Back (qgw x c k):=by
 intro o r hd _
 have p_k:=qgy k
 have hn:nd (qgw x c k)=nd k+1:=by simp only[qgw,nd,ndL];omega
 have hw:(qgw x c k).words=[[40]]++k.words++[[119,104,101,110]]++[c]++[[40],x,[41],[41]]:=by rw[qas];rfl
 rw[hw];simp only[twa,tw1,tw0]
 refine Ev.paren (Ev.infStop (by decide) (Ev.unary ?_ (hf _) (by omega)) rfl)
 unfold qdl
 refine Ev.bind (f:=fun m n=>qgx m (pE n) (o+1) _) (k:=fun m n e ts=>(if e.op==14 && hasS [101,118,101,114,121] ts then(pE n (o+1) 0 ts.tail).bind fun k ts=> .ok (qe1 e k) ts else .ok e ts).bind fun e ts=>qc2 m e ts) (hb (o+1) _ (by omega) ⟨rfl,rfl⟩) ?_
 rw[qil hx,qpr hc]
 refine Ev.congr (g:=fun m n=>qc2 m k (tokW [119,104,101,110]::⟨2,c,0,0,0⟩::tokW [40]::⟨1,x,0,0,0⟩::tokW [41]::tokW [41]::r)) (fun m n=> ?_) ?_
 ·have:hasS [101,118,101,114,121] (tokW [119,104,101,110]::⟨2,c,0,0,0⟩::tokW [40]::⟨1,x,0,0,0⟩::tokW [41]::tokW [41]::r)=false:=rfl
  simp only[this,we];rfl
 ·exact Ev.succ (g:=fun m _=>qc2 m (qgw x c k) (tokW [41]::r)) (fun m n=>rfl) (Ev.when0 rfl)
theorem strs_back (sort:Int) (sep:Str) (hsep:hasS sep (tokW sep::[])=true) (l:List Str) (hl:l≠[]) (ht:∀x∈l,tokW x=⟨sort,x,0,0,0⟩) (r:List PTok) (hr:hasS sep r=false):Ev (fun m _=>qe2 sort sep m (toks (qer l sep)++r)) (.ok l r):=by
 induction l with
 |nil=>exact absurd rfl hl
 |cons x q ih=>
  cases q with
  |nil=>
   have hw:qer [x] sep=[x]:=by simp[qer,sepW]
   rw[hw];simp only[tw1,tw0,ht x (by simp)]
   refine Ev.succ (g:=fun _ _=> .ok [x] r) (fun m _=> ?_) (Ev.pure fun _ _=>rfl)
   simp only[qe2,qeq,beq_self_eq_true,if_true,hr];rfl
  |cons y q=>
   have hw:qer (x::y::q) sep=x::sep::qer (y::q) sep:=by simp[qer,sepW]
   rw[hw];simp only[tw1,ht x (by simp)]
   have hs:∀t,hasS sep (tokW sep::t)=true:=fun t=>hsep
   refine Ev.succ (g:=fun m _=>(qe2 sort sep m (toks (qer (y::q) sep)++r)).bind fun l ts=> .ok (x::l) ts) (fun m _=> ?_) ?_
   ·simp only[qe2,qeq,beq_self_eq_true,if_true,hs,List.tail_cons]
   ·exact Ev.bind (k:=fun _ _ l ts=> .ok (x::l) ts) (ih (by simp) (fun z hz=>ht z (by simp[hz]))) (Ev.pure fun _ _=>rfl)
theorem q1l (s:Str) (x y:List Str) (r:List (List Str)):sepW s (x::y::r)=x++s::sepW s (y::r):=by simp[sepW]
theorem q47 (o:Nat) (kids:List PExpr) (hk:kids≠[]) (hb:∀k∈kids,Back k∧Fst k) (ho:o<100) (hd:o+1+2*ndL kids≤102) (r:List PTok):Ev (fun m n=>qcu (pE n) o m (toks (sepW [44] (kids.map PExpr.words))++tokW [41]::r)) (.ok kids (tokW [41]::r)):=by
 induction kids with
 |nil=>exact absurd rfl hk
 |cons x q ih=>
  obtain⟨bx,fx⟩:=hb x (by simp)
  simp only[ndL]at hd
  cases q with
  |nil=>
   have hw:sepW [44] ([x].map PExpr.words)=x.words:=by simp[sepW]
   rw[hw]
   refine Ev.succ (g:=fun m n=>(pE n o 1 (toks x.words++tokW [41]::r)).bind fun e ts=>if hasS [44] ts=true then(qcu (pE n) o m ts.tail).bind fun l ts=> .ok (e::l) ts else .ok [e] ts) (fun m n=>rfl) ?_
   exact Ev.bind (k:=fun m n e ts=>if hasS [44] ts=true then(qcu (pE n) o m ts.tail).bind fun l ts=> .ok (e::l) ts else .ok [e] ts) (bx.inf fx (by decide) (by omega) ho (qh3 r)) (Ev.pure fun _ _=>rfl)
  |cons y q=>
   have hw:sepW [44] ((x::y::q).map PExpr.words)=x.words++[44]::sepW [44] ((y::q).map PExpr.words):=by simp only[wg,q1l]
   rw[hw,twa,tw1]
   refine Ev.succ (g:=fun m n=>(pE n o 1 (toks x.words++tokW [44]::(toks (sepW [44] ((y::q).map PExpr.words))++tokW [41]::r))).bind fun e ts=>if hasS [44] ts=true then(qcu (pE n) o m ts.tail).bind fun l ts=> .ok (e::l) ts else .ok [e] ts) (fun m n=>rfl) ?_
   refine Ev.bind (k:=fun m n e ts=>if hasS [44] ts=true then(qcu (pE n) o m ts.tail).bind fun l ts=> .ok (e::l) ts else .ok [e] ts) (bx.inf fx (by decide) (by omega) ho (q44 _)) ?_
   refine Ev.congr (g:=fun m n=>(qcu (pE n) o m (toks (sepW [44] ((y::q).map PExpr.words))++tokW [41]::r)).bind fun l ts=> .ok (x::l) ts) (fun m n=>rfl) ?_
   exact Ev.bind (k:=fun _ _ l ts=> .ok (x::l) ts) (ih (by simp) (fun k hk=>hb k (by simp[hk])) (by omega)) (Ev.pure fun _ _=>rfl)
theorem arms_back (o:Nat) (kids:List PExpr):∀(cons:List Str),kids≠[]→cons.length=kids.length→(∀c∈cons,qfb c=true)→(∀k∈kids,Back k∧Fst k)→o<100→o+1+2*ndL kids≤102→∀(r:List PTok),
 Ev (fun m n=>qdh (pE n) o m (toks (sepW [124] (armL cons (kids.map PExpr.words)))++tokW [41]::r)) (.ok (cons.zip kids) (tokW [41]::r)):=by
 induction kids with
 |nil=>intro cons h;exact absurd rfl h
 |cons x q ih=>
  intro cons _ hl hc hb ho hd r
  obtain⟨bx,fx⟩:=hb x (by simp)
  simp only[ndL]at hd
  cases cons with
  |nil=>simp at hl
  |cons c cs=>
  have hcc:=qpr (hc c (by simp))
  cases q with
  |nil=>
   have hcs:cs=[]:=wa (by simpa using hl)
   subst hcs
   have hw:sepW [124] (armL [c] ([x].map PExpr.words))=[c,[45,62]]++x.words:=by simp[sepW,armL]
   rw[hw,twa,tw1,tw1,tw0,hcc]
   refine Ev.succ (g:=fun m n=>(pE n o 1 (toks x.words++tokW [41]::r)).bind fun e ts=>if hasS [124] ts=true then(qdh (pE n) o m ts.tail).bind fun l ts=> .ok ((c,e)::l) ts else .ok [(c,e)] ts) (fun m n=>rfl) ?_
   exact Ev.bind (k:=fun m n e ts=>if hasS [124] ts=true then(qdh (pE n) o m ts.tail).bind fun l ts=> .ok ((c,e)::l) ts else .ok [(c,e)] ts) (bx.inf fx (by decide) (by omega) ho (qh3 r)) (Ev.pure fun _ _=>rfl)
  |cons y q=>
   obtain⟨d,ds,rfl⟩:∃d ds,cs=d::ds:=by
    cases cs with
    |nil=>simp at hl
    |cons d ds=>exact⟨d,ds,rfl⟩
   have hw:sepW [124] (armL (c::d::ds) ((x::y::q).map PExpr.words))=([c,[45,62]]++x.words)++[124]::sepW [124] (armL (d::ds) ((y::q).map PExpr.words)):=by simp only[wg,armL,List.zipWith_cons_cons,q1l]
   rw[hw,twa,twa,tw1,tw1,tw1,tw0,hcc]
   refine Ev.succ (g:=fun m n=>(pE n o 1 (toks x.words++tokW [124]::(toks (sepW [124] (armL (d::ds) ((y::q).map PExpr.words)))++tokW [41]::r))).bind fun e ts=>if hasS [124] ts=true then(qdh (pE n) o m ts.tail).bind fun l ts=> .ok ((c,e)::l) ts else .ok [(c,e)] ts) (fun m n=>rfl) ?_
   refine Ev.bind (k:=fun m n e ts=>if hasS [124] ts=true then(qdh (pE n) o m ts.tail).bind fun l ts=> .ok ((c,e)::l) ts else .ok [(c,e)] ts) (bx.inf fx (by decide) (by omega) ho (stop_bar _)) ?_
   refine Ev.congr (g:=fun m n=>(qdh (pE n) o m (toks (sepW [124] (armL (d::ds) ((y::q).map PExpr.words)))++tokW [41]::r)).bind fun l ts=> .ok ((c,x)::l) ts) (fun m n=>rfl) ?_
   exact Ev.bind (k:=fun _ _ l ts=> .ok ((c,x)::l) ts) (ih (d::ds) (by simp) (by simpa using hl) (fun z hz=>hc z (by simp[hz])) (fun k hk=>hb k (by simp[hk])) ho (by omega) r) (Ev.pure fun _ _=>rfl)
theorem qy7 (op:Int) (word:Str) (hop:op=12∧word=[109,101,114,103,101]∨op=13∧word=[109,97,116,99,104]) (x:Str) (cons:List Str) (kids:List PExpr) (hx:qcf x=true) (hl:cons.length=kids.length) (h1:1≤cons.length) (hc:∀c∈cons,qfb c=true) (hb:∀k∈kids,Back k∧Fst k):Back (.mk op x 0 cons kids):=by
 intro o r hd _
 have hn:nd (.mk op x 0 cons kids)=ndL kids+1:=by simp only[nd]
 have hne:kids≠[]:=by intro e;have:=congrArg List.length e;simp only[wd]at this;omega
 have hp:1≤ndL kids:=by
  cases kids with
  |nil=>exact absurd rfl hne
  |cons k q=>cases k;simp only[ndL,nd];omega
 have hw:(PExpr.mk op x 0 cons kids).words=[word,x,[40]]++sepW [124] (armL cons (kids.map PExpr.words))++[[41]]:=by
  rw[qas];rcases hop with⟨rfl,rfl⟩|⟨rfl,rfl⟩<;>rfl
 rw[hw];simp only[twa,tw1,tw0]
 rw[qil hx]
 have key:=arms_back o kids cons hne hl hc hb (by omega) (by omega) r
 have hz1:(cons.zip kids).map (·.1)=cons:=List.map_fst_zip (by omega)
 have hz2:(cons.zip kids).map (·.2)=kids:=List.map_snd_zip (by omega)
 refine Ev.congr (g:=fun m n=>(qdh (pE n) o m (toks (sepW [124] (armL cons (kids.map PExpr.words)))++tokW [41]::r)).bind fun l ts=>qbi [41] ts fun ts=> .ok (PExpr.mk op x 0 (l.map (·.1)) (l.map (·.2))) ts) (fun m n=> ?_) ?_
 ·rcases hop with⟨rfl,rfl⟩|⟨rfl,rfl⟩<;>rfl
 ·refine Ev.bind (k:=fun _ _ l ts=>qbi [41] ts fun ts=> .ok (PExpr.mk op x 0 (l.map (·.1)) (l.map (·.2))) ts) key (Ev.pure fun _ _=> ?_)
  show PR.ok (PExpr.mk op x 0 ((cons.zip kids).map (·.1)) ((cons.zip kids).map (·.2))) r=_
  rw[hz1,hz2]
theorem back_call (x:Str) (cons:List Str) (kids:List PExpr) (hx:qcf x=true) (hc:∀c∈cons,qcf c=true) (h1:1≤kids.length) (hb:∀k∈kids,Back k∧Fst k):Back (.mk 14 x 0 cons kids):=by
 intro o r hd _
 have hn:nd (.mk 14 x 0 cons kids)=ndL kids+1:=by simp only[nd]
 have hne:kids≠[]:=by intro e;have:=congrArg List.length e;simp only[wd]at this;omega
 have hp:1≤ndL kids:=by
  cases kids with
  |nil=>exact absurd rfl hne
  |cons k q=>cases k;simp only[ndL,nd];omega
 have hw:(PExpr.mk 14 x 0 cons kids).words=[x]++brW cons++[[40]]++sepW [44] (kids.map PExpr.words)++[[41]]:=by rw[qas];rfl
 rw[hw];simp only[twa,tw1,tw0]
 rw[qil hx]
 have key:=q47 o kids hne hb (by omega) (by omega) r
 obtain⟨R,hR⟩:∃t,t=toks (sepW [44] (kids.map PExpr.words))++tokW [41]::r:=⟨_,rfl⟩
 rw[←hR]at key ⊢
 have fin:∀c,Ev (fun m n=>(qcu (pE n) o m R).bind fun l ts=>qbi [41] ts fun ts=> .ok (PExpr.mk 14 x 0 c l) ts) (.ok (PExpr.mk 14 x 0 c kids) r):=fun c=>
  Ev.bind (k:=fun _ _ l ts=>qbi [41] ts fun ts=> .ok (PExpr.mk 14 x 0 c l) ts) key (Ev.pure fun _ _=>rfl)
 by_cases h0:cons.length=0
 ·have:cons=[]:=wa h0
  subst this
  have hbr:brW []=[]:=rfl
  rw[hbr,tw0]
  exact Ev.congr (fun m n=>rfl) (fin [])
 ·have hbr:brW cons=[[91]]++qer cons [44]++[[93]]:=by unfold brW;rw[if_neg h0]
  rw[hbr];simp only[twa,tw1,tw0]
  have hs:=strs_back 1 [44] rfl cons (by intro e;rw[e]at h0;exact h0 rfl) (fun c hx=>qil (hc c hx)) (tokW [93]::tokW [40]::R) rfl
  refine Ev.congr (g:=fun m n=>((qe2 1 [44] m (toks (qer cons [44])++tokW [93]::tokW [40]::R)).bind fun l ts=>qbi [93] ts fun ts=> .ok l ts).bind fun c ts=>qbi [40] ts fun ts=>(qcu (pE n) o m ts).bind fun l ts=>qbi [41] ts fun ts=> .ok (PExpr.mk 14 x 0 c l) ts) (fun m n=>rfl) ?_
  refine Ev.bind (k:=fun m n c ts=>qbi [40] ts fun ts=>(qcu (pE n) o m ts).bind fun l ts=>qbi [41] ts fun ts=> .ok (PExpr.mk 14 x 0 c l) ts) (a:=cons) (ts:=tokW [40]::R) ?_ ?_
  ·exact Ev.bind (k:=fun _ _ l ts=>qbi [93] ts fun ts=> .ok l ts) hs (Ev.pure fun _ _=>rfl)
  ·exact Ev.congr (fun m n=>rfl) (fin cons)
theorem qe3 {e:PExpr} (g:Good e) (hr:qbl e.n):Fst e:=by
 intro r m R o
 cases g with
 |int n h=> 
  have hw:(eInt n).words=[decB n]:=by rw[qas];rfl
  rw[hw,tw1,qx6 h hr.2];rfl
 |bool n h=>rcases h with rfl|rfl<;>(rw[qas];rfl)
 |con s h=> 
  have hw:(eCon s).words=[s]:=by rw[qas];rfl
  rw[hw,tw1,qpr h];rfl
 |var s h=>
  have hw:(eVar s).words=[s]:=by rw[qas];rfl
  rw[hw,tw1,qil h];rfl
 |un s k=>rw[qas];rfl
 |bin s a b=>rw[qas];rfl
 |cond a b c=>rw[qas];rfl
 |fby a b=>rw[qas];rfl
 |pre k=>rw[qas];rfl
 |arrow a b=>rw[qas];rfl
 |when x c k=>rw[qas];rfl
 |arms op x cons kids hop=>rcases hop with rfl|rfl<;>(rw[qas];rfl)
 |call x cons kids h=>
  have hw:(PExpr.mk 14 x 0 cons kids).words=[x]++(brW cons++([[40]]++(sepW [44] (kids.map PExpr.words)++[[41]]))):=by rw[qas];simp[qmx,qms,PExpr.op,PExpr.name,PExpr.cons,PExpr.kids]
  rw[hw,twa,tw1,qil h];rfl
 |every k x=>rw[qas];rfl
end Go.Ab
