/- Functions that put a call off: more calls answer, more is answered. -/
import Derived.Test.YtlfollkhlephmaaGreatDoorAbLim
import Derived.Recover
set_option linter.unusedSimpArgs false
set_option linter.unusedVariables false
set_option maxRecDepth 100000
set_option maxHeartbeats 4000000
open Array renaming replicate→wa,toList_append→wb,length_toList→wc,getElem?_eq_getElem→we,toList_replicate→wj,getElem_toList→wk
open List renaming range'→wd,drop_eq_getElem_cons→wg,range'_succ→wh,drop_eq_nil_of_le→wi,range_eq_range'→wl
namespace Go.Ab
variable {P:Program} {cmp:List TypeId} {call:Call}
def isDef (o:Oper):Option Operand:=match o.dst,o.op,o.guard with
 |none,.defer c,none=>(match c.callee with| .value f=>if c.args.isEmpty then some f else none|_=>none)
 |_,_,_=>none
def isRec (o:Oper):Bool:=match o.op,o.guard with
 | .call c,none=>(match c.callee with| .builtin .recover=>c.args.isEmpty|_=>false)
 |_,_=>false
section
variable (P:Program)
def opsF (cmp:List TypeId) (call:Call) (ops:List Oper):List Oper→St→Option (AEx×St×Option AVal)
 |[],s=>some (.normal,s,none)
 |o::r,s=>match isDef o with
  |some f=>(match r,qab f s.tmps with
   |[],some (.func g fi ca)=>some (.normal,s,some (.func g fi ca))
   |_,_=>none)
  |none=>(match qak ops o s.tmps with
   |some true=>(match opA P cmp call o s.tmps s.heap with
    |some (.val v f)=>opsF cmp call ops r ⟨setT s.tmps o.dst v,f.of s.heap,f.dirt++s.dirty⟩
    |some (.pan v f)=>some (.pan v,⟨s.tmps,f.of s.heap,f.dirt++s.dirty⟩,none)
    |none=>none)
   |some false=>opsF cmp call ops r ⟨setT s.tmps o.dst .undef,s.heap,s.dirty⟩
   |none=>none)
def qji (x:AEx×St):Bool:=match x.1 with
 | .pan _=> !x.2.tmps.isEmpty
 |_=>true
def qcf (cmp:List TypeId) (call:Call) (lp:Lp):Code→St→Option (AEx×St×Option AVal)
 | .region _ ops false,s=>opsF P cmp call ops.toList ops.toList s
 | .seq a b,s=>match qcf cmp call lp a s with
  |some (.normal,s',none)=>qcf cmp call lp b s'
  |some (.normal,s',some v)=>(match qag P cmp call lp b s' with|some x=>if qji x then some (x.1,x.2,some v)else none|none=>none)
  |r=>r
 |c,s=>match qag P cmp call lp c s with|some x=>if qji x then some (x.1,x.2,none)else none|none=>none
def runF (cmp:List TypeId) (call:Call) (lp:Lp) (g:FuncId) (args:List AVal) (mv:Option AVal) (h:qaa):Option St:=
 match P.funcs[g]? with
 |none=>none
 |some fn=>match fn.body with
  |some (.seq (.region _ ops false) rest)=>(match ops.toList with
   |o::r=>if isRec o && fn.results.isEmpty then
    (match opsA P cmp call ops.toList r ⟨setT (args++List.replicate (fn.ntmps-args.length) .undef) o.dst (match mv with|some v=>v|none=> .nili),h,[]⟩with
    |some (.normal,s1)=>(match qag P cmp call lp rest s1 with
     |some (.normal,s2)=>some s2
     |some (.ret,s2)=>some s2
     |_=>none)
    |_=>none)else none
   |[]=>none)
  |_=>none
def endF (fn:Func) (h:qaa) (s:St):Option CR:=match resA P fn.results.toList s with
 |some vs=>let x:=qav h.length (qb8 vs) s.heap s.dirty;some (.ret x.1 x.2)
 |none=>none
def fnF (cmp:List TypeId) (call:Call) (lp:Lp) (f:FuncId) (args:List AVal) (h:qaa):Option CR:=
 match P.funcs[f]? with
 |none=>none
 |some fn=>match fn.body with
  |none=>none
  |some c=>match qcf P cmp call lp c ⟨args++List.replicate (fn.ntmps-args.length) .undef,h,[]⟩with
   |some (.normal,s,none)|some (.ret,s,none)=>endF P fn h s
   |some (.pan v,s,none)=>let x:=qav h.length v s.heap s.dirty;some (.pan x.1 x.2)
   |some (.normal,s,some (.func g fi ca))|some (.ret,s,some (.func g fi ca))=>(match runF P cmp call lp g (fi++ca) none s.heap with
    |some s2=>endF P fn h ⟨s.tmps,s2.heap,s2.dirty++s.dirty⟩
    |none=>none)
   |some (.pan v,s,some (.func g fi ca))=>(match runF P cmp call lp g (fi++ca) (some v) s.heap with
    |some s2=>endF P fn h ⟨s.tmps,s2.heap,s2.dirty++s.dirty⟩
    |none=>none)
   |_=>none
end
theorem qnp {S:Sh} {x:AEx×St} {ts:List Value} (h:qji x=true) (k:TmR S x ts):VRl S x.2.tmps ts:=by
 rcases k with k|⟨⟨v,hv⟩,k⟩
 ·exact k
 ·unfold qji at h;rw[hv,k]at h;cases h
def DefR (S:Sh):Option AVal→List Deferred→Prop
 |none,ds=>ds=[]
 |some (.func g fi ca),ds=>∃x y:Array Value,ds=[{ target:= .fn (.func g) y,args:=x }]∧VRl S fi x.toList∧VRl S ca y.toList
 |some _,_=>True
theorem DefR.ext {S S':Sh} {N:Nat} {d:Option AVal} {ds:List Deferred} (k:DefR S d ds) (e:Ex S N S'):DefR S' d ds:=by
 cases d with
 |none=>exact k
 |some u=>
  cases u with
  |func g fi ca=>obtain⟨x,y,h,h1,h2⟩:=k;exact⟨x,y,h,h1.ext e,h2.ext e⟩
  |_=>trivial
def PostF (P:Program) [Tabs P] (S:Sh) (w:World) (Q:Exit→Act→World→Prop) (x:AEx×St×Option AVal):Prop:=
 ∀S' w' a',Step P S w S' x.2.1.heap w'→VRl S' x.2.1.tmps a'.tmps.toList→DefR S' x.2.2 a'.defers→
  match x.1 with
  | .normal=>Q .normal a' w'
  | .exit id=>Q (.exit id) a' w'
  | .ret=>Q .ret a' w'
  | .pan u=>∀v,VR S' u v→Q (.panic [{ v,recovered:=false }]) a' w'
theorem PostF.later [Tabs P] {S S1:Sh} {w w1:World} {h1:qaa} {Q:Exit→Act→World→Prop} {x:AEx×St×Option AVal} (k:PostF P S w Q x) (st:Step P S w S1 h1 w1):PostF P S1 w1 Q x:=
 fun S' w' a' h ht hd=>k S' w' a' (st.trans h) ht hd
theorem qoo {S:Sh} {o:Oper} {f:Operand} (h:isDef o=some f) {ts:List AVal} {a:Act} {w:World} (ht:VRl S ts a.tmps.toList) {g:FuncId} {fi ca:List AVal} (hv:qab f ts=some (.func g fi ca)):
 o.guard=none∧o.dst=none∧∃x y:Array Value,(execOp a.eval o).run P w= .ok (.defer { target:= .fn (.func g) y,args:=x }) w∧VRl S fi x.toList∧VRl S ca y.toList:=by
 obtain⟨dst,op,type,pos,after,guard⟩:=o
 unfold isDef at h
 simp only at h
 split at h
 ·rename_i c
  obtain⟨callee,args,ats⟩:=c
  simp only at h
  split at h
  ·rename_i f'
   split at h
   ·rename_i hemp
    cases h
    have hargs:args= #[]:=by simpa using hemp
    subst hargs
    obtain⟨x1,y1,hve,h1,h2⟩:=(qac ht hv).inv_func
    refine⟨rfl,rfl,x1,y1,?_,h1,h2⟩
    simp[execOp,resolve,hve,Deferred.ofValue]
   ·cases h
  ·cases h
 ·cases h
theorem qop {o:Oper} (h:isRec o=true) (a:Act) (w:World):o.guard=none∧(execOp a.eval o).run P w= .ok .recover w:=by
 obtain⟨dst,op,type,pos,after,guard⟩:=o
 unfold isRec at h
 simp only at h
 split at h
 ·rename_i c
  obtain⟨callee,args,ats⟩:=c
  simp only at h
  split at h
  ·have hargs:args= #[]:=by simpa using h
   subst hargs
   exact⟨rfl,by simp[execOp,resolve,invoke,builtin]⟩
  ·cases h
 ·cases h
theorem qhn [Tabs P] (hcmp:∀t∈cmp,qca P t=true) (hcall:qay P call) (hkeep:qaj call) (ops:Array Oper) {Q:Exit→Act→World→Prop}:
 ∀(m n:Nat) (s:St) (x:AEx×St×Option AVal) (a:Act) (S:Sh) (w:World),n+m=ops.size→WR P S s.heap w→VRl S s.tmps a.tmps.toList→a.defers=[]→
  opsF P cmp call ops.toList (ops.toList.drop n) s=some x→PostF P S w Q x→wpOps P ops Q (wd n m) a w
 |0,n,s,x,a,S,w,hn,k,ht,hd,e,hp=>by
  rw[wi (by simp;omega)]at e
  cases e
  exact hp S w a (.refl k) ht hd
 |m+1,n,s,x,a,S,w,hn,k,ht,hd,e,hp=>by
  have hlt:n<ops.size:=by omega
  have hg:ops[n]? =some ops[n]:=we hlt
  rw[show ops.toList.drop n=ops[n]::ops.toList.drop (n+1) by
   rw[←wk (h:=hlt)];exact(wg (by simpa using hlt))]at e
  rw[wh]
  unfold wpOps
  simp only[hg]
  unfold opsF at e
  split at e
  ·rename_i f hf
   split at e
   ·rename_i g fi ca hr hv
    cases e
    have hm0:m=0:=by
     have:=congrArg List.length hr
     simp at this
     omega
    subst hm0
    obtain⟨hgd,hdst,x1,y1,hrun,h1,h2⟩:=qoo (w:=w) hf ht hv
    rw[if_pos (by simp[Region.wanted,hgd])]
    refine .inl ?_
    unfold Oper.wp
    rw[hrun,Oper.upon_defer]
    unfold wpOps
    refine hp S w _ (.refl k) ?_ ?_
    ·rw[hdst];exact ht
    ·rw[hdst];simp only[Act.put,hd]
     exact⟨x1,y1,rfl,h1,h2⟩
   ·cases e
  ·rename_i hnd
   split at e
   ·rename_i hw
    rw[if_pos (qa1 ht hw)]
    refine .inl ?_
    split at e
    ·rename_i v f ho
     refine qd7 hcmp hcall hkeep k ht ho ?_
     intro v' S' w' st hv
     exact qhn hcmp hcall hkeep ops m (n+1) _ x _ S' w' (by omega) st.wr (qcy (ht.ext st.ext) hv _) (by rw[qbr];exact hd) e (hp.later st)
    ·rename_i v f ho
     cases e
     refine qd7 hcmp hcall hkeep k ht ho ?_
     intro v' S' w' st hv
     exact hp S' w' a st (ht.ext st.ext) hd v' hv
    ·cases e
   ·rename_i hw
    rw[if_neg (by rw[qa1 ht hw];simp)]
    exact qhn hcmp hcall hkeep ops m (n+1) ⟨setT s.tmps ops[n].dst .undef,s.heap,s.dirty⟩ x _ S w (by omega) k (qcy ht .undef _) (by rw[qbr];exact hd) e hp
   ·cases e
theorem qoq [Tabs P] (hmix:P.follows .mixedOrders=true) (hcmp:∀t∈cmp,qca P t=true) (hcall:qay P call) (hkeep:qaj call) {lp:Lp} (hlp:LpOk lp):∀(c:Code) (s:St) (x:AEx×St×Option AVal),qcf P cmp call lp c s=some x→
 ∀(a:Act) (S:Sh) (w:World) (Q:Exit→Act→World→Prop),WR P S s.heap w→VRl S s.tmps a.tmps.toList→a.defers=[]→PostF P S w Q x→c.wp P Q a w:=by
 have other:∀(c:Code) (s:St) (x:AEx×St×Option AVal),(match qag P cmp call lp c s with|some x=>if qji x then some (x.1,x.2,none)else none|none=>none)=some x→
  ∀(a:Act) (S:Sh) (w:World) (Q:Exit→Act→World→Prop),WR P S s.heap w→VRl S s.tmps a.tmps.toList→a.defers=[]→PostF P S w Q x→c.wp P Q a w:=by
  intro c s x e a S w Q k ht hd hp
  split at e
  ·rename_i y hy
   split at e
   ·rename_i htd
    cases e
    exact qcr hmix hcmp hcall hkeep hlp (ds:=[]) c s y hy a S w Q k ht hd (fun S' w' a' st ht' hd'=>hp S' w' a' st (qnp htd ht') hd')
   ·cases e
  ·cases e
 intro c
 induction c with
 |region id ops draw=>
  cases draw with
  |false=>
   intro s x e a S w Q k ht hd hp
   refine wp_region ?_
   have:=qhn hcmp hcall hkeep ops (Q:=Q) ops.size 0 s x a S w (by omega) k ht hd (by simpa[qcf]using e) hp
   rwa [wl]
  |true=>exact other _
 |seq c1 c2 ih1 ih2=>
  intro s x e a S w Q k ht hd hp
  simp only[qcf]at e
  refine wp_seq ?_
  split at e
  ·rename_i s' h1
   refine ih1 s _ h1 a S w _ k ht hd ?_
   intro S' w' a' st ht' hd'
   exact ih2 s' x e a' S' w' Q st.wr ht' hd' (hp.later st)
  ·rename_i s' v h1
   refine ih1 s _ h1 a S w _ k ht hd ?_
   intro S' w' a' st ht' hd'
   show c2.wp P Q a' w'
   split at e
   ·rename_i y hy
    split at e
    ·rename_i htd
     cases e
     refine qcr hmix hcmp hcall hkeep hlp (ds:=a'.defers) c2 s' y hy a' S' w' Q st.wr ht' rfl ?_
     intro S2 w2 a2 st2 ht2 hd2
     exact hp S2 w2 a2 (st.trans st2) (qnp htd ht2) (hd2▸hd'.ext st2.ext)
    ·cases e
   ·cases e
  ·rename_i r h1 h2
   refine ih1 s x e a S w _ k ht hd ?_
   intro S' w' a' st ht' hd'
   have:=hp S' w' a' st ht' hd'
   obtain⟨ex,sx,dx⟩:=x
   cases ex with
   |normal=>
    cases dx with
    |none=>exact(h1 sx e).elim
    |some v=>exact(h2 sx v e).elim
   |exit id=>exact this
   |ret=>exact this
   |pan u=>exact this
 |_=>intro s x e a S w Q k ht hd hp;simp only[qcf]at e;exact other _ s x e a S w Q k ht hd hp
theorem upon_S {o:Oper} {a:Act} {next:Act→World→Prop} {Q:Exit→Act→World→Prop} {X:World→Prop}:∀{r:Result Next},o.upon P a next Q r→
 (match r with| .ok .recover w'=>X w'|r=>o.upon P a next Q r):=by
 intro r h
 split
 ·exact h.elim
 ·exact h
theorem qho [Tabs P] (hcmp:∀t∈cmp,qca P t=true) (hcall:qay P call) (hkeep:qaj call) (ops:Array Oper) {Q:Exit→Act→List Frame→World→Prop} {ds:List Deferred} {cs:List Frame}:
 ∀(m n:Nat) (s:St) (x:AEx×St) (a:Act) (S:Sh) (w:World),n+m=ops.size→WR P S s.heap w→VRl S s.tmps a.tmps.toList→a.defers=ds→
  opsA P cmp call ops.toList (ops.toList.drop n) s=some x→Post P S w ds (fun e a w=>Q e a cs w) x→wpOpsS P ops Q (wd n m) a cs w
 |0,n,s,x,a,S,w,hn,k,ht,hd,e,hp=>by
  rw[wi (by simp;omega)]at e
  cases e
  exact hp S w a (.refl k) (.inl ht) hd
 |m+1,n,s,x,a,S,w,hn,k,ht,hd,e,hp=>by
  have hlt:n<ops.size:=by omega
  have hg:ops[n]? =some ops[n]:=we hlt
  rw[show ops.toList.drop n=ops[n]::ops.toList.drop (n+1) by
   rw[←wk (h:=hlt)];exact(wg (by simpa using hlt))]at e
  rw[wh]
  unfold wpOpsS
  simp only[hg]
  unfold opsA at e
  split at e
  ·rename_i hw
   rw[if_pos (qa1 ht hw)]
   split at e
   ·rename_i v f ho
    refine upon_S (qga hcmp hcall hkeep k ht ho (next:=fun a' w'=>wpOpsS P ops Q (wd (n+1) m) a' cs w') (Q:=fun e a w=>Q e a cs w) ?_)
    intro v' S' w' st hv
    exact qho hcmp hcall hkeep ops m (n+1) _ x _ S' w' (by omega) st.wr (qcy (ht.ext st.ext) hv _) (by rw[qbr];exact hd) e (hp.later st)
   ·rename_i v f ho
    cases e
    refine upon_S (qga hcmp hcall hkeep k ht ho (next:=fun a' w'=>wpOpsS P ops Q (wd (n+1) m) a' cs w') (Q:=fun e a w=>Q e a cs w) ?_)
    intro v' S' w' st hv
    exact hp S' w' a st (.inl (ht.ext st.ext)) hd v' hv
   ·cases e
  ·rename_i hw
   rw[if_neg (by rw[qa1 ht hw];simp)]
   exact qho hcmp hcall hkeep ops m (n+1) ⟨setT s.tmps ops[n].dst .undef,s.heap,s.dirty⟩ x _ S w (by omega) k (qcy ht .undef _) (by rw[qbr];exact hd) e hp
  ·cases e
def ModeR (S:Sh):Option AVal→FrameMode→Prop
 |none,u=>u= .returning
 |some a,u=>∃v,VR S a v∧u= .panicking [{ v,recovered:=false }]
theorem qnq {fn:Func} (h:fn.results= #[]) (ts:Array Value) (w:World):(results fn ts).run P w= .ok (.tuple #[]) w:=by
 rw[qhj,h]
 simp
theorem qpu [Tabs P] (hp:qel P cmp) (hcall:qay P call) (hkeep:qaj call) {lp:Lp} (hlp:LpOk lp) {g:FuncId} {args:List AVal} {mv:Option AVal} {h:qaa} {s2:St} (e:runF P cmp call lp g args mv h=some s2):
 (∃fn,P.funcs[g]? =some fn∧fn.body.isSome=true∧(fn.name== "runtime.NumGoroutine")=false)∧
 ∀(S:Sh) (w:World) (vs:Array Value) (u:FrameMode),WR P S h w→VRl S args vs.toList→ModeR S mv u→
  CallsD P g vs u w fun e u' w'=>∃v S',e= .returned v∧settle u'= .returning∧Step P S w S' s2.heap w':=by
 unfold runF at e
 split at e
 ·cases e
 ·rename_i fn hfn
  split at e
  ·rename_i id ops rest hb
   split at e
   ·rename_i o r hops
    split at e
    ·rename_i hc
     simp only[Bool.and_eq_true]at hc
     obtain⟨hrec,hres⟩:=hc
     have hres:fn.results= #[]:=by simpa using hres
     refine⟨⟨fn,hfn,by rw[hb];rfl,hp.name g fn hfn⟩,fun S w vs u k ha hm=> ?_⟩
     have hts:VRl S (args++List.replicate (fn.ntmps-args.length) .undef) (vs++wa (fn.ntmps-vs.size) undef).toList:=by
      rw[wb,wj]
      refine ha.append ?_
      have:args.length=vs.size:=by rw[ha.1];exact wc
      rw[this]
      exact .replicate S _
     have hsz:ops.size=r.length+1:=by rw[←wc,hops];rfl
     have h0:ops[0]? =some o:=by rw[←Array.getElem?_toList,hops];rfl
     refine callsD_of_wpS hfn hb ?_
     intro c0 cs hu
     refine wpS_seq (wpS_region ?_)
     rw[wl,hsz,wh]
     obtain⟨hg,hrun⟩:=qop (P:=P) hrec { tmps:=vs++wa (fn.ntmps-vs.size) undef,defers:=[] } w
     have go:∀(cs':List Frame) (u':FrameMode) (av:AVal) (v:Value),cs'={ c0 with mode:=u' }::cs→settle u'= .returning→VR S av v→
      (match opsA P cmp call ops.toList r ⟨setT (args++List.replicate (fn.ntmps-args.length) .undef) o.dst av,h,[]⟩with
      |some (.normal,s1)=>(match qag P cmp call lp rest s1 with
       |some (.normal,s2)=>some s2
       |some (.ret,s2)=>some s2
       |_=>none)
      |_=>none)=some s2→
      wpOpsS P ops (Exit.thenS (rest.wpS P (bodyPostS P fn c0 cs fun e u' w'=>∃v S',e= .returned v∧settle u'= .returning∧Step P S w S' s2.heap w')) (bodyPostS P fn c0 cs fun e u' w'=>∃v S',e= .returned v∧settle u'= .returning∧Step P S w S' s2.heap w'))
       (wd 1 r.length) (({ tmps:=vs++wa (fn.ntmps-vs.size) undef,defers:=[] }:Act).put o.dst v) cs' w:=by
      intro cs' u' av v hcs hset hv e
      split at e
      ·rename_i s1 h1
       have e1:opsA P cmp call ops.toList (ops.toList.drop 1) ⟨setT (args++List.replicate (fn.ntmps-args.length) .undef) o.dst av,h,[]⟩=some (.normal,s1):=by rw[hops];rw[hops]at h1;exact h1
       refine qho hp.cmp hcall hkeep ops (ds:=[]) r.length 1 _ _ _ S w (by omega) k (qcy hts hv _) (by rw[qbr]) e1 ?_
       intro S1 w1 a1 st1 ht1 hd1
       have fin:∀(s3:St),s3=s2→∀(S2:Sh) (w2:World) (a2:Act),Step P S1 w1 S2 s3.heap w2→VRl S2 s3.tmps a2.tmps.toList→a2.defers=[]→
        a2.defers=[]∧∃u',cs'={ c0 with mode:=u' }::cs∧∃v,(results fn a2.tmps).run P w2= .ok v w2∧∃v' S',Ending.returned v= .returned v'∧settle u'= .returning∧Step P S w S' s2.heap w2:=by
        intro s3 hs3 S2 w2 a2 st2 _ hd2
        subst hs3
        exact⟨hd2,u',hcs,_,qnq hres _ _,_,S2,rfl,hset,st1.trans st2⟩
       split at e
       ·rename_i s3 h3
        refine wpS_of_wp (qcr hp.mix hp.cmp hcall hkeep hlp (ds:=[]) rest s1 _ h3 a1 S1 w1 _ st1.wr (ht1.vr (by simp)) hd1 ?_)
        intro S2 w2 a2 st2 ht2 hd2
        exact fin s3 (Option.some.inj e) S2 w2 a2 st2 (ht2.vr (by simp)) hd2
       ·rename_i s3 h3
        refine wpS_of_wp (qcr hp.mix hp.cmp hcall hkeep hlp (ds:=[]) rest s1 _ h3 a1 S1 w1 _ st1.wr (ht1.vr (by simp)) hd1 ?_)
        intro S2 w2 a2 st2 ht2 hd2
        exact fin s3 (Option.some.inj e) S2 w2 a2 st2 (ht2.vr (by simp)) hd2
       ·cases e
      ·cases e
     unfold wpOpsS
     simp only[h0]
     rw[if_pos (by simp[Region.wanted,hg])]
     rw[hrun]
     simp only
     cases mv with
     |none=>
      have hu':u= .returning:=hm
      have hr:recoverD (c0::cs)=none:=by simp[recoverD,hu,hu']
      rw[hr]
      exact go (c0::cs) .returning .nili .nilIface (by rw[←hu',←hu]) rfl .nili e
     |some a=>
      obtain⟨v,hv,hu'⟩:=hm
      have hr:recoverD (c0::cs)=some (v,{ c0 with mode:= .panicking [{ v,recovered:=true }] }::cs):=by simp[recoverD,hu,hu']
      rw[hr]
      exact go _ (.panicking [{ v,recovered:=true }]) a v rfl (by simp[settle]) hv e
    ·cases e
   ·cases e
  ·cases e
end Go.Ab
namespace Go.Ab
variable {P:Program} {cmp:List TypeId} {call:Call}
theorem qiq (hc:qaj call) (ops:List Oper):∀(l:List Oper) (s:St) (x:AEx×St×Option AVal),opsF P cmp call ops l s=some x→KeepS s x.2.1
 |[],s,x,e=>by cases e;exact .refl s
 |o::r,s,x,e=>by
  unfold opsF at e
  split at e
  ·split at e
   ·cases e;exact .refl s
   ·cases e
  ·split at e
   ·split at e
    ·rename_i v f hv
     exact(KeepS.eff (qcp hc hv)).trans (qiq hc ops r _ x e)
    ·rename_i v f hv
     cases e
     exact KeepS.eff (qcp hc hv)
    ·cases e
   ·have:=qiq hc ops r _ x e
    exact this
   ·cases e
theorem qlj (hc:qaj call) {lp:Lp} (hlp:LpOk lp):∀(c:Code) (s:St) (x:AEx×St×Option AVal),qcf P cmp call lp c s=some x→KeepS s x.2.1:=by
 have other:∀(c:Code) (s:St) (x:AEx×St×Option AVal),(match qag P cmp call lp c s with|some x=>if qji x then some (x.1,x.2,none)else none|none=>none)=some x→KeepS s x.2.1:=by
  intro c s x e
  split at e
  ·rename_i y hy;(split at e<;>cases e);exact qbs hc hlp c s y hy
  ·cases e
 intro c
 induction c with
 |region id ops draw=>
  cases draw with
  |false=>intro s x e;exact qiq hc _ _ s x e
  |true=>exact other _
 |seq c1 c2 ih1 ih2=>
  intro s x e
  simp only[qcf]at e
  split at e
  ·rename_i s' h1
   have:=ih1 s _ h1
   exact this.trans (ih2 s' x e)
  ·rename_i s' v h1
   have h2:=ih1 s _ h1
   split at e
   ·rename_i y hy
    (split at e<;>cases e)
    exact h2.trans (qbs hc hlp c2 s' y hy)
   ·cases e
  ·exact ih1 s x e
 |_=>
  intro s x e
  simp only[qcf]at e
  split at e
  ·rename_i y hy;(split at e<;>cases e);exact qbs hc hlp _ s y hy
  ·cases e
theorem qmg (hc:qaj call) {lp:Lp} (hlp:LpOk lp) {g:FuncId} {args:List AVal} {mv:Option AVal} {h:qaa} {s2:St} (e:runF P cmp call lp g args mv h=some s2):KeepH h s2.heap s2.dirty:=by
 unfold runF at e
 split at e
 ·cases e
 ·split at e
  ·split at e
   ·split at e
    ·split at e
     ·rename_i s1 h1
      have k1:=qge hc _ _ _ _ h1
      split at e
      ·rename_i s3 h3
       cases e
       exact(k1.trans (qbs hc hlp _ _ _ h3)).1
      ·rename_i s3 h3
       cases e
       exact(k1.trans (qbs hc hlp _ _ _ h3)).1
      ·cases e
     ·cases e
    ·cases e
   ·cases e
  ·cases e
theorem KeepH.two {h h1 h2:qaa} {d d2:List Nat} (a:KeepH h h1 d) (b:KeepH h1 h2 d2):KeepH h h2 (d2++d):=
 ⟨Nat.le_trans a.1 b.1,fun x hx hn=>by
  rw[b.2 x (by have:=a.1;omega) (fun hm=>hn (by simp[hm]))]
  exact a.2 x hx (fun hm=>hn (by simp[hm]))⟩
theorem qhp [Tabs P] {fn:Func} {S S':Sh} {h:qaa} {w w':World} {s:St} {ts:Array Value} {r:CR} (k:WR P S h w) (hk:KeepH h s.heap s.dirty) (st:Step P S w S' s.heap w') (ht:VRl S' s.tmps ts.toList) (e:endF P fn h s=some r):
 ∃v,(results fn ts).run P w'= .ok v w'∧qco P S h w r (.returned v) w':=by
 unfold endF at e
 split at e
 ·rename_i us hus
  cases e
  obtain⟨xs,g1,g2⟩:=qfm st.wr ht fn.results.toList us hus
  have hrun:(results fn ts).run P w'= .ok (qlh xs) w':=by
   rw[qhj,Sem.run_bind,Array.mapM_eq_mapM_toList,Sem.run_map,g1]
   simp only[Result.andThen_ok]
   match xs with
   |[]=>rfl
   |[x]=>rfl
   |x::y::z=>rfl
  have hvr:VR S' (qb8 us) (qlh xs):=by
   match us,xs,g2 with
   |[],[],g2=>exact VR.tuple' g2
   |[u],[x],g2=>exact g2.head
   |u::u'::us,x::y::z,g2=>exact VR.tuple' g2
   |[],x::y,g2=>exact absurd g2.1 (by simp)
   |[u],[],g2=>exact absurd g2.1 (by simp)
   |[u],x::y::z,g2=>exact absurd g2.1 (by simp)
   |u::u'::us,[],g2=>exact absurd g2.1 (by simp)
   |u::u'::us,[x],g2=>exact absurd g2.1 (by simp)
  obtain⟨S2,h1,h2⟩:=qek k st hk hvr
  exact⟨_,hrun,_,S2,rfl,h1,h2⟩
 ·cases e
theorem qir {fn:Func} {h:qaa} {s:St} {r:CR} (hk:KeepH h s.heap s.dirty) (e:endF P fn h s=some r):qbo h r.eff∧LowC h r:=by
 unfold endF at e
 split at e
 ·cases e;exact qif hk
 ·cases e
theorem qhq [Tabs P] (hp:qel P cmp) (hcall:qay P call) (hkeep:qaj call) {lp:Lp} (hlp:LpOk lp) {g:FuncId} {fi ca:List AVal} {mv:Option AVal} {s s2:St} {fn:Func} {S S':Sh} {h:qaa} {w w':World}
 {ts x y:Array Value} {u:FrameMode} {r:CR} (k:WR P S h w) (hk:KeepH h s.heap s.dirty) (st:Step P S w S' s.heap w') (ht:VRl S' s.tmps ts.toList) (hx:VRl S' fi x.toList) (hy:VRl S' ca y.toList) (hm:ModeR S' mv u)
 (e:runF P cmp call lp g (fi++ca) mv s.heap=some s2) (e2:endF P fn h ⟨s.tmps,s2.heap,s2.dirty++s.dirty⟩=some r):
 Leaves P fn ts (qco P S h w r) [{ target:= .fn (.func g) y,args:=x }] u w':=by
 obtain⟨⟨gn,hgn,hgb,hname⟩,hrun⟩:=qpu hp hcall hkeep hlp e
 have hbn:gn.body.isNone=false:=by cases hb:gn.body<;>simp_all
 have hall:VRl S' (fi++ca) (x++y).toList:=by rw[wb];exact hx.append hy
 refine leaves_cons (f:=g) (args:=x++y) ?_ ?_ ?_
 ·cases mv with
  |none=>have hm':u= .returning:=hm;subst hm';simp
  |some a=>obtain⟨v,_,rfl⟩:=hm;simp
 ·simp only[invoke,qh4 hgn hbn hname]
 ·refine(hrun S' w' (x++y) u st.wr hall hm).mono ?_
  rintro en u' w2 ⟨v,S2,rfl,hs,st2⟩
  simp only[hs,Leaves]
  exact qhp (s:=⟨s.tmps,s2.heap,s2.dirty++s.dirty⟩) k (hk.two (qmg hkeep hlp e)) (st.trans st2) (ht.ext st2.ext) e2
theorem fnF_sound [Tabs P] (hp:qel P cmp) (hcall:qay P call) (hkeep:qaj call) {lp:Lp} (hlp:LpOk lp):qay P (fnF P cmp call lp):=by
 intro f args h r e
 unfold fnF at e
 split at e
 ·cases e
 ·rename_i fn hfn
  split at e
  ·cases e
  ·rename_i c hc
   refine⟨⟨fn,hfn,by rw[hc];rfl,hp.name f fn hfn⟩,fun S w vs k ha=> ?_⟩
   refine calls_of_wp_defers hfn hc ?_
   have hts:VRl S (args++List.replicate (fn.ntmps-args.length) .undef) (vs++wa (fn.ntmps-vs.size) undef).toList:=by
    rw[wb,wj]
    refine ha.append ?_
    have:args.length=vs.size:=by rw[ha.1];exact wc
    rw[this]
    exact .replicate S _
   generalize hx:qcf P cmp call lp c ⟨args++List.replicate (fn.ntmps-args.length) .undef,h,[]⟩=ox at e
   cases ox with
   |none=>cases e
   |some x=>
    have hkx:=(qlj hkeep hlp c _ _ hx).1
    refine qoq hp.mix hp.cmp hcall hkeep hlp c _ _ hx _ S w _ k hts rfl ?_
    intro S' w' a' st ht hd
    obtain⟨ex,s,d⟩:=x
    cases d with
    |none=>
     have hd:a'.defers=[]:=hd
     cases ex with
     |normal=>show Leaves P fn a'.tmps _ a'.defers .returning w';rw[hd];exact qhp k hkx st ht e
     |ret=>show Leaves P fn a'.tmps _ a'.defers .returning w';rw[hd];exact qhp k hkx st ht e
     |exit id=>cases e
     |pan u=>
      intro v hv
      show Leaves P fn a'.tmps _ a'.defers (.panicking [{ v,recovered:=false }]) w'
      rw[hd]
      cases e
      obtain⟨S2,h1,h2⟩:=qek k st hkx hv
      exact⟨v,S2,rfl,h1,h2⟩
    |some u=>
     cases u with
     |func g fi ca=>
      obtain⟨X,Y,hd,hX,hY⟩:=hd
      cases ex with
      |normal=>
       simp only at e
       split at e
       ·rename_i s2 h2
        show Leaves P fn a'.tmps _ a'.defers .returning w'
        rw[hd]
        exact qhq (mv:=none) hp hcall hkeep hlp k hkx st ht hX hY rfl h2 e
       ·cases e
      |ret=>
       simp only at e
       split at e
       ·rename_i s2 h2
        show Leaves P fn a'.tmps _ a'.defers .returning w'
        rw[hd]
        exact qhq (mv:=none) hp hcall hkeep hlp k hkx st ht hX hY rfl h2 e
       ·cases e
      |exit id=>cases e
      |pan u=>
       simp only at e
       split at e
       ·rename_i s2 h2
        intro v hv
        show Leaves P fn a'.tmps _ a'.defers (.panicking [{ v,recovered:=false }]) w'
        rw[hd]
        exact qhq (mv:=some u) hp hcall hkeep hlp k hkx st ht hX hY ⟨v,hv,rfl⟩ h2 e
       ·cases e
     |_=>cases ex<;>cases e
theorem fnF_keep (hkeep:qaj call) {lp:Lp} (hlp:LpOk lp):qaj (fnF P cmp call lp):=by
 intro f args h r e
 unfold fnF at e
 split at e
 ·cases e
 ·rename_i fn hfn
  split at e
  ·cases e
  ·rename_i c hc
   generalize hx:qcf P cmp call lp c ⟨args++List.replicate (fn.ntmps-args.length) .undef,h,[]⟩=ox at e
   cases ox with
   |none=>cases e
   |some x=>
    have hkx:=(qlj hkeep hlp c _ _ hx).1
    obtain⟨ex,s,d⟩:=x
    cases d with
    |none=>
     cases ex with
     |normal=>exact qir hkx e
     |ret=>exact qir hkx e
     |exit id=>cases e
     |pan u=>cases e;exact⟨qj2 rfl hkx,fun u hu=>by cases hu⟩
    |some u=>
     cases u with
     |func g fi ca=>
      cases ex with
      |exit id=>cases e
      |_=>
       simp only at e
       split at e
       ·rename_i s2 h2;exact qir (s:=⟨s.tmps,s2.heap,s2.dirty++s.dirty⟩) (hkx.two (qmg hkeep hlp h2)) e
       ·cases e
     |_=>cases ex<;>cases e
end Go.Ab
namespace Go.Ab
variable {P:Program} {cmp:List TypeId}
theorem qlu {c c':Call} (hc:qbt c c') (ops:List Oper):∀(l:List Oper) (s:St) (x:AEx×St×Option AVal),opsF P cmp c ops l s=some x→opsF P cmp c' ops l s=some x
 |[],s,x,e=>e
 |o::r,s,x,e=>by
  unfold opsF at e ⊢
  cases hf:isDef o with
  |some f=>simp only[hf]at e ⊢;exact e
  |none=>
   simp only[hf]at e ⊢
   split at e
   ·rename_i hw
    try simp only[hw]
    split at e
    ·rename_i v f hv;simp only[qik hc hv];exact qlu hc ops r _ x e
    ·rename_i v f hv;simp only[qik hc hv];exact e
    ·cases e
   ·exact qlu hc ops r _ x e
   ·cases e
theorem codeF_le {c c':Call} (hc:qbt c c') {l l':Lp} (hl:LpLe l l'):∀(cd:Code) (s:St) (x:AEx×St×Option AVal),qcf P cmp c l cd s=some x→qcf P cmp c' l' cd s=some x:=by
 intro cd
 induction cd with
 |region id ops draw=>
  cases draw with
  |false=>intro s x e;exact qlu hc _ _ s x e
  |true=>
   intro s x e
   simp only[qcf]at e ⊢
   split at e
   ·rename_i y hy;rw[qc9 hc hl _ _ _ hy];exact e
   ·cases e
 |seq c1 c2 ih1 ih2=>
  intro s x e
  simp only[qcf]at e ⊢
  split at e
  ·rename_i s' h1;simp only[ih1 _ _ h1];exact ih2 _ _ e
  ·rename_i s' v h1
   simp only[ih1 _ _ h1]
   split at e
   ·rename_i y hy;rw[qc9 hc hl _ _ _ hy];exact e
   ·cases e
  ·rename_i h1 h2
   have h3:=ih1 _ _ e
   obtain⟨ex,sx,dx⟩:=x
   cases ex with
   |normal=>
    cases dx with
    |none=>exact(h1 sx e).elim
    |some v=>exact(h2 sx v e).elim
   |exit id=>simp only[h3]
   |ret=>simp only[h3]
   |pan u=>simp only[h3]
 |_=>
  intro s x e
  simp only[qcf]at e ⊢
  split at e
  ·rename_i y hy;rw[qc9 hc hl _ _ _ hy];exact e
  ·cases e
theorem runF_le {c c':Call} (hc:qbt c c') {l l':Lp} (hl:LpLe l l') {g:FuncId} {args:List AVal} {mv:Option AVal} {h:qaa} {s2:St} (e:runF P cmp c l g args mv h=some s2):runF P cmp c' l' g args mv h=some s2:=by
 unfold runF at e ⊢
 split at e
 ·cases e
 ·split at e
  ·split at e
   ·split at e
    ·rename_i hok
     rw[if_pos hok]
     split at e
     ·rename_i s1 h1
      simp only[qgt hc _ _ _ _ h1]
      split at e
      ·rename_i s3 h3;simp only[qc9 hc hl _ _ _ h3];exact e
      ·rename_i s3 h3;simp only[qc9 hc hl _ _ _ h3];exact e
      ·cases e
     ·cases e
    ·cases e
   ·cases e
  ·cases e
theorem fnF_le {c c':Call} (hc:qbt c c') {l l':Lp} (hl:LpLe l l'):qbt (fnF P cmp c l) (fnF P cmp c' l'):=by
 intro f a h r e
 unfold fnF at e ⊢
 split at e
 ·cases e
 ·split at e
  ·cases e
  ·rename_i cd _
   generalize hx:qcf P cmp c l cd _=ox at e
   cases ox with
   |none=>cases e
   |some x=>
    rw[codeF_le hc hl _ _ _ hx]
    obtain⟨ex,s,d⟩:=x
    cases d with
    |none=>cases ex<;>exact e
    |some u=>
     cases u with
     |func g fi ca=>
      cases ex with
      |exit id=>exact e
      |_=>
       simp only at e ⊢
       split at e
       ·rename_i s2 h2;simp only[runF_le hc hl h2];exact e
       ·cases e
     |_=>cases ex<;>exact e
theorem qis (n:Nat):LpLe (qa8 n) lpC:=fun _ _ _ _ hf e=>lpC_of (qeb (Nat.le_refl n) _ _ _ _ hf e)
end Go.Ab
