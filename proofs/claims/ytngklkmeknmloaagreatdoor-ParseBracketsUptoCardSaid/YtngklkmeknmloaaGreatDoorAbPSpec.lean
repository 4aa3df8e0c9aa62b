/- Which expressions may be, rule by rule. -/
import Derived.Test.YtngklkmeknmloaaGreatDoorAbTypes
import Derived.Test.YtngklkmeknmloaaGreatDoorAbBox2
set_option linter.unusedSimpArgs false
set_option linter.unusedVariables false
set_option maxRecDepth 100000
set_option maxHeartbeats 4000000
open Bool renaming not_eq_true'→wa,and_eq_true→wc,not_eq_true→wd
open List renaming any_eq_false→wb,any_eq_true→we
namespace Go.Ab
inductive PR (α:Type) where
 |ok (a:α) (ts:List PTok)
 |bad (e:Int) (ts:List PTok)
 |out
def PR.bind {α β:Type} (x:PR α) (k:α→List PTok→PR β):PR β:=match x with
 | .ok a ts=>k a ts
 | .bad e ts=> .bad e ts
 | .out=> .out
def qn7 (s:Str) (t:PTok):Bool:=(t.sort==4||t.sort==5) && t.text==s
def hasS (s:Str):List PTok→Bool
 |t::_=>qn7 s t
 |[]=>false
def qbi {β:Type} (s:Str) (ts:List PTok) (k:List PTok→PR β):PR β:=if hasS s ts=true then k ts.tail else .bad 3 ts
def qeq {β:Type} (sort:Int) (ts:List PTok) (k:Str→List PTok→PR β):PR β:=match ts with
 |t::r=>if t.sort==sort then k t.text r else .bad 3 (t::r)
 |[]=> .bad 3 []
def qa2 (s:Str):Nat:=
 if s=[45,62]then 1 else if s=[102,98,121]then 2 else if s=[111,114]then 3 else if s=[97,110,100]then 4
 else if s=[60]then 5 else if s=[60,61]then 5 else if s=[61]then 5 else if s=[60,62]then 5
 else if s=[43]then 6 else if s=[45]then 6 else if s=[42]then 7 else if s=[47]then 7 else if s=[37]then 7 else 0
def qap:List PTok→Str
 |t::_=>if t.sort==4||t.sort==5 then t.text else[]
 |[]=>[]
def qdt:List PTok→Int
 |t::_=>t.sort
 |[]=>6
abbrev Rd:=Nat→Nat→List PTok→PR PExpr
def eUn (op:Str) (k:PExpr):PExpr:= .mk 5 op 0 [] [k]
def ePre (k:PExpr):PExpr:= .mk 9 [] 0 [] [k]
def eIf (a b c:PExpr):PExpr:= .mk 7 [] 0 [] [a,b,c]
def qe1 (a b:PExpr):PExpr:= .mk 15 [] 0 [] [a,b]
def qd8 (a b:PExpr):PExpr:= .mk 10 [] 0 [] [a,b]
def eFby (a b:PExpr):PExpr:= .mk 8 [] 0 [] [a,b]
def eBin (op:Str) (a b:PExpr):PExpr:= .mk 6 op 0 [] [a,b]
def qgw (x c:Str) (e:PExpr):PExpr:= .mk 11 x 0 [c] [e]
def eInt (n:Int):PExpr:= .mk 1 [] n [] []
def qt8 (n:Int):PExpr:= .mk 2 [] n [] []
def eCon (s:Str):PExpr:= .mk 3 s 0 [] []
def eVar (s:Str):PExpr:= .mk 4 s 0 [] []
def qe2 (sort:Int) (sep:Str):Nat→List PTok→PR (List Str)
 |0,_=> .out
 |n+1,ts=>qeq sort ts fun s ts=>if hasS sep ts=true then(qe2 sort sep n ts.tail).bind fun l ts=> .ok (s::l) ts else .ok [s] ts
def qhf (m:Nat) (opn cls:Str) (ts:List PTok):PR (List Str):=qbi opn ts fun ts=>(qe2 1 [44] m ts).bind fun l ts=>qbi cls ts fun ts=> .ok l ts
def qcu (R:Rd) (o:Nat):Nat→List PTok→PR (List PExpr)
 |0,_=> .out
 |n+1,ts=>(R o 1 ts).bind fun e ts=>if hasS [44] ts=true then(qcu R o n ts.tail).bind fun l ts=> .ok (e::l) ts else .ok [e] ts
def qdh (R:Rd) (o:Nat):Nat→List PTok→PR (List (Str×PExpr))
 |0,_=> .out
 |n+1,ts=>qeq 2 ts fun c ts=>qbi [45,62] ts fun ts=>(R o 1 ts).bind fun e ts=>if hasS [124] ts=true then(qdh R o n ts.tail).bind fun l ts=> .ok ((c,e)::l) ts else .ok [(c,e)] ts
def qjn (m:Nat) (R:Rd) (o:Nat) (op:Int) (ts:List PTok):PR PExpr:=
 qeq 1 ts fun x ts=>qbi [40] ts fun ts=>(qdh R o m ts).bind fun l ts=>qbi [41] ts fun ts=> .ok (.mk op x 0 (l.map (·.1)) (l.map (·.2))) ts
def qi0 (m:Nat) (R:Rd) (o:Nat) (x:Str) (ts:List PTok):PR PExpr:=
 (if hasS [91] ts=true then qhf m [91] [93] ts else .ok [] ts).bind fun c ts=>qbi [40] ts fun ts=>(qcu R o m ts).bind fun l ts=>qbi [41] ts fun ts=> .ok (.mk 14 x 0 c l) ts
def qgx (m:Nat) (R:Rd) (o:Nat) (ts:List PTok):PR PExpr:=
 if qdt ts=3 then(match ts with|t::r=> .ok (eInt t.n) r|[]=> .out)
 else if qdt ts=2 then(match ts with|t::r=> .ok (eCon t.text) r|[]=> .out)
 else if qdt ts=1 then(match ts with|t::r=>if hasS [91] r||hasS [40] r then qi0 m R o t.text r else .ok (eVar t.text) r|[]=> .out)
 else if hasS [116,114,117,101] ts=true then .ok (qt8 1) ts.tail
 else if hasS [102,97,108,115,101] ts=true then .ok (qt8 0) ts.tail
 else if hasS [109,101,114,103,101] ts=true then qjn m R o 12 ts.tail
 else if hasS [109,97,116,99,104] ts=true then qjn m R o 13 ts.tail
 else qbi [40] ts fun ts=>(R o 1 ts).bind fun e ts=>qbi [41] ts fun ts=> .ok e ts
def qc2:Nat→PExpr→List PTok→PR PExpr
 |0,_,_=> .out
 |n+1,e,ts=>if hasS [119,104,101,110] ts=true then qeq 2 ts.tail fun c ts=>qbi [40] ts fun ts=>qeq 1 ts fun x ts=>qbi [41] ts fun ts=>qc2 n (qgw x c e) ts else .ok e ts
def qdl (m:Nat) (R:Rd) (o:Nat) (ts:List PTok):PR PExpr:=
 (qgx m R o ts).bind fun e ts=>(if e.op==14 && hasS [101,118,101,114,121] ts then(R o 0 ts.tail).bind fun k ts=> .ok (qe1 e k) ts else .ok e ts).bind fun e ts=>qc2 m e ts
def qe7 (m:Nat) (R:Rd) (o:Nat) (ts:List PTok):PR PExpr:=
 if hasS [110,111,116] ts=true then(R o 0 ts.tail).bind fun k ts=> .ok (eUn [110,111,116] k) ts
 else if hasS [45] ts=true then(R o 0 ts.tail).bind fun k ts=> .ok (eUn [45] k) ts
 else if hasS [112,114,101] ts=true then(R o 0 ts.tail).bind fun k ts=> .ok (ePre k) ts
 else if hasS [105,102] ts=true then(R o 1 ts.tail).bind fun a ts=>qbi [116,104,101,110] ts fun ts=>(R o 1 ts).bind fun b ts=>qbi [101,108,115,101] ts fun ts=>(R o 1 ts).bind fun c ts=> .ok (eIf a b c) ts
 else qdl m R o ts
def qcm (R:Rd) (o least:Nat):Nat→Nat→PExpr→List PTok→PR PExpr
 |0,_,_,_=> .out
 |n+1,most,left,ts=>
  if qa2 (qap ts)<least∨most<qa2 (qap ts)then .ok left ts
  else if qa2 (qap ts)=1 then(R o 1 ts.tail).bind fun r ts=> .ok (qd8 left r) ts
  else if qa2 (qap ts)=2 then(R o 2 ts.tail).bind fun r ts'=>qcm R o least n 1 (eFby left r) ts'
  else(R o (qa2 (qap ts)+1) ts.tail).bind fun r ts'=>qcm R o least n (if qa2 (qap ts)=5 then 4 else qa2 (qap ts)) (eBin (qap ts) left r) ts'
def pE:Nat→Rd
 |0,_,_,_=> .out
 |n+1,o,least,ts=>if least=0 then(if 100≤o then .bad 9 ts else qe7 n (pE n) (o+1) ts)
  else(pE n o 0 ts).bind fun left ts=>qcm (pE n) o least n 7 left ts
def pEq (m:Nat) (R:Rd) (ts:List PTok):PR PEq:=
 (if hasS [40] ts=true then qhf m [40] [41] ts else qeq 1 ts fun s ts=> .ok [s] ts).bind fun l ts=>qbi [61] ts fun ts=>(R 0 1 ts).bind fun e ts=>qbi [59] ts fun ts=> .ok ⟨l,e⟩ ts
def qik (ts:List PTok):Bool:=qdt ts==1||hasS [40] ts
def pEqs (R:Rd) (m:Nat):Nat→List PTok→PR (List PEq)
 |0,_=> .out
 |n+1,ts=>if qik ts=true then(pEq m R ts).bind fun q ts=>(pEqs R m n ts).bind fun l ts=> .ok (q::l) ts else .ok [] ts
def qn8 (R:Rd):Nat→List PTok→PR (List PWay)
 |0,_=> .out
 |n+1,ts=>if hasS [117,110,116,105,108] ts=true then(R 0 1 ts.tail).bind fun e ts=>qbi [116,104,101,110] ts fun ts=>qeq 2 ts fun c ts=>qbi [59] ts fun ts=>(qn8 R n ts).bind fun l ts=> .ok (⟨e,c⟩::l) ts else .ok [] ts
def qso (m:Nat) (R:Rd) (ts:List PTok):PR PState:=
 qeq 2 ts fun s ts=>qbi [58] ts fun ts=>(pEqs R m m ts).bind fun q ts=>(qn8 R m ts).bind fun w ts=> .ok ⟨s,q,w⟩ ts
def qh2 (R:Rd) (m:Nat):Nat→List PTok→PR (List PState)
 |0,_=> .out
 |n+1,ts=>(qso m R ts).bind fun s ts=>if hasS [115,116,97,116,101] ts=true then(qh2 R m n ts.tail).bind fun l ts=> .ok (s::l) ts else .ok [s] ts
def eZero:PExpr:= .mk 0 [] 0 [] []
def qku (R:Rd) (m:Nat):Nat→List PTok→PR (List PItem)
 |0,_=> .out
 |n+1,ts=>if qik ts=true then(pEq m R ts).bind fun q ts=>(qku R m n ts).bind fun l ts=> .ok (⟨q,[]⟩::l) ts
  else if hasS [97,117,116,111,109,97,116,111,110] ts=true then qbi [115,116,97,116,101] ts.tail fun ts=>(qh2 R m m ts).bind fun ss ts=>qbi [101,110,100] ts fun ts=>qbi [59] ts fun ts=>(qku R m n ts).bind fun l ts=> .ok (⟨⟨[],eZero⟩,ss⟩::l) ts
  else .ok [] ts
def pNode (m:Nat) (R:Rd) (ts:List PTok):PR PNode:=
 qeq 1 ts fun x ts=>(if hasS [91] ts=true then qhf m [91] [93] ts else .ok [] ts).bind fun f ts=>(qhf m [40] [41] ts).bind fun i ts=>qbi [61] ts fun ts=>(qhf m [40] [41] ts).bind fun u ts=>
  qbi [119,104,101,114,101] ts fun ts=>(qku R m m ts).bind fun l ts=>qbi [101,110,100] ts fun ts=> .ok ⟨x,f,i,u,l⟩ ts
def pEnum (m:Nat) (ts:List PTok):PR PEnum:=
 qeq 1 ts fun x ts=>qbi [61] ts fun ts=>(qe2 2 [124] m ts).bind fun l ts=>qbi [59] ts fun ts=> .ok ⟨x,l⟩ ts
def qq0 (R:Rd) (m:Nat):Nat→List PTok→PR PProg
 |0,_=> .out
 |n+1,ts=>if qdt ts=6 then .ok ⟨[],[]⟩ ts
  else if hasS [116,121,112,101] ts=true then(pEnum m ts.tail).bind fun t ts=>(qq0 R m n ts).bind fun p ts=> .ok ⟨t::p.enums,p.nodes⟩ ts
  else qbi [110,111,100,101] ts fun ts=>(pNode m R ts).bind fun x ts=>(qq0 R m n ts).bind fun p ts=> .ok ⟨p.enums,x::p.nodes⟩ ts
def Ev {α:Type} (f:Nat→Nat→α) (x:α):Prop:=∃N,∀m n,N≤m→N≤n→f m n=x
theorem Ev.pure {α:Type} {x:α} {f:Nat→Nat→α} (h:∀m n,f m n=x):Ev f x:=⟨0,fun m n _ _=>h m n⟩
theorem Ev.congr {α:Type} {x:α} {f g:Nat→Nat→α} (h:∀m n,f m n=g m n) (k:Ev g x):Ev f x:=by
 obtain⟨N,k⟩:=k
 exact⟨N,fun m n a b=>by rw[h,k m n a b]⟩
theorem Ev.bind {α β:Type} {f:Nat→Nat→PR α} {k:Nat→Nat→α→List PTok→PR β} {a:α} {ts:List PTok} {x:PR β} (h:Ev f (.ok a ts)) (h2:Ev (fun m n=>k m n a ts) x):Ev (fun m n=>(f m n).bind (k m n)) x:=by
 obtain⟨N,h⟩:=h;obtain⟨M,h2⟩:=h2
 exact⟨max N M,fun m n a b=>by
  show(f m n).bind (k m n)=x
  rw[h m n (by omega) (by omega)];exact h2 m n (by omega) (by omega)⟩
theorem Ev.succ {α:Type} {f:Nat→Nat→α} {g:Nat→Nat→α} {x:α} (h:∀m n,f (m+1) n=g m n) (k:Ev g x):Ev f x:=by
 obtain⟨N,k⟩:=k
 refine⟨N+1,fun m n a b=> ?_⟩
 obtain⟨m,rfl⟩:∃m',m=m'+1:=⟨m-1,by omega⟩
 rw[h];exact k m n (by omega) (by omega)
theorem Ev.un {o:Nat} {ts:List PTok} {x:PR PExpr} (ho:o<100) (h:Ev (fun m n=>qe7 m (pE n) (o+1) ts) x):Ev (fun _ n=>pE n o 0 ts) x:=by
 obtain⟨N,h⟩:=h
 refine⟨N+1,fun m n a b=> ?_⟩
 obtain⟨n,rfl⟩:∃n',n=n'+1:=⟨n-1,by omega⟩
 show pE (n+1) o 0 ts=x
 simp only[pE,if_true]
 rw[if_neg (by omega)]
 exact h n n (by omega) (by omega)
theorem Ev.inf {o least:Nat} {ts ts':List PTok} {left:PExpr} {x:PR PExpr} (hl:least≠0) (h:Ev (fun _ n=>pE n o 0 ts) (.ok left ts')) (h2:Ev (fun m n=>qcm (pE n) o least m 7 left ts') x):Ev (fun _ n=>pE n o least ts) x:=by
 obtain⟨N,h⟩:=h;obtain⟨M,h2⟩:=h2
 refine⟨max N M+1,fun m n a b=> ?_⟩
 obtain⟨n,rfl⟩:∃n',n=n'+1:=⟨n-1,by omega⟩
 show pE (n+1) o least ts=x
 simp only[pE]
 have e:pE n o 0 ts= .ok left ts':=h n n (by omega) (by omega)
 rw[if_neg hl,e]
 exact h2 n n (by omega) (by omega)
end Go.Ab
namespace Go.Ab
open Go Go.Ab.Tab
inductive Good:PExpr→Prop where
 |int (n:Int):0≤n→Good (eInt n)
 |bool (n:Int):n=0∨n=1→Good (qt8 n)
 |con (s:Str):qfb s=true→Good (eCon s)
 |var (s:Str):qcf s=true→Good (eVar s)
 |un (s:Str) (k:PExpr):s∈unL→Good k→Good (eUn s k)
 |bin (s:Str) (a b:PExpr):s∈binL→Good a→Good b→Good (eBin s a b)
 |cond (a b c:PExpr):Good a→Good b→Good c→Good (eIf a b c)
 |fby (a b:PExpr):Good a→Good b→Good (eFby a b)
 |pre (k:PExpr):Good k→Good (ePre k)
 |arrow (a b:PExpr):Good a→Good b→Good (qd8 a b)
 |when (x c:Str) (k:PExpr):qcf x=true→qfb c=true→Good k→Good (qgw x c k)
 |arms (op:Int) (x:Str) (cons:List Str) (kids:List PExpr):op=12∨op=13→qcf x=true→cons.length=kids.length→1≤cons.length→(∀c∈cons,qfb c=true)→(∀k∈kids,Good k)→Good (.mk op x 0 cons kids)
 |call (x:Str) (cons:List Str) (kids:List PExpr):qcf x=true→(∀c∈cons,qcf c=true)→1≤kids.length→(∀k∈kids,Good k)→Good (.mk 14 x 0 cons kids)
 |every (k x:PExpr):k.op=14→Good k→Good x→Good (qe1 k x)
theorem qjb (s:Str):qbh false s=qcf s:=by
 unfold qbh;cases s<;>rfl
theorem qmp (s:Str):conB false s=qfb s:=by
 unfold conB;cases s<;>rfl
theorem qhq {α:Type} {l:List α} (h:(l.length:Int)≤0):l=[]:=List.eq_nil_of_length_eq_zero (by omega)
theorem len1 {α:Type} {l:List α} (h1:1≤(l.length:Int)) (h:(l.length:Int)≤1):∃a,l=[a]:=List.length_eq_one_iff.1 (by omega)
theorem len2 {α:Type} {l:List α} (h1:2≤(l.length:Int)) (h:(l.length:Int)≤2):∃a b,l=[a,b]:=by
 match l,h1,h with
 |[a,b],_,_=>exact⟨a,b,rfl⟩
 |[],h,_=>simp at h
 |[_],h,_=>simp at h
 |_::_::_::_,_,h=>simp at h;omega
theorem len3 {α:Type} {l:List α} (h1:3≤(l.length:Int)) (h:(l.length:Int)≤3):∃a b c,l=[a,b,c]:=by
 match l,h1,h with
 |[a,b,c],_,_=>exact⟨a,b,c,rfl⟩
 |[],h,_=>simp at h
 |[_],h,_=>simp at h
 |[_,_],h,_=>simp at h
 |_::_::_::_::_,_,h=>simp at h;omega
structure Facts (w:Wnt) (op:Int) (name:Str) (n:Int) (cons:List Str) (kids:List PExpr):Prop where
 nm:w.b1 name=true
 nn:w.b2 n=true
 c1:w.least≤(cons.length:Int)
 c2:(cons.length:Int)≤w.most
 c3:∀c∈cons,w.cn c=true
 k1:w.kl≤(kids.length:Int)
 k2:(kids.length:Int)≤w.km
 am:w.am=true→cons.length=kids.length
 ev:op=15→qc0 kids=true
theorem q4z {w:Wnt} {op:Int} {name:Str} {n:Int} {cons:List Str} {kids:List PExpr}:w.head op name n cons kids=true↔Facts w op name n cons kids:=by
 unfold Wnt.head Wnt.b3
 simp only[wc,decide_eq_true_eq,wa,decide_eq_false_iff_not,wb,wd,Bool.and_eq_false_iff,bne_eq_false_iff_eq,beq_eq_false_iff_ne,ne_eq,Int.not_lt]
 constructor
 ·rintro⟨⟨⟨⟨⟨⟨a,b⟩,⟨c,d⟩,e⟩,f⟩,g⟩,h⟩,i⟩
  refine⟨a,b,c,d,fun x hx=>by simpa using e x hx,f,g,fun hm=> ?_,fun ho=> ?_⟩
  ·rcases h with h|h
   ·rw[hm]at h;cases h
   ·omega
  ·rcases i with i|i
   ·exact absurd ho i
   ·simpa using i
 ·rintro⟨a,b,c,d,e,f,g,h,i⟩
  refine⟨⟨⟨⟨⟨⟨a,b⟩,⟨c,d⟩,fun x hx=>by simpa using e x hx⟩,f⟩,g⟩,?_⟩,?_⟩
  ·cases hm:w.am
   ·exact .inl rfl
   ·exact .inr (by have:=h hm;omega)
  ·by_cases ho:op=15
   ·exact .inr (by simpa using i ho)
   ·exact .inl ho
theorem any_mem {l:List Str} {s:Str} (h:(l.any (s== ·))=true):s∈l:=by
 rw[we]at h
 obtain⟨x,hx,he⟩:=h
 rw[eq_of_beq he];exact hx
theorem mem_any {l:List Str} {s:Str} (h:s∈l):(l.any (s== ·))=true:=we.2 ⟨s,h,by simp⟩
theorem q3b {made:Bool} {op:Int} {name:Str} {n:Int} {cons:List Str} {kids:List PExpr} (h:qar made (.mk op name n cons kids)=true):
 (∃w,wnt made op=some w∧Facts w op name n cons kids)∧∀k∈kids,qar made k=true:=by
 rw[qdk]at h
 simp only[PExpr.op,PExpr.name,PExpr.n,PExpr.cons,PExpr.kids,wc,wa,wb,wd]at h
 obtain⟨h1,h2⟩:=h
 refine⟨?_,fun k hk=>by simpa using h2 k hk⟩
 cases hw:wnt made op with
 |none=>rw[hw]at h1;cases h1
 |some w=>rw[hw]at h1;exact⟨w,rfl,q4z.1 h1⟩
theorem good_of (e:PExpr):qar false e=true→Good e:=by
 induction e using PExpr.induct with
 |h op name n cons kids ih=>
  intro h
  obtain⟨⟨w,hw,F⟩,h2⟩:=q3b h
  have hk:∀k∈kids,Good k:=fun k hk=>ih k hk (h2 k hk)
  by_cases o1:op=1
  ·subst o1
   obtain rfl:=Option.some.inj hw.symm
   have hc:=qhq F.c2;have hks:=qhq F.k2
   have hn:=F.nm;have hnn:=F.nn
   simp only[Wnt.b1,Wnt.b2,beq_iff_eq,decide_eq_true_eq]at hn hnn
   subst hn hc hks;exact .int n hnn
  by_cases o2:op=2
  ·subst o2
   obtain rfl:=Option.some.inj hw.symm
   have hc:=qhq F.c2;have hks:=qhq F.k2
   have hn:=F.nm;have hnn:=F.nn
   simp only[Wnt.b1,Wnt.b2,beq_iff_eq,Bool.or_eq_true]at hn hnn
   subst hn hc hks;exact .bool n hnn
  by_cases o3:op=3
  ·subst o3
   obtain rfl:=Option.some.inj hw.symm
   have hc:=qhq F.c2;have hks:=qhq F.k2
   have hn:=F.nm;have hnn:=F.nn
   simp only[Wnt.b1,Wnt.b2,beq_iff_eq,qmp]at hn hnn
   subst hnn hc hks;exact .con name hn
  by_cases o4:op=4
  ·subst o4
   obtain rfl:=Option.some.inj hw.symm
   have hc:=qhq F.c2;have hks:=qhq F.k2
   have hn:=F.nm;have hnn:=F.nn
   simp only[Wnt.b1,Wnt.b2,beq_iff_eq,qjb]at hn hnn
   subst hnn hc hks;exact .var name hn
  by_cases o5:op=5
  ·subst o5
   obtain rfl:=Option.some.inj hw.symm
   have hc:=qhq F.c2;obtain⟨a,hks⟩:=len1 F.k1 F.k2
   have hn:=F.nm;have hnn:=F.nn
   simp only[Wnt.b1,Wnt.b2,beq_iff_eq]at hn hnn
   subst hnn hc hks;exact .un name a (any_mem hn) (hk a (by simp))
  by_cases o6:op=6
  ·subst o6
   obtain rfl:=Option.some.inj hw.symm
   have hc:=qhq F.c2;obtain⟨a,b,hks⟩:=len2 F.k1 F.k2
   have hn:=F.nm;have hnn:=F.nn
   simp only[Wnt.b1,Wnt.b2,beq_iff_eq]at hn hnn
   subst hnn hc hks;exact .bin name a b (any_mem hn) (hk a (by simp)) (hk b (by simp))
  by_cases o7:op=7
  ·subst o7
   obtain rfl:=Option.some.inj hw.symm
   have hc:=qhq F.c2;obtain⟨a,b,c,hks⟩:=len3 F.k1 F.k2
   have hn:=F.nm;have hnn:=F.nn
   simp only[Wnt.b1,Wnt.b2,beq_iff_eq]at hn hnn
   subst hn hnn hc hks;exact .cond a b c (hk a (by simp)) (hk b (by simp)) (hk c (by simp))
  by_cases o8:op=8
  ·subst o8
   obtain rfl:=Option.some.inj hw.symm
   have hc:=qhq F.c2;obtain⟨a,b,hks⟩:=len2 F.k1 F.k2
   have hn:=F.nm;have hnn:=F.nn
   simp only[Wnt.b1,Wnt.b2,beq_iff_eq]at hn hnn
   subst hn hnn hc hks;exact .fby a b (hk a (by simp)) (hk b (by simp))
  by_cases o9:op=9
  ·subst o9
   obtain rfl:=Option.some.inj hw.symm
   have hc:=qhq F.c2;obtain⟨a,hks⟩:=len1 F.k1 F.k2
   have hn:=F.nm;have hnn:=F.nn
   simp only[Wnt.b1,Wnt.b2,beq_iff_eq]at hn hnn
   subst hn hnn hc hks;exact .pre a (hk a (by simp))
  by_cases o10:op=10
  ·subst o10
   obtain rfl:=Option.some.inj hw.symm
   have hc:=qhq F.c2;obtain⟨a,b,hks⟩:=len2 F.k1 F.k2
   have hn:=F.nm;have hnn:=F.nn
   simp only[Wnt.b1,Wnt.b2,beq_iff_eq]at hn hnn
   subst hn hnn hc hks;exact .arrow a b (hk a (by simp)) (hk b (by simp))
  by_cases o11:op=11
  ·subst o11
   obtain rfl:=Option.some.inj hw.symm
   obtain⟨c,hc⟩:=len1 F.c1 F.c2;obtain⟨a,hks⟩:=len1 F.k1 F.k2
   have hn:=F.nm;have hnn:=F.nn;have h3:=F.c3
   simp only[Wnt.b1,Wnt.b2,beq_iff_eq,qjb,qmp]at hn hnn h3
   subst hnn hc hks;exact .when name c a hn (h3 c (by simp)) (hk a (by simp))
  by_cases o12:op=12
  ·subst o12
   obtain rfl:=Option.some.inj hw.symm
   have hn:=F.nm;have hnn:=F.nn;have h3:=F.c3
   have c1:=F.c1;have c2:=F.c2
   simp only[Wnt.b1,Wnt.b2,beq_iff_eq,qjb,qmp]at hn hnn h3 c1 c2
   subst hnn;exact .arms 12 name cons kids (.inl rfl) hn (F.am rfl) (by omega) h3 hk
  by_cases o13:op=13
  ·subst o13
   obtain rfl:=Option.some.inj hw.symm
   have hn:=F.nm;have hnn:=F.nn;have h3:=F.c3
   have c1:=F.c1;have c2:=F.c2
   simp only[Wnt.b1,Wnt.b2,beq_iff_eq,qjb,qmp]at hn hnn h3 c1 c2
   subst hnn;exact .arms 13 name cons kids (.inr rfl) hn (F.am rfl) (by omega) h3 hk
  by_cases o14:op=14
  ·subst o14
   obtain rfl:=Option.some.inj hw.symm
   have hn:=F.nm;have hnn:=F.nn;have h3:=F.c3
   have c2:=F.c2;have k1:=F.k1;have k2:=F.k2
   simp only[Wnt.b1,Wnt.b2,beq_iff_eq,qjb]at hn hnn h3 c2 k1 k2
   subst hnn;exact .call name cons kids hn h3 (by omega) hk
  by_cases o15:op=15
  ·subst o15
   obtain rfl:=Option.some.inj hw.symm
   have hc:=qhq F.c2;obtain⟨a,b,hks⟩:=len2 F.k1 F.k2
   have hn:=F.nm;have hnn:=F.nn;have hev:=F.ev rfl
   simp only[Wnt.b1,Wnt.b2,beq_iff_eq]at hn hnn
   subst hn hnn hc hks
   exact .every a b (by simpa[qc0]using hev) (hk a (by simp)) (hk b (by simp))
  ·unfold wnt at hw
   rw[if_neg o1,if_neg o2,if_neg o3,if_neg o4,if_neg o5,if_neg o6,if_neg o7,if_neg o8,if_neg o9,if_neg o10,if_neg o11,if_neg o12,if_neg o13,if_neg o14,if_neg o15]at hw
   cases hw
end Go.Ab
