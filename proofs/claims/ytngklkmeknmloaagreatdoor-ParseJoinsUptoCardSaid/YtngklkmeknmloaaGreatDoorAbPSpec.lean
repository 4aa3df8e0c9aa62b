/- Which expressions may be, rule by rule. -/
import Derived.Test.YtngklkmeknmloaaGreatDoorAbTypes
import Derived.Test.YtngklkmeknmloaaGreatDoorAbBox2
set_option linter.unusedSimpArgs false
set_option linter.unusedVariables false
set_option maxRecDepth 100000
set_option maxHeartbeats 4000000
namespace Go.Ab
inductive PR (α:Type) where
 |ok (a:α) (ts:List PTok)
 |bad (e:Int) (ts:List PTok)
 |out
def PR.bind {α β:Type} (x:PR α) (k:α→List PTok→PR β):PR β:=match x with
 | .ok a ts=>k a ts
 | .bad e ts=> .bad e ts
 | .out=> .out
def qg1 (s:Str) (t:PTok):Bool:=(t.sort==4||t.sort==5) && t.text==s
def hasS (s:Str):List PTok→Bool
 |t::_=>qg1 s t
 |[]=>false
def qbe {β:Type} (s:Str) (ts:List PTok) (k:List PTok→PR β):PR β:=if hasS s ts=true then k ts.tail else .bad 3 ts
def qdf {β:Type} (sort:Int) (ts:List PTok) (k:Str→List PTok→PR β):PR β:=match ts with
 |t::r=>if t.sort==sort then k t.text r else .bad 3 (t::r)
 |[]=> .bad 3 []
def qbc (s:Str):Nat:=
 if s=[45,62]then 1 else if s=[102,98,121]then 2 else if s=[111,114]then 3 else if s=[97,110,100]then 4
 else if s=[60]then 5 else if s=[60,61]then 5 else if s=[61]then 5 else if s=[60,62]then 5
 else if s=[43]then 6 else if s=[45]then 6 else if s=[42]then 7 else if s=[47]then 7 else if s=[37]then 7 else 0
def qau:List PTok→Str
 |t::_=>if t.sort==4||t.sort==5 then t.text else[]
 |[]=>[]
def qc3:List PTok→Int
 |t::_=>t.sort
 |[]=>6
abbrev Rd:=Nat→Nat→List PTok→PR PExpr
def eUn (op:Str) (k:PExpr):PExpr:= .mk 5 op 0 [] [k]
def ePre (k:PExpr):PExpr:= .mk 9 [] 0 [] [k]
def eIf (a b c:PExpr):PExpr:= .mk 7 [] 0 [] [a,b,c]
def qn0 (a b:PExpr):PExpr:= .mk 15 [] 0 [] [a,b]
def qkz (a b:PExpr):PExpr:= .mk 10 [] 0 [] [a,b]
def eFby (a b:PExpr):PExpr:= .mk 8 [] 0 [] [a,b]
def eBin (op:Str) (a b:PExpr):PExpr:= .mk 6 op 0 [] [a,b]
def qk0 (x c:Str) (e:PExpr):PExpr:= .mk 11 x 0 [c] [e]
def eInt (n:Int):PExpr:= .mk 1 [] n [] []
def qum (n:Int):PExpr:= .mk 2 [] n [] []
def eCon (s:Str):PExpr:= .mk 3 s 0 [] []
def eVar (s:Str):PExpr:= .mk 4 s 0 [] []
def qfx (sort:Int) (sep:Str):Nat→List PTok→PR (List Str)
 |0,_=> .out
 |n+1,ts=>qdf sort ts fun s ts=>if hasS sep ts=true then(qfx sort sep n ts.tail).bind fun l ts=> .ok (s::l) ts else .ok [s] ts
def qfw (m:Nat) (opn cls:Str) (ts:List PTok):PR (List Str):=qbe opn ts fun ts=>(qfx 1 [44] m ts).bind fun l ts=>qbe cls ts fun ts=> .ok l ts
def qej (R:Rd) (o:Nat):Nat→List PTok→PR (List PExpr)
 |0,_=> .out
 |n+1,ts=>(R o 1 ts).bind fun e ts=>if hasS [44] ts=true then(qej R o n ts.tail).bind fun l ts=> .ok (e::l) ts else .ok [e] ts
def qey (R:Rd) (o:Nat):Nat→List PTok→PR (List (Str×PExpr))
 |0,_=> .out
 |n+1,ts=>qdf 2 ts fun c ts=>qbe [45,62] ts fun ts=>(R o 1 ts).bind fun e ts=>if hasS [124] ts=true then(qey R o n ts.tail).bind fun l ts=> .ok ((c,e)::l) ts else .ok [(c,e)] ts
def qja (m:Nat) (R:Rd) (o:Nat) (op:Int) (ts:List PTok):PR PExpr:=
 qdf 1 ts fun x ts=>qbe [40] ts fun ts=>(qey R o m ts).bind fun l ts=>qbe [41] ts fun ts=> .ok (.mk op x 0 (l.map (·.1)) (l.map (·.2))) ts
def qii (m:Nat) (R:Rd) (o:Nat) (x:Str) (ts:List PTok):PR PExpr:=
 (if hasS [91] ts=true then qfw m [91] [93] ts else .ok [] ts).bind fun c ts=>qbe [40] ts fun ts=>(qej R o m ts).bind fun l ts=>qbe [41] ts fun ts=> .ok (.mk 14 x 0 c l) ts
def qhu (m:Nat) (R:Rd) (o:Nat) (ts:List PTok):PR PExpr:=
 if qc3 ts=3 then(match ts with|t::r=> .ok (eInt t.n) r|[]=> .out)
 else if qc3 ts=2 then(match ts with|t::r=> .ok (eCon t.text) r|[]=> .out)
 else if qc3 ts=1 then(match ts with|t::r=>if hasS [91] r||hasS [40] r then qii m R o t.text r else .ok (eVar t.text) r|[]=> .out)
 else if hasS [116,114,117,101] ts=true then .ok (qum 1) ts.tail
 else if hasS [102,97,108,115,101] ts=true then .ok (qum 0) ts.tail
 else if hasS [109,101,114,103,101] ts=true then qja m R o 12 ts.tail
 else if hasS [109,97,116,99,104] ts=true then qja m R o 13 ts.tail
 else qbe [40] ts fun ts=>(R o 1 ts).bind fun e ts=>qbe [41] ts fun ts=> .ok e ts
def qdz:Nat→PExpr→List PTok→PR PExpr
 |0,_,_=> .out
 |n+1,e,ts=>if hasS [119,104,101,110] ts=true then qdf 2 ts.tail fun c ts=>qbe [40] ts fun ts=>qdf 1 ts fun x ts=>qbe [41] ts fun ts=>qdz n (qk0 x c e) ts else .ok e ts
def qd2 (m:Nat) (R:Rd) (o:Nat) (ts:List PTok):PR PExpr:=
 (qhu m R o ts).bind fun e ts=>(if e.op==14 && hasS [101,118,101,114,121] ts then(R o 0 ts.tail).bind fun k ts=> .ok (qn0 e k) ts else .ok e ts).bind fun e ts=>qdz m e ts
def qef (m:Nat) (R:Rd) (o:Nat) (ts:List PTok):PR PExpr:=
 if hasS [110,111,116] ts=true then(R o 0 ts.tail).bind fun k ts=> .ok (eUn [110,111,116] k) ts
 else if hasS [45] ts=true then(R o 0 ts.tail).bind fun k ts=> .ok (eUn [45] k) ts
 else if hasS [112,114,101] ts=true then(R o 0 ts.tail).bind fun k ts=> .ok (ePre k) ts
 else if hasS [105,102] ts=true then(R o 1 ts.tail).bind fun a ts=>qbe [116,104,101,110] ts fun ts=>(R o 1 ts).bind fun b ts=>qbe [101,108,115,101] ts fun ts=>(R o 1 ts).bind fun c ts=> .ok (eIf a b c) ts
 else qd2 m R o ts
def qez (R:Rd) (o least:Nat):Nat→Nat→PExpr→List PTok→PR PExpr
 |0,_,_,_=> .out
 |n+1,most,left,ts=>
  if qbc (qau ts)<least∨most<qbc (qau ts)then .ok left ts
  else if qbc (qau ts)=1 then(R o 1 ts.tail).bind fun r ts=> .ok (qkz left r) ts
  else if qbc (qau ts)=2 then(R o 2 ts.tail).bind fun r ts'=>qez R o least n 1 (eFby left r) ts'
  else(R o (qbc (qau ts)+1) ts.tail).bind fun r ts'=>qez R o least n (if qbc (qau ts)=5 then 4 else qbc (qau ts)) (eBin (qau ts) left r) ts'
def pE:Nat→Rd
 |0,_,_,_=> .out
 |n+1,o,least,ts=>if least=0 then(if 100≤o then .bad 9 ts else qef n (pE n) (o+1) ts)
  else(pE n o 0 ts).bind fun left ts=>qez (pE n) o least n 7 left ts
def pEq (m:Nat) (R:Rd) (ts:List PTok):PR PEq:=
 (if hasS [40] ts=true then qfw m [40] [41] ts else qdf 1 ts fun s ts=> .ok [s] ts).bind fun l ts=>qbe [61] ts fun ts=>(R 0 1 ts).bind fun e ts=>qbe [59] ts fun ts=> .ok ⟨l,e⟩ ts
def qdi (ts:List PTok):Bool:=qc3 ts==1||hasS [40] ts
def pEqs (R:Rd) (m:Nat):Nat→List PTok→PR (List PEq)
 |0,_=> .out
 |n+1,ts=>if qdi ts=true then(pEq m R ts).bind fun q ts=>(pEqs R m n ts).bind fun l ts=> .ok (q::l) ts else .ok [] ts
def qfy (R:Rd):Nat→List PTok→PR (List PWay)
 |0,_=> .out
 |n+1,ts=>if hasS [117,110,116,105,108] ts=true then(R 0 1 ts.tail).bind fun e ts=>qbe [116,104,101,110] ts fun ts=>qdf 2 ts fun c ts=>qbe [59] ts fun ts=>(qfy R n ts).bind fun l ts=> .ok (⟨e,c⟩::l) ts else .ok [] ts
def qhf (m:Nat) (R:Rd) (ts:List PTok):PR PState:=
 qdf 2 ts fun s ts=>qbe [58] ts fun ts=>(pEqs R m m ts).bind fun q ts=>(qfy R m ts).bind fun w ts=> .ok ⟨s,q,w⟩ ts
def qcg (R:Rd) (m:Nat):Nat→List PTok→PR (List PState)
 |0,_=> .out
 |n+1,ts=>(qhf m R ts).bind fun s ts=>if hasS [115,116,97,116,101] ts=true then(qcg R m n ts.tail).bind fun l ts=> .ok (s::l) ts else .ok [s] ts
def eZero:PExpr:= .mk 0 [] 0 [] []
def qdj (R:Rd) (m:Nat):Nat→List PTok→PR (List PItem)
 |0,_=> .out
 |n+1,ts=>if qdi ts=true then(pEq m R ts).bind fun q ts=>(qdj R m n ts).bind fun l ts=> .ok (⟨q,[]⟩::l) ts
  else if hasS [97,117,116,111,109,97,116,111,110] ts=true then qbe [115,116,97,116,101] ts.tail fun ts=>(qcg R m m ts).bind fun ss ts=>qbe [101,110,100] ts fun ts=>qbe [59] ts fun ts=>(qdj R m n ts).bind fun l ts=> .ok (⟨⟨[],eZero⟩,ss⟩::l) ts
  else .ok [] ts
def qij (m:Nat) (R:Rd) (ts:List PTok):PR PNode:=
 qdf 1 ts fun x ts=>(if hasS [91] ts=true then qfw m [91] [93] ts else .ok [] ts).bind fun f ts=>(qfw m [40] [41] ts).bind fun i ts=>qbe [61] ts fun ts=>(qfw m [40] [41] ts).bind fun u ts=>
  qbe [119,104,101,114,101] ts fun ts=>(qdj R m m ts).bind fun l ts=>qbe [101,110,100] ts fun ts=> .ok ⟨x,f,i,u,l⟩ ts
def qk1 (m:Nat) (ts:List PTok):PR PEnum:=
 qdf 1 ts fun x ts=>qbe [61] ts fun ts=>(qfx 2 [124] m ts).bind fun l ts=>qbe [59] ts fun ts=> .ok ⟨x,l⟩ ts
def qcw (R:Rd) (m:Nat):Nat→List PTok→PR PProg
 |0,_=> .out
 |n+1,ts=>if qc3 ts=6 then .ok ⟨[],[]⟩ ts
  else if hasS [116,121,112,101] ts=true then(qk1 m ts.tail).bind fun t ts=>(qcw R m n ts).bind fun p ts=> .ok ⟨t::p.enums,p.nodes⟩ ts
  else qbe [110,111,100,101] ts fun ts=>(qij m R ts).bind fun x ts=>(qcw R m n ts).bind fun p ts=> .ok ⟨p.enums,x::p.nodes⟩ ts
def Ev {α:Type} (f:Nat→Nat→α) (x:α):Prop:=∃N,∀m n,N≤m→N≤n→f m n=x
theorem Ev.pure {α:Type} {x:α} {f:Nat→Nat→α} (h:∀m n,f m n=x):Ev f x:=⟨0,fun m n _ _=>h m n⟩
theorem Ev.congr {α:Type} {x:α} {f g:Nat→Nat→α} (h:∀m n,f m n=g m n) (k:Ev g x):Ev f x:=by
 obtain⟨N,k⟩:=k
 exact⟨N,fun m n a b=>by rw[h,k m n a b]⟩
theorem Ev.bind {α β:Type} {f:Nat→Nat→PR α} {k:Nat→Nat→α→List PTok→PR β} {a:α} {ts:List PTok} {x:PR β} (h:Ev f (.ok a ts)) (h2:Ev (fun m n=>k m n a ts) x):Ev (fun m n=>(f m n).bind (k m n)) x:=by
 obtain⟨N,h⟩:=h;obtain⟨M,h2⟩:=h2
 exact⟨max N M,fun m n a b=>by
  show(f m n).bind (k m n)=x
  rw[h m n (by omega) (by omega)];exact h2 m n (by omega) (by omega)⟩
theorem Ev.succ {α:Type} {f:Nat→Nat→α} {g:Nat→Nat→α} {x:α} (h:∀m n,f (m+1) n=g m n) (k:Ev g x):Ev f x:=by
 obtain⟨N,k⟩:=k
 refine⟨N+1,fun m n a b=> ?_⟩
 obtain⟨m,rfl⟩:∃m',m=m'+1:=⟨m-1,by omega⟩
 rw[h];exact k m n (by omega) (by omega)
theorem Ev.un {o:Nat} {ts:List PTok} {x:PR PExpr} (ho:o<100) (h:Ev (fun m n=>qef m (pE n) (o+1) ts) x):Ev (fun _ n=>pE n o 0 ts) x:=by
 obtain⟨N,h⟩:=h
 refine⟨N+1,fun m n a b=> ?_⟩
 obtain⟨n,rfl⟩:∃n',n=n'+1:=⟨n-1,by omega⟩
 show pE (n+1) o 0 ts=x
 simp only[pE,if_true]
 rw[if_neg (by omega)]
 exact h n n (by omega) (by omega)
end Go.Ab
namespace Go.Ab
open Go Go.Ab.Tab
inductive Good:PExpr→Prop where
 |int (n:Int):0≤n→Good (eInt n)
 |bool (n:Int):n=0∨n=1→Good (qum n)
 |con (s:Str):qiu s=true→Good (eCon s)
 |var (s:Str):qdv s=true→Good (eVar s)
 |un (s:Str) (k:PExpr):s∈unL→Good k→Good (eUn s k)
 |bin (s:Str) (a b:PExpr):s∈binL→Good a→Good b→Good (eBin s a b)
 |cond (a b c:PExpr):Good a→Good b→Good c→Good (eIf a b c)
 |fby (a b:PExpr):Good a→Good b→Good (eFby a b)
 |pre (k:PExpr):Good k→Good (ePre k)
 |arrow (a b:PExpr):Good a→Good b→Good (qkz a b)
 |when (x c:Str) (k:PExpr):qdv x=true→qiu c=true→Good k→Good (qk0 x c k)
 |arms (op:Int) (x:Str) (cons:List Str) (kids:List PExpr):op=12∨op=13→qdv x=true→cons.length=kids.length→1≤cons.length→(∀c∈cons,qiu c=true)→(∀k∈kids,Good k)→Good (.mk op x 0 cons kids)
 |call (x:Str) (cons:List Str) (kids:List PExpr):qdv x=true→(∀c∈cons,qdv c=true)→1≤kids.length→(∀k∈kids,Good k)→Good (.mk 14 x 0 cons kids)
 |every (k x:PExpr):k.op=14→Good k→Good x→Good (qn0 k x)
theorem mem_any {l:List Str} {s:Str} (h:s∈l):(l.any (s== ·))=true:=List.any_eq_true.2 ⟨s,h,by simp⟩
end Go.Ab
