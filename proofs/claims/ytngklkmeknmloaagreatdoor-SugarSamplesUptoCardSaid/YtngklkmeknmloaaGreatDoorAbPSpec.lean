/- What a parser of the language reads: plain functions over tokens. -/
import Derived.Test.YtngklkmeknmloaaGreatDoorAbTypes
set_option linter.unusedSimpArgs false
set_option linter.unusedVariables false
set_option maxRecDepth 100000
set_option maxHeartbeats 4000000
namespace Go.Ab
inductive PR (α:Type) where
 |ok (a:α) (ts:List PTok)
 |bad (e:Int) (ts:List PTok)
 |out
def PR.bind {α β:Type} (x:PR α) (k:α→List PTok→PR β):PR β:=match x with
 | .ok a ts=>k a ts
 | .bad e ts=> .bad e ts
 | .out=> .out
def isSgn (s:Str) (t:PTok):Bool:=(t.sort==4||t.sort==5) && t.text==s
def hasS (s:Str):List PTok→Bool
 |t::_=>isSgn s t
 |[]=>false
def qd8 {β:Type} (s:Str) (ts:List PTok) (k:List PTok→PR β):PR β:=if hasS s ts=true then k ts.tail else .bad 3 ts
def wordS {β:Type} (sort:Int) (ts:List PTok) (k:Str→List PTok→PR β):PR β:=match ts with
 |t::r=>if t.sort==sort then k t.text r else .bad 3 (t::r)
 |[]=> .bad 3 []
def qi8 (s:Str):Nat:=
 if s=[45,62]then 1 else if s=[102,98,121]then 2 else if s=[111,114]then 3 else if s=[97,110,100]then 4
 else if s=[60]then 5 else if s=[60,61]then 5 else if s=[61]then 5 else if s=[60,62]then 5
 else if s=[43]then 6 else if s=[45]then 6 else if s=[42]then 7 else if s=[47]then 7 else if s=[37]then 7 else 0
def qhn:List PTok→Str
 |t::_=>if t.sort==4||t.sort==5 then t.text else[]
 |[]=>[]
def sortT:List PTok→Int
 |t::_=>t.sort
 |[]=>6
abbrev Rd:=Nat→Nat→List PTok→PR PExpr
def eUn (op:Str) (k:PExpr):PExpr:= .mk 5 op 0 [] [k]
def ePre (k:PExpr):PExpr:= .mk 9 [] 0 [] [k]
def eIf (a b c:PExpr):PExpr:= .mk 7 [] 0 [] [a,b,c]
def eEvery (a b:PExpr):PExpr:= .mk 15 [] 0 [] [a,b]
def eArrow (a b:PExpr):PExpr:= .mk 10 [] 0 [] [a,b]
def eFby (a b:PExpr):PExpr:= .mk 8 [] 0 [] [a,b]
def eBin (op:Str) (a b:PExpr):PExpr:= .mk 6 op 0 [] [a,b]
def eWhen (x c:Str) (e:PExpr):PExpr:= .mk 11 x 0 [c] [e]
def eInt (n:Int):PExpr:= .mk 1 [] n [] []
def eBool (n:Int):PExpr:= .mk 2 [] n [] []
def eCon (s:Str):PExpr:= .mk 3 s 0 [] []
def eVar (s:Str):PExpr:= .mk 4 s 0 [] []
def pStrs (sort:Int) (sep:Str):Nat→List PTok→PR (List Str)
 |0,_=> .out
 |n+1,ts=>wordS sort ts fun s ts=>if hasS sep ts=true then(pStrs sort sep n ts.tail).bind fun l ts=> .ok (s::l) ts else .ok [s] ts
def pNames (m:Nat) (opn cls:Str) (ts:List PTok):PR (List Str):=qd8 opn ts fun ts=>(pStrs 1 [44] m ts).bind fun l ts=>qd8 cls ts fun ts=> .ok l ts
def pExprs (R:Rd) (o:Nat):Nat→List PTok→PR (List PExpr)
 |0,_=> .out
 |n+1,ts=>(R o 1 ts).bind fun e ts=>if hasS [44] ts=true then(pExprs R o n ts.tail).bind fun l ts=> .ok (e::l) ts else .ok [e] ts
def pArmL (R:Rd) (o:Nat):Nat→List PTok→PR (List (Str×PExpr))
 |0,_=> .out
 |n+1,ts=>wordS 2 ts fun c ts=>qd8 [45,62] ts fun ts=>(R o 1 ts).bind fun e ts=>if hasS [124] ts=true then(pArmL R o n ts.tail).bind fun l ts=> .ok ((c,e)::l) ts else .ok [(c,e)] ts
def pArms (m:Nat) (R:Rd) (o:Nat) (op:Int) (ts:List PTok):PR PExpr:=
 wordS 1 ts fun x ts=>qd8 [40] ts fun ts=>(pArmL R o m ts).bind fun l ts=>qd8 [41] ts fun ts=> .ok (.mk op x 0 (l.map (·.1)) (l.map (·.2))) ts
def pCall (m:Nat) (R:Rd) (o:Nat) (x:Str) (ts:List PTok):PR PExpr:=
 (if hasS [91] ts=true then pNames m [91] [93] ts else .ok [] ts).bind fun c ts=>qd8 [40] ts fun ts=>(pExprs R o m ts).bind fun l ts=>qd8 [41] ts fun ts=> .ok (.mk 14 x 0 c l) ts
def pAtom (m:Nat) (R:Rd) (o:Nat) (ts:List PTok):PR PExpr:=
 if sortT ts=3 then(match ts with|t::r=> .ok (eInt t.n) r|[]=> .out)
 else if sortT ts=2 then(match ts with|t::r=> .ok (eCon t.text) r|[]=> .out)
 else if sortT ts=1 then(match ts with|t::r=>if hasS [91] r||hasS [40] r then pCall m R o t.text r else .ok (eVar t.text) r|[]=> .out)
 else if hasS [116,114,117,101] ts=true then .ok (eBool 1) ts.tail
 else if hasS [102,97,108,115,101] ts=true then .ok (eBool 0) ts.tail
 else if hasS [109,101,114,103,101] ts=true then pArms m R o 12 ts.tail
 else if hasS [109,97,116,99,104] ts=true then pArms m R o 13 ts.tail
 else qd8 [40] ts fun ts=>(R o 1 ts).bind fun e ts=>qd8 [41] ts fun ts=> .ok e ts
def qlp:Nat→PExpr→List PTok→PR PExpr
 |0,_,_=> .out
 |n+1,e,ts=>if hasS [119,104,101,110] ts=true then wordS 2 ts.tail fun c ts=>qd8 [40] ts fun ts=>wordS 1 ts fun x ts=>qd8 [41] ts fun ts=>qlp n (eWhen x c e) ts else .ok e ts
def qg4 (m:Nat) (R:Rd) (o:Nat) (ts:List PTok):PR PExpr:=
 (pAtom m R o ts).bind fun e ts=>(if e.op==14 && hasS [101,118,101,114,121] ts then(R o 0 ts.tail).bind fun k ts=> .ok (eEvery e k) ts else .ok e ts).bind fun e ts=>qlp m e ts
def qoe (m:Nat) (R:Rd) (o:Nat) (ts:List PTok):PR PExpr:=
 if hasS [110,111,116] ts=true then(R o 0 ts.tail).bind fun k ts=> .ok (eUn [110,111,116] k) ts
 else if hasS [45] ts=true then(R o 0 ts.tail).bind fun k ts=> .ok (eUn [45] k) ts
 else if hasS [112,114,101] ts=true then(R o 0 ts.tail).bind fun k ts=> .ok (ePre k) ts
 else if hasS [105,102] ts=true then(R o 1 ts.tail).bind fun a ts=>qd8 [116,104,101,110] ts fun ts=>(R o 1 ts).bind fun b ts=>qd8 [101,108,115,101] ts fun ts=>(R o 1 ts).bind fun c ts=> .ok (eIf a b c) ts
 else qg4 m R o ts
def pLoop (R:Rd) (o least:Nat):Nat→Nat→PExpr→List PTok→PR PExpr
 |0,_,_,_=> .out
 |n+1,most,left,ts=>
  if qi8 (qhn ts)<least∨most<qi8 (qhn ts)then .ok left ts
  else if qi8 (qhn ts)=1 then(R o 1 ts.tail).bind fun r ts=> .ok (eArrow left r) ts
  else if qi8 (qhn ts)=2 then(R o 2 ts.tail).bind fun r ts'=>pLoop R o least n 1 (eFby left r) ts'
  else(R o (qi8 (qhn ts)+1) ts.tail).bind fun r ts'=>pLoop R o least n (if qi8 (qhn ts)=5 then 4 else qi8 (qhn ts)) (eBin (qhn ts) left r) ts'
def pE:Nat→Rd
 |0,_,_,_=> .out
 |n+1,o,least,ts=>if least=0 then(if 100≤o then .bad 9 ts else qoe n (pE n) (o+1) ts)
  else(pE n o 0 ts).bind fun left ts=>pLoop (pE n) o least n 7 left ts
def Ev {α:Type} (f:Nat→Nat→α) (x:α):Prop:=∃N,∀m n,N≤m→N≤n→f m n=x
theorem Ev.pure {α:Type} {x:α} {f:Nat→Nat→α} (h:∀m n,f m n=x):Ev f x:=⟨0,fun m n _ _=>h m n⟩
theorem Ev.congr {α:Type} {x:α} {f g:Nat→Nat→α} (h:∀m n,f m n=g m n) (k:Ev g x):Ev f x:=by
 obtain⟨N,k⟩:=k
 exact⟨N,fun m n a b=>by rw[h,k m n a b]⟩
theorem Ev.bind {α β:Type} {f:Nat→Nat→PR α} {k:Nat→Nat→α→List PTok→PR β} {a:α} {ts:List PTok} {x:PR β} (h:Ev f (.ok a ts)) (h2:Ev (fun m n=>k m n a ts) x):Ev (fun m n=>(f m n).bind (k m n)) x:=by
 obtain⟨N,h⟩:=h;obtain⟨M,h2⟩:=h2
 exact⟨max N M,fun m n a b=>by
  show(f m n).bind (k m n)=x
  rw[h m n (by omega) (by omega)];exact h2 m n (by omega) (by omega)⟩
theorem Ev.succ {α:Type} {f:Nat→Nat→α} {g:Nat→Nat→α} {x:α} (h:∀m n,f (m+1) n=g m n) (k:Ev g x):Ev f x:=by
 obtain⟨N,k⟩:=k
 refine⟨N+1,fun m n a b=> ?_⟩
 obtain⟨m,rfl⟩:∃m',m=m'+1:=⟨m-1,by omega⟩
 rw[h];exact k m n (by omega) (by omega)
theorem Ev.un {o:Nat} {ts:List PTok} {x:PR PExpr} (ho:o<100) (h:Ev (fun m n=>qoe m (pE n) (o+1) ts) x):Ev (fun _ n=>pE n o 0 ts) x:=by
 obtain⟨N,h⟩:=h
 refine⟨N+1,fun m n a b=> ?_⟩
 obtain⟨n,rfl⟩:∃n',n=n'+1:=⟨n-1,by omega⟩
 show pE (n+1) o 0 ts=x
 simp only[pE,if_true]
 rw[if_neg (by omega)]
 exact h n n (by omega) (by omega)
end Go.Ab
