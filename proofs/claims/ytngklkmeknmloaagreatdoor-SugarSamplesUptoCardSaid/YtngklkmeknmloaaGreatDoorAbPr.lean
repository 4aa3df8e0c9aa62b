/- What is told of an expression that may be is read as that expression. -/
import Derived.Test.YtngklkmeknmloaaGreatDoorAbBox
import Derived.Test.YtngklkmeknmloaaGreatDoorAbEffB
import Derived.Test.YtngklkmeknmloaaGreatDoorAbSame
import Derived.Test.YtngklkmeknmloaaGreatDoorAbTypes
import Derived.Test.YtngklkmeknmloaaGreatDoorAbOf
import Derived.Test.YtngklkmeknmloaaGreatDoorAbPSpec
import Derived.Test.YtngklkmeknmloaaGreatDoorAbTok
set_option linter.unusedSimpArgs false
set_option linter.unusedVariables false
set_option maxRecDepth 100000
set_option maxHeartbeats 4000000
open List renaming getElem?_append_left→wa,getElem?_eq_some_iff→wb
namespace Go.Ab
def encS (l:List Str):List (List AVal):=l.map fun s=>[.str s]
def PrAt (T:TypeId) (h:qaa) (b:Nat) (ws:List Str):Option Nat→Prop
 |none=>ws=[]∧h[b]? =some (.box [.slice [] .full])
 |some t=>h[b]? =some (.box [.slice (encS ws) (.own t)])∧h[t]? =some (.tok ws.length T)
theorem PrAt.app {T:TypeId} {h:qaa} {b:Nat} {ws:List Str} {tk:Option Nat} (p:PrAt T h b ws tk) (l:qaa):PrAt T (h++l) b ws tk:=by
 cases tk with
 |none=>exact⟨p.1,by rw[wa (wb.1 p.2).1];exact p.2⟩
 |some t=>exact⟨by rw[wa (wb.1 p.1).1];exact p.1,by rw[wa (wb.1 p.2).1];exact p.2⟩
def Canon (T:TypeId) (h:qaa) (ws:List Str):Option Nat→Prop
 |none=>ws=[]∧h=[.box [.slice [] .full]]
 |some t=>t=1∧h=[.box [.slice (encS ws) (.own 1)],.tok ws.length T]
def pOwn (T:TypeId) (ws:List Str):qaa:=[.box [.slice (encS ws) (.own 1)],.tok ws.length T]
theorem Canon.at {T:TypeId} {h:qaa} {ws:List Str} {tk:Option Nat} (c:Canon T h ws tk):PrAt T h 0 ws tk:=by
 cases tk with
 |none=>obtain⟨rfl,rfl⟩:=c;exact⟨rfl,rfl⟩
 |some t=>obtain⟨rfl,rfl⟩:=c;exact⟨rfl,rfl⟩
def Others (b:Nat) (h h':qaa):Prop:=∀(k:Nat) (cs:List AVal),k≠b→h[k]? =some (.box cs)→h'[k]? =some (.box cs)
theorem Others.refl (b:Nat) (h:qaa):Others b h h:=fun _ _ _ e=>e
theorem Others.app (b:Nat) (h l:qaa):Others b h (h++l):=fun k cs _ e=>Boxes.app h l k cs e
def PrC (T:TypeId) (C:Call) (f:FuncId) (rest:List AVal) (out:List Str):Prop:=
 ∀(ws:List Str) (tk:Option Nat) (h:qaa),Canon T h ws tk→ws.length+out.length≤qae→qgd C f (.ptr 0 0::rest) h (.tuple []) (pOwn T (ws++out))
def PrO (T:TypeId) (C:Call) (f:FuncId) (rest:List AVal) (out:List Str):Prop:=
 ∀(ws:List Str),ws.length+out.length≤qae→qgd C f (.ptr 0 0::rest) (pOwn T ws) (.tuple []) (pOwn T (ws++out))
theorem PrC.own {T:TypeId} {C:Call} {f:FuncId} {rest:List AVal} {out:List Str} (c:PrC T C f rest out):PrO T C f rest out:=fun ws hl=>c ws (some 1) (pOwn T ws) ⟨rfl,rfl⟩ hl
def sepW (sign:Str):List (List Str)→List Str
 |[]=>[]
 |x::r=>x++r.flatMap fun y=>sign::y
end Go.Ab
namespace Go.Ab
open Go Go.Ab.Tab
def boolW (b:Bool):Str:=if b=true then[116,114,117,101]else[102,97,108,115,101]
def kW (ks:List (List Str)) (i:Nat):List Str:=match ks[i]? with|some x=>x|none=>[[63]]
def btwW (a:List Str) (w:Str) (b:List Str):List Str:=[[40]]++a++[w]++b++[[41]]
def armL (cons:List Str) (ks:List (List Str)):List (List Str):=List.zipWith (fun c k=>[c,[45,62]]++k) cons ks
def armsW (word name:Str) (cons:List Str) (ks:List (List Str)):List Str:=[word,name,[40]]++sepW [124] (armL cons ks)++[[41]]
def listW (l:List Str) (sign:Str):List Str:=sepW sign (l.map fun s=>[s])
def brW (l:List Str):List Str:=if l.length=0 then[]else[[91]]++listW l [44]++[[93]]
def callW (name:Str) (cons:List Str) (ks:List (List Str)):List Str:=[name]++brW cons++[[40]]++sepW [44] ks++[[41]]
def wordsOf (op:Int) (name:Str) (n:Int) (cons:List Str) (ks:List (List Str)):List Str:=
 if op=1 then[decB n]else if op=2 then[boolW (n==1)]else if op=3 then[name]else if op=4 then[name]
 else if op=5 then[[40],name]++kW ks 0++[[41]]
 else if op=6 then btwW (kW ks 0) name (kW ks 1)
 else if op=7 then[[40],[105,102]]++kW ks 0++[[116,104,101,110]]++kW ks 1++[[101,108,115,101]]++kW ks 2++[[41]]
 else if op=8 then btwW (kW ks 0) [102,98,121] (kW ks 1)
 else if op=10 then btwW (kW ks 0) [45,62] (kW ks 1)
 else if op=15 then btwW (kW ks 0) [101,118,101,114,121] (kW ks 1)
 else if op=9 then[[40],[112,114,101]]++kW ks 0++[[41]]
 else if op=11 then[[40]]++kW ks 0++[[119,104,101,110]]++listW cons [44]++[[40],name,[41],[41]]
 else if op=12 then armsW [109,101,114,103,101] name cons ks
 else if op=13 then armsW [109,97,116,99,104] name cons ks
 else if op=14 then callW name cons ks
 else[[63]]
mutual
def PExpr.words:PExpr→List Str
 | .mk op name n cons kids=>wordsOf op name n cons (wordsL kids)
def wordsL:List PExpr→List (List Str)
 |[]=>[]
 |k::r=>k.words::wordsL r
end
end Go.Ab
namespace Go.Ab
open Go Go.Ab.Tab
mutual
def nd:PExpr→Nat
 | .mk _ _ _ _ ks=>ndL ks+1
def ndL:List PExpr→Nat
 |[]=>0
 |k::r=>max (nd k) (ndL r)
end
def stopA (r:List PTok):Prop:=hasS [91] r=false∧hasS [40] r=false
def stopU (r:List PTok):Prop:=stopA r∧hasS [119,104,101,110] r=false∧hasS [101,118,101,114,121] r=false
def noPre (ts:List PTok):Prop:=∀m R o,qoe m R o ts=qg4 m R o ts
def Back (e:PExpr):Prop:=∀o r,o+2*nd e≤102→stopA r→Ev (fun m n=>pAtom m (pE n) o (toks e.words++r)) (.ok e r)
def Fst (e:PExpr):Prop:=∀r,noPre (toks e.words++r)
theorem Ev.when0 {e:PExpr} {r:List PTok} (hw:hasS [119,104,101,110] r=false):Ev (fun m _=>qlp m e r) (.ok e r):=
 Ev.succ (g:=fun _ _=> .ok e r) (fun m n=>by simp only[qlp,hw];rfl) (Ev.pure fun _ _=>rfl)
theorem Ev.sampled {o:Nat} {ts r:List PTok} {e:PExpr} (h:Ev (fun m n=>pAtom m (pE n) o ts) (.ok e r)) (hw:hasS [119,104,101,110] r=false) (he:hasS [101,118,101,114,121] r=false):Ev (fun m n=>qg4 m (pE n) o ts) (.ok e r):=by
 unfold qg4
 refine Ev.bind (f:=fun m n=>pAtom m (pE n) o ts) (k:=fun m n e ts=>(if e.op==14 && hasS [101,118,101,114,121] ts then(pE n o 0 ts.tail).bind fun k ts=> .ok (eEvery e k) ts else .ok e ts).bind fun e ts=>qlp m e ts) h ?_
 refine Ev.congr (g:=fun m _=>qlp m e r) (fun m n=> ?_) (Ev.when0 hw)
 simp only[he,Bool.and_false];rfl
theorem Ev.unary {o:Nat} {ts:List PTok} {x:PR PExpr} (h:Ev (fun m n=>qg4 m (pE n) (o+1) ts) x) (hf:noPre ts) (ho:o<100):Ev (fun _ n=>pE n o 0 ts) x:=
 Ev.un ho (Ev.congr (fun m n=>hf m (pE n) (o+1)) h)
theorem Back.unary {k:PExpr} (hb:Back k) (hf:Fst k) {o:Nat} {r:List PTok} (h:o+1+2*nd k≤102) (ho:o<100) (hs:stopU r):Ev (fun _ n=>pE n o 0 (toks k.words++r)) (.ok k r):=
 Ev.unary (Ev.sampled (hb (o+1) r h hs.1) hs.2.1 hs.2.2) (hf r) ho
end Go.Ab
