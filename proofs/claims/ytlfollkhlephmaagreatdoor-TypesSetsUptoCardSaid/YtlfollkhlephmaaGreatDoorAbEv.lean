/- An evaluator over the loaded code with pure values: the definitions. -/
import GoSem.Core.Lib
import GoSem.Core.View
import GoSem.Core.Code
import GoSem.Core.Region
set_option linter.unusedSimpArgs false
set_option linter.unusedVariables false
set_option maxRecDepth 100000
set_option maxHeartbeats 4000000
open BitVec renaming ofInt→wa
namespace Go.Ab
theorem Ji {a b:Prop} (x:a) (y:b):a∧b:=⟨x,y⟩
inductive Tk where
 |free|full|own (t:Nat)|zero
 deriving DecidableEq,Inhabited
inductive AVal where
 |undef
 |bool (b:Bool)
 |int (k:IntKind) (n:Int)
 |str (s:List UInt8)
 |nilp
 |ptr (b off:Nat)
 |eptr (cells:List AVal) (off:Nat)
 |slice (elems:List (List AVal)) (tk:Tk)
 |ms (elems:List (List AVal)) (b n m:Nat)
 |mptr (b off n:Nat)
 |mref (b:Nat)
 |nilm
 |func (f:FuncId) (first cap:List AVal)
 |nilf
 |iface (t:TypeId) (v:AVal)
 |nili
 |agg (cells:List AVal)
 |tuple (vs:List AVal)
 deriving Inhabited
inductive Blk where
 |box (cells:List AVal)
 |tok (len:Nat) (e:TypeId)
 |arr (p:Nat) (cells:List AVal) (len:Nat) (e:TypeId)
 |map (ks vs:List AVal)
 deriving Inhabited
def Blk.isR:Blk→Bool
 | .box _| .map .. =>true
 |_=>false
def Blk.tl:Blk→Option Nat
 | .tok l _=>some l
 | .arr _ _ l _=>some l
 |_=>none
abbrev qaa:=List Blk
def AVal.cells:AVal→List AVal
 | .agg cs=>cs
 |v=>[v]
def ofV0:Value→Option AVal
 | .bool b=>some (.bool b)
 | .int k n=>some (.int k n)
 | .string s=>some (.str s.data.toList)
 | .pointer none=>some .nilp
 | .slice none 0 0=>some (.slice [] .full)
 | .nilFunc=>some .nilf
 | .nilIface=>some .nili
 | .map none=>some .nilm
 |_=>none
def ofVs:List Value→Option (List AVal)
 |[]=>some []
 |v::r=>match ofV0 v,ofVs r with|some a,some l=>some (a::l)|_,_=>none
def ofV:Value→Option AVal
 | .agg cs=>(ofVs cs.toList).map .agg
 | .tuple vs=>(ofVs vs.toList).map .tuple
 |v=>ofV0 v
def qb4 (k:IntKind) (n:Int):Int:=
 match k with
 | .i64=>if -9223372036854775808≤n && n≤9223372036854775807 then n else IntKind.wrap .i64 n
 |k=>k.wrap n
mutual
def refs:AVal→List Nat
 | .ptr b _=>[b]
 | .slice _ (.own t)=>[t]
 | .ms _ b _ _=>[b]
 | .mptr b _ _=>[b]
 | .mref b=>[b]
 | .func _ a b=>qaf a++qaf b
 | .iface _ v=>refs v
 | .agg cs=>qaf cs
 | .tuple vs=>qaf vs
 |_=>[]
def qaf:List AVal→List Nat
 |[]=>[]
 |v::r=>refs v++qaf r
end
mutual
def ren (σ:Nat→Nat):AVal→AVal
 | .ptr b o=> .ptr (σ b) o
 | .slice es (.own t)=> .slice es (.own (σ t))
 | .ms es b n m=> .ms es (σ b) n m
 | .mptr b o n=> .mptr (σ b) o n
 | .mref b=> .mref (σ b)
 | .func f a b=> .func f (renL σ a) (renL σ b)
 | .iface t v=> .iface t (ren σ v)
 | .agg cs=> .agg (renL σ cs)
 | .tuple vs=> .tuple (renL σ vs)
 |v=>v
def renL (σ:Nat→Nat):List AVal→List AVal
 |[]=>[]
 |v::r=>ren σ v::renL σ r
end
def renB (σ:Nat→Nat):Blk→Blk
 | .box cs=> .box (renL σ cs)
 | .tok l e=> .tok l e
 | .arr p cs l e=> .arr p (renL σ cs) l e
 | .map ks vs=> .map (renL σ ks) (renL σ vs)
def lowA (n:Nat) (v:AVal):Bool:=(refs v).all (· <n)
def oneA:AVal→Bool
 | .undef| .agg _| .tuple _=>false
 |_=>true
def qaq (v:AVal):Bool:=oneA v && (refs v).isEmpty
def qas:AVal→AVal
 | .slice es _=> .slice es .free
 |v=>v
def strip2:AVal→AVal
 | .agg cs=> .agg (cs.map qas)
 |v=>qas v
def strip3:AVal→AVal
 | .tuple vs=> .tuple (vs.map strip2)
 |v=>strip2 v
def argA:AVal→AVal
 | .agg cs=> .agg (cs.map qas)
 |v=>v
def qc0 (cs:List AVal):Option (List AVal):=
 let cs:=cs.map qas
 if cs.all qaq then some cs else none
inductive Eff where
 |same
 |heap (h:qaa) (d:List Nat)
 deriving Inhabited
inductive CR where
 |ret (v:AVal) (e:Eff)
 |pan (v:AVal) (e:Eff)
 deriving Inhabited
inductive OR where
 |val (v:AVal) (e:Eff)
 |pan (v:AVal) (e:Eff)
 deriving Inhabited
def Eff.of (h:qaa):Eff→qaa
 | .same=>h
 | .heap h' _=>h'
def Eff.dirt:Eff→List Nat
 | .same=>[]
 | .heap _ d=>d
def Eff.isSame:Eff→Bool
 | .same=>true
 | .heap .. =>false
structure St where
 tmps:List AVal
 heap:qaa
 dirty:List Nat
 deriving Inhabited
inductive AEx where
 |normal
 |exit (id:Nat)
 |ret
 |pan (v:AVal)
 deriving Inhabited
section
variable (P:Program)
def qah (t:TypeId):Option Nat:=(P.info? t).map (·.size)
def qbj (t:TypeId):Option Nat:=(P.info? t).map (·.bytes)
def qap (t:TypeId):Option AVal:=match P.info? t with
 |some i=>match i.zero with|some v=>ofV v|none=>none
 |none=>none
def aggA (t:TypeId):Option Bool:=match P.underlying t with
 |some (.struct _)|some (.array ..)=>some true
 |some _=>some false
 |none=>none
def qbp (t:TypeId) (cs:List AVal) (off:Nat):Option AVal:=
 match aggA P t,qah P t with
 |some true,some n=>let r:=(cs.drop off).take n;if r.length=n then some (.agg r)else none
 |some false,some 1=>cs[off]?
 |_,_=>none
def qb9 (h:qaa) (t:TypeId):AVal→Option AVal
 | .ptr b off=>match h[b]? with
  |some (.box cs)=>qbp P t cs off
  |_=>none
 | .eptr cs off=>qbp P t cs off
 | .mptr b off n=>match h[b]? with
  |some (.arr p cs l _)=>if n=l∧p≤off then qbp P t cs (off-p)else none
  |_=>none
 |_=>none
def qai:List AVal→Nat→List AVal→Option (List AVal)
 |cs,0,vs=>if vs.length≤cs.length then some (vs++cs.drop vs.length)else none
 |c::cs,n+1,vs=>(qai cs n vs).map (c:: ·)
 |[],_+1,_=>none
def qbk (h:qaa) (t:TypeId) (a v:AVal):Option (qaa×Nat):=
 match a with
 | .ptr b off=>match h[b]?,qah P t with
  |some (.box cs),some n=>if v.cells.length=n && v.cells.all oneA then(qai cs off v.cells).map fun cs=>(h.set b (.box cs),b)else none
  |_,_=>none
 | .mptr b off k=>match h[b]?,qah P t with
  |some (.arr p cs l e),some n=>if k=l∧p≤off then(if v.cells.length=n && v.cells.all oneA then(qai cs (off-p) v.cells).map fun cs=>(h.set b (.arr p cs l e),b)else none)else none
  |_,_=>none
 |_=>none
def qa4 (s:TypeId) (i:Nat):Option (Nat×TypeId):=match P.underlying s with
 |some (.struct fs)=>match fs[i]? with
  |some f=>match qah P f.type with|some (_+1)=>some (f.offset,f.type)|_=>none
  |none=>none
 |_=>none
def qc2 (t:TypeId):Option TypeId:=match P.underlying t with
 |some (.slice e)=>some e
 |_=>none
def qa2 (place:Nat→Option (Nat×Nat)) (cells:List AVal):List (Nat×AVal)→Option (List AVal)
 |[]=>some cells
 |(i,v)::rest=>match place i with
  |none=>none
  |some (off,size)=>if v.cells.length=size then
   match qai cells off v.cells with|some cs=>qa2 place cs rest|none=>none
   else none
def chop (size:Nat):Nat→List AVal→List (List AVal)
 |0,_=>[]
 |n+1,cs=>cs.take size::chop size n (cs.drop size)
def qbz:List (List AVal)→Option (List (List AVal))
 |[]=>some []
 |c::r=>match qc0 c,qbz r with|some c,some r=>some (c::r)|_,_=>none
def eqS (t:TypeId) (x y:AVal):Option Bool:=
 match P.underlying t,x,y with
 |some .bool,.bool a,.bool b=>some (a==b)
 |some (.int _),.int k a,.int k' b=>if k=k' then some (a==b)else none
 |some .string,.str a,.str b=>some (a==b)
 |_,_,_=>none
def eqFields (a b:List AVal):List Field→Option Bool
 |[]=>some true
 |f::fs=>match a[f.offset]?,b[f.offset]? with
  |some x,some y=>match eqS P f.type x y with
   |some true=>eqFields a b fs
   |some false=>some false
   |none=>none
  |_,_=>none
def eqT (cmp:List TypeId) (t:TypeId) (nilc:Bool) (x y:AVal):Option Bool:=
 match P.underlying t,x,y with
 |some .bool,.bool a,.bool b=>some (a==b)
 |some (.pointer _),.nilp,.nilp=>some true
 |some (.pointer _),.nilp,.ptr .. =>some false
 |some (.pointer _),.ptr ..,.nilp=>some false
 |some (.func ..),.nilf,.nilf=>some true
 |some (.func ..),.nilf,.func .. =>some false
 |some (.func ..),.func ..,.nilf=>some false
 |some (.interface _),.nili,.nili=>if nilc then some true else none
 |some (.interface _),.nili,.iface .. =>some false
 |some (.interface _),.iface ..,.nili=>some false
 |some (.struct fs),.agg a,.agg b=>if cmp.contains t then eqFields P a b fs.toList else none
 |_,_,_=>none
def qb7 (op:BinOp) (k:IntKind) (a b:Int):Option AVal:=
 match op with
 | .add=>some (.int k (qb4 k (a+b)))
 | .sub=>some (.int k (qb4 k (a-b)))
 | .mul=>some (.int k (qb4 k (a*b)))
 | .quo=>if b=0 then none else some (.int k (qb4 k (a.tdiv b)))
 | .rem=>if b=0 then none else some (.int k (a.tmod b))
 | .eql=>some (.bool (a==b))
 | .neq=>some (.bool (a !=b))
 | .lss=>some (.bool (a<b))
 | .leq=>some (.bool (a≤b))
 | .gtr=>some (.bool (b<a))
 | .geq=>some (.bool (b≤a))
 | .and=>some (.int k (k.wrap ((wa k.bits a) &&& (wa k.bits b)).toNat))
 | .or=>some (.int k (k.wrap ((wa k.bits a)|||(wa k.bits b)).toNat))
 |_=>none
def qfq:Nat:=4611686018427387904
def qbl:Operand→Bool
 | .const _=>true
 |_=>false
def isAgg0:Operand→Bool
 | .const (.agg _)=>true
 |_=>false
def binA (cmp:List TypeId) (op:BinOp) (t:TypeId) (nilc:Bool) (x y:AVal):Option AVal:=
 match x,y with
 | .int k a,.int k' b=>match op with
  | .shl=>none
  | .shr=>none
  |op=>if k=k' then qb7 op k a b else none
 | .str a,.str b=>match op with
  | .add=>if a.length+b.length≤qfq then some (.str (a++b))else none
  | .eql=>some (.bool (a==b))
  | .neq=>some (.bool (!(a==b)))
  |_=>none
 |x,y=>match op with
  | .eql=>(eqT P cmp t nilc x y).map .bool
  | .neq=>(eqT P cmp t nilc x y).map fun r=> .bool !r
  |_=>none
def unA (op:UnOp):AVal→Option AVal
 | .bool b=>match op with| .not=>some (.bool !b)|_=>none
 | .int k n=>match op with| .neg=>some (.int k (qb4 k (0-n)))|_=>none
 |_=>none
def qi6 (src dst:TypeId) (x:AVal):Option AVal:=
 match P.underlying src,P.underlying dst,x with
 |some (.int _),some (.int k),.int _ n=>some (.int k (qb4 k n))
 |some .string,some .string,.str s=>some (.str s)
 |_,_,_=>none
def qgl:Nat:=1099511627776
def qcl (s:Nat):List (List AVal)→Bool
 |[]=>true
 |c::_=>c.length==s
def qe3 (n:AVal) (max:Nat):Option Nat:=match n with
 | .int _ i=>if 0≤i∧i≤max then some i.toNat else none
 |_=>none
def qi7 (tk:Tk) (l h len:Nat) (max:Option Nat):Tk:=
 match max with
 |some m=>if m=h then .full else .free
 |none=>if l=0∧h=len then tk else if h=len then(match tk with| .full=> .full|_=> .free)else .free
def qgm (t:TypeId) (x:AVal) (lo hi max:Option AVal):Option AVal:=
 match P.underlying t,x with
 |some .string,.str s=>match max with
  |some _=>none
  |none=>match(match hi with|some v=>qe3 v s.length|none=>some s.length)with
   |none=>none
   |some h=>match(match lo with|some v=>qe3 v h|none=>some 0)with
    |none=>none
    |some l=>some (.str ((s.drop l).take (h-l)))
 |some (.slice e),.slice es tk=>match(match max with|some v=>(qe3 v es.length).map some|none=>some none)with
  |none=>none
  |some m=>match(match hi with|some v=>qe3 v (m.getD es.length)|none=>match m with|none=>some es.length|some _=>none)with
   |none=>none
   |some h=>match(match lo with|some v=>qe3 v h|none=>some 0)with
    |none=>none
    |some l=>match qah P e with
     |some s=>if qcl s es then some (.slice ((es.drop l).take (h-l)) (qi7 tk l h es.length m))else none
     |none=>none
 |some (.slice e),.ms es b n _=>match lo,hi,max,qah P e with
  |none,some v,none,some _=>(match qe3 v n with
   |some h=>if es.length≤h then some (.ms es b n h)else none
   |none=>none)
  |_,_,_,_=>none
 |_,_=>none
def qbu (h:qaa) (t:TypeId) (s x:AVal):Option (AVal×Eff):=
 match qc2 P t,s,x with
 |some e,.slice es tk,.slice fs tk'=>match qah P e,qbj P e,qap P e with
  |some (sz+1),some by_,some z=>
   if es.length+fs.length≤qgl && 0<by_ && by_≤128 && z.cells.length==sz+1 && qcl (sz+1) es && qcl (sz+1) fs then
    match fs with
    |[]=>some (.slice es tk,.same)
    |_=>match tk with
     | .full=>some (.slice (es++fs) (.own h.length),.heap (h++[.tok (es.length+fs.length) e]) [])
     | .own b=>match h[b]? with
      |some (.tok n e')=>if n=es.length && e'=e && !(tk'== .own b)then some (.slice (es++fs) (.own b),.heap (h.set b (.tok (n+fs.length) e)) [b])else none
      |_=>none
     | .free| .zero=>none
   else none
  |_,_,_=>none
 |_,_,_=>none
def isMs:AVal→Bool
 | .ms .. =>true
 |_=>false
def isZr:AVal→Bool
 | .slice _ .zero=>true
 |_=>false
def toM (s x:AVal):Bool:=isMs s||isZr x
def isGr:AVal→Bool
 | .slice _ .full| .slice _ (.own _)=>true
 |_=>false
def isNe:AVal→Bool
 | .slice (_::_) _=>true
 |_=>false
def useM (b:Bool) (s x:AVal):Bool:=toM s x||(b && (isGr s && isNe x))
def bigM:List TypeId→Bool
 |_::_::_=>true
 |_=>false
def qgn (fs:List (List AVal)) (s:AVal):Option (AVal×Eff):=match fs,s with
 |[],.ms es b n m=>some (.ms es b n m,.same)
 |_,_=>none
def qcg (h:qaa) (t:TypeId) (s x:AVal):Option (AVal×Eff):=
 match qc2 P t,x with
 |some e,.slice fs _=>match qah P e,qbj P e,qap P e with
  |some (sz+1),some by_,some z=>
   if 0<fs.length && 0<by_ && by_≤128 && z.cells.length==sz+1 && qcl (sz+1) fs then
    match s with
    | .slice es .full=>if es.length+fs.length≤qgl && qcl (sz+1) es then
     some (.ms es h.length (es.length+fs.length) (es.length+fs.length),.heap (h++[.arr (es.length*(sz+1)) fs.flatten (es.length+fs.length) e]) [])else none
    | .slice es (.own b)=>(match h[b]? with
     |some (.tok n e')=>if n=es.length && e'=e && n+fs.length≤qgl && qcl (sz+1) es then
      some (.ms es b (n+fs.length) (n+fs.length),.heap (h.set b (.arr (es.length*(sz+1)) fs.flatten (n+fs.length) e)) [b])else none
     |_=>none)
    | .ms es b n m=>(match h[b]? with
     |some (.arr p cs l e')=>if n=l && e'=e && n+fs.length≤qgl && p=es.length*(sz+1) && qcl (sz+1) es then
      (if m=n then some (.ms es b (n+fs.length) (n+fs.length),.heap (h.set b (.arr p (cs++fs.flatten) (n+fs.length) e)) [b])
      else if m+fs.length≤n then(match qai cs (m*(sz+1)-p) fs.flatten with
       |some cs'=>some (.ms es b n (m+fs.length),.heap (h.set b (.arr p cs' l e)) [b])
       |none=>none)else none)else none
     |_=>none)
    |_=>none
   else qgn fs s
  |_,_,_=>none
 |_,_=>none
def qgo (h:qaa) (t:TypeId) (s x:AVal):Option (AVal×Eff):=
 match qc2 P t,s,x with
 |some e,.slice [] .full,.int _ n=>match qah P e,qbj P e,qap P e with
  |some (sz+1),some by_,some z=>
   if 0<n && n.toNat≤qgl && 0<by_ && by_≤128 && z.cells.length==sz+1 then
    some (.ms [] h.length n.toNat n.toNat,.heap (h++[.arr 0 (List.replicate n.toNat z.cells).flatten n.toNat e]) [])
   else none
  |_,_,_=>none
 |_,_,_=>none
def qbf (b:Bool) (h:qaa) (t:TypeId) (s x:AVal):Option (AVal×Eff):=
 if useM b s x then qcg P h t s x else qbu P h t s x
abbrev qlo (h:qaa) (t:TypeId) (s x:AVal):Option (AVal×Eff):=qbf P false h t s x
def qg0 (t:TypeDesc) (k:AVal):List AVal→Option (Option Nat)
 |[]=>some none
 |x::r=>match t,k,x with
  | .int _,.int a m,.int b n=>if a=b then(if m=n then some (some 0)else match qg0 t k r with|some (some i)=>some (some (i+1))|q=>q)else none
  | .string,.str m,.str n=>if m=n then some (some 0)else match qg0 t k r with|some (some i)=>some (some (i+1))|q=>q
  |_,_,_=>none
def keyOk (t:TypeDesc) (k:AVal):Bool:=match t,k with
 | .int a,.int b _=>decide (b=a)
 | .string,.str _=>true
 |_,_=>false
def qcw (h:qaa) (t:TypeId) (m k:AVal) (ok:Bool):Option AVal:=
 match P.underlying t with
 |some (.map kt et)=>match P.underlying kt,qap P et with
  |some kd,some z=>if keyOk kd k then
   (match m with
   | .nilm=>some (if ok then .tuple [z,.bool false]else z)
   | .mref b=>(match h[b]? with
    |some (.map ks vs)=>(match qg0 kd k ks with
     |some (some i)=>(match vs[i]? with|some v=>some (if ok then .tuple [v,.bool true]else v)|none=>none)
     |some none=>some (if ok then .tuple [z,.bool false]else z)
     |none=>none)
    |_=>none)
   |_=>none)else none
  |_,_=>none
 |_=>none
def qdd (h:qaa) (t:TypeId) (m k x:AVal):Option (qaa×Nat):=
 match P.underlying t,m with
 |some (.map kt _),.mref b=>match P.underlying kt,h[b]? with
  |some kd,some (.map ks vs)=>if keyOk kd k then
   (match qg0 kd k ks with
   |some (some i)=>some (h.set b (.map ks (vs.set i x)),b)
   |some none=>some (h.set b (.map (ks++[k]) (vs++[x])),b)
   |none=>none)else none
  |_,_=>none
 |_,_=>none
def qc3 (h:qaa) (t:TypeId) (a b:AVal):Option (AVal×Eff):=
 match qc2 P t,a,b with
 |some e,.int _ n,.int _ m=>match qah P e,qbj P e,qap P e with
  |some (s+1),some by_,some z=>if n=m && 0≤n && n.toNat≤qgl && 0<by_ && by_≤128 && z.cells.length==s+1 then
   (match n.toNat with
   |0=>some (.slice [] .full,.same)
   |k+1=>some (.ms [] h.length (k+1) (k+1),.heap (h++[.arr 0 (List.replicate (k+1) z.cells).flatten (k+1) e]) []))else none
  |_,_,_=>none
 |_,_,_=>none
def maxA:List AVal→Option AVal
 |[.int k a,.int k' b]=>if k=k' then some (.int k (if a<b then b else a))else none
 |_=>none
def minA:List AVal→Option AVal
 |[.int k a,.int k' b]=>if k=k' then some (.int k (if b<a then b else a))else none
 |_=>none
def qab:Operand→List AVal→Option AVal
 | .tmp t,ts=>ts[t]?
 | .const v,_=>ofV v
 | .func f,_=>some (.func f [] [])
 | .global _,_=>none
def qal (ts:List AVal):List Operand→Option (List AVal)
 |[]=>some []
 |o::r=>match qab o ts,qal ts r with|some a,some l=>some (a::l)|_,_=>none
def qar (ts:List AVal):List (Nat×Operand)→Option (List (Nat×AVal))
 |[]=>some []
 |(i,o)::r=>match qab o ts,qar ts r with|some a,some l=>some ((i,a)::l)|_,_=>none
def optA (ts:List AVal):Option Operand→Option (Option AVal)
 |none=>some none
 |some o=>(qab o ts).map some
abbrev Call:=FuncId→List AVal→qaa→Option CR
def qg1:CR→OR
 | .ret v e=> .val v e
 | .pan v e=> .pan v e
def qaw (h:qaa):Nat→List Nat→List Nat→List Nat
 |0,_,done=>done
 |_+1,[],done=>done
 |n+1,b::r,done=>if done.contains b then qaw h n r done else
  match h[b]? with
  |some (.box cs)=>qaw h n (r++qaf cs) (done++[b])
  |some (.arr _ cs _ _)=>qaw h n (r++qaf cs) (done++[b])
  |some (.map ks vs)=>qaw h n (r++(qaf ks++qaf vs)) (done++[b])
  |_=>qaw h n r (done++[b])
def qbv:Blk→List Nat
 | .box cs=>qaf cs
 | .tok .. =>[]
 | .arr _ cs _ _=>qaf cs
 | .map ks vs=>qaf ks++qaf vs
def subH (h:qaa) (idx:List Nat):qaa:=idx.map fun b=>renB (fun x=>idx.idxOf x) (h.getD b (.box []))
def qcs (h:qaa) (idx:List Nat) (args:List AVal):Bool:=
 (qaf args).all (fun b=>idx.contains b) && idx.all fun b=>match h[b]? with|some x=>(qbv x).all fun c=>idx.contains c|none=>false
def qa3 (n:Nat) (idx:List Nat) (i:Nat):Nat:=if i<idx.length then idx.getD i 0 else n+(i-idx.length)
def qch (idx:List Nat) (n:Nat) (h':qaa):List Nat→qaa→qaa
 |[],h=>h
 |i::r,h=>qch idx n h' r (match idx[i]?,h'[i]? with|some b,some x=>h.set b (renB (qa3 n idx) x)|_,_=>h)
def qct (h:qaa) (idx:List Nat):Eff→Eff
 | .same=> .same
 | .heap h' d=> .heap (qch idx h.length h' d h++(h'.drop idx.length).map (renB (qa3 h.length idx))) (d.map (qa3 h.length idx))
def qba (call:Call) (h:qaa) (g:FuncId) (args:List AVal):Option CR:=
 let idx:=qaw h 256 (qaf args) []
 if qcs h idx args then
  match call g (renL (fun x=>idx.idxOf x) args) (subH h idx)with
  |some (.ret v e)=>some (.ret (ren (qa3 h.length idx) v) (qct h idx e))
  |some (.pan v e)=>some (.pan (ren (qa3 h.length idx) v) (qct h idx e))
  |none=>none
 else none
def qfr (h:qaa) (b:Nat):Option AVal:=match h[b]? with
 |some (.map ks _)=>some (.int .i64 ks.length)
 |_=>none
def opA (cmp:List TypeId) (call:Call) (o:Oper) (ts:List AVal) (h:qaa):Option OR:=
 let v (x:Option AVal):Option OR:=match x with|some a=>some (.val a .same)|none=>none
 let c (x:Operand):Option AVal:=qab x ts
 match o.op with
 | .move x| .assign x=>v (c x)
 | .pick b x y=>match c b with
  |some (.bool true)=>v (c x)
  |some (.bool false)=>v (c y)
  |_=>none
 | .alloc t=>match qap P t with
  |some z=>some (.val (.ptr h.length 0) (.heap (h++[.box z.cells]) []))
  |none=>none
 | .box _ x=>match c x with
  |some a=>some (.val (.ptr h.length 0) (.heap (h++[.box a.cells]) []))
  |none=>none
 | .build t ps=>match qap P t,P.underlying t,qar ts ps.toList with
  |some (.agg z),some (.struct fs),some ps=>if fs.all (fun f=>(P.info? f.type).isSome)then
   v ((qa2 (fun i=>match fs[i]? with|some f=>(qah P f.type).map fun s=>(f.offset,s)|none=>none) z ps).map .agg)else none
  |some (.agg z),some (.array _ e),some ps=>
   v (match qah P e with|some s=>(qa2 (fun i=>some (i*s,s)) z ps).map .agg|none=>none)
  |_,_,_=>none
 | .buildSlice t n ps'=>match qc2 P t with
  |some e=>match qah P e,qap P e,qar ts ps'.toList with
   |some (s+1),some z,some ps=>if n*(s+1)≤65536 && z.cells.length==s+1 then
    match qa2 (fun i=>some (i*(s+1),s+1)) (List.replicate n z.cells).flatten ps with
    |some cs=>match qbz (chop (s+1) n cs)with
     |some es=>v (some (.slice es (if !es.isEmpty && (decide (0<s) && ps'.toList.any (fun x=>isAgg0 x.2))then .zero else .full)))
     |none=>none
    |none=>none
    else none
   |_,_,_=>none
  |none=>none
 | .load t a=>match c a with|some a=>v (qb9 P h t a)|none=>none
 | .store t a x=>match c a,c x with
  |some a,some x=>match qbk P h t a x with
   |some (h',b)=>some (.val .undef (.heap h' [b]))
   |none=>none
  |_,_=>none
 | .nilCheck x=>match c x with
  |some (.ptr b o)=>v (some (.ptr b o))
  |some (.eptr cs o)=>v (some (.eptr cs o))
  |some (.mptr b o n)=>v (some (.mptr b o n))
  |some (.func f a b)=>v (some (.func f a b))
  |_=>none
 | .binOp op t x y _=>match c x,c y with
  |some a,some b=>v (binA P cmp op t (qbl x||qbl y) a b)
  |_,_=>none
 | .unOp op _ x=>match c x with|some a=>v (unA op a)|none=>none
 | .convert s d x=>match c x with|some a=>v (qi6 P s d a)|none=>none
 | .makeInterface t x=>match c x,P.underlying t with
  |_,some (.interface _)=>none
  |some a,some _=>v (some (.iface t a))
  |_,_=>none
 | .makeFunc (.func f) first cap=>match qal ts first.toList,qal ts cap.toList with
  |some a,some b=>v (some (.func f a b))
  |_,_=>none
 | .slice t x lo hi mx=>match c x,optA ts lo,optA ts hi,optA ts mx with
  |some x,some lo,some hi,some mx=>v (qgm P t x lo hi mx)
  |_,_,_,_=>none
 | .fieldAddr s x f=>match qa4 P s f,c x with
  |some (off,_),some (.ptr b o)=>v (some (.ptr b (o+off)))
  |some (off,_),some (.eptr cs o)=>v (some (.eptr cs (o+off)))
  |some (off,_),some (.mptr b o n)=>v (some (.mptr b (o+off) n))
  |_,_=>none
 | .field t x f=>match qa4 P t f,c x with
  |some (off,ft),some (.agg cs)=>v (qbp P ft cs off)
  |_,_=>none
 | .indexAddr t x i=>match P.underlying t,c x,c i with
  |some (.slice e),some (.slice es _),some (.int _ n)=>match es[n.toNat]?,qah P e with
   |some cs,some s=>if 0≤n && cs.length==s then v (some (.eptr cs 0))else none
   |_,_=>none
  |some (.slice e),some (.ms es b k m),some (.int _ n)=>match qah P e with
   |some s=>if 0≤n && n<m then(match es[n.toNat]? with
    |some cs=>if cs.length==s then v (some (.eptr cs 0))else none
    |none=>v (some (.mptr b (n.toNat*s) k)))else none
   |none=>none
  |some (.array len e),some (.ptr b o),some (.int _ n)=>match qah P e with
   |some s=>if 0≤n && n<len then v (some (.ptr b (o+n.toNat*s)))else none
   |none=>none
  |_,_,_=>none
 | .index t x i=>match P.underlying t,c x,c i with
  |some .string,some (.str s),some (.int _ n)=>match s[n.toNat]? with
   |some b=>if 0≤n then v (some (.int .u8 b.toNat))else none
   |none=>none
  |some (.array len e),some (.agg cs),some (.int _ n)=>match qah P e with
   |some s=>if 0≤n && n<len then v (qbp P e cs (n.toNat*s))else none
   |none=>none
  |_,_,_=>none
 | .typeAssert x _ t ok=>match c x,P.underlying t,qap P t with
  |_,some (.interface _),_=>none
  |some (.iface t' a),some _,some z=>if t=t' then v (some (if ok then .tuple [a,.bool true]else a))else if ok then v (some (.tuple [z,.bool false]))else none
  |some .nili,some _,some z=>if ok then v (some (.tuple [z,.bool false]))else none
  |_,_,_=>none
 | .makeSlice t x y=>match c x,c y with
  |some a,some b=>(match qc3 P h t a b with|some (u,f)=>some (.val u f)|none=>none)
  |_,_=>none
 | .makeMap _ none=>some (.val (.mref h.length) (.heap (h++[.map [] []]) []))
 | .lookup t x k ok=>match c x,c k with
  |some m,some k=>v (qcw P h t m k ok)
  |_,_=>none
 | .mapUpdate t m k x| .insert t m k x=>match c m,c k,c x with
  |some m,some k,some x=>(match qdd P h t m k x with
   |some (h',b)=>some (.val .undef (.heap h' [b]))
   |none=>none)
  |_,_,_=>none
 | .extract x i=>match c x with
  |some (.tuple vs)=>v vs[i]?
  |_=>none
 | .panic x=>match c x with
  |some (.iface t a)=>some (.pan (.iface t a) .same)
  |_=>none
 | .call { callee:= .builtin b,args,argTypes }=>match qal ts args.toList,argTypes[0]? with
  |some [x],some t=>(match b,x,P.underlying t with
   | .len,.str s,some .string=>if s.length≤qfq then v (some (.int .i64 s.length))else none
   | .len,.slice es _,some (.slice _)=>v (some (.int .i64 es.length))
   | .len,.ms _ _ _ m,some (.slice _)=>v (some (.int .i64 m))
   | .len,.mref b,some (.map ..)=>v (qfr h b)
   | .len,.nilm,some (.map ..)=>v (some (.int .i64 0))
   | .cap,.slice es .full,some (.slice _)=>v (some (.int .i64 es.length))
   |_,_,_=>none)
  |some [x,y],some t=>(match b with
   | .append=>if argTypes[1]? ==some t then(match qbf P (bigM cmp) h t x y with
    |some (a,f)=>some (.val a f)
    |none=>none)else(match qgo P h t x y,(argTypes[1]?).bind P.underlying with
    |some (a,f),some (.int _)=>some (.val a f)
    |_,_=>none)
   | .max=>v (maxA [x,y])
   | .min=>v (minA [x,y])
   |_=>none)
  |_,_=>none
 | .call { callee:= .value f,args,.. }=>match c f,qal ts args.toList with
  |some (.func g first cap),some as=>match qba call h g (first++as.map argA++cap)with
   |some r=>some (qg1 r)
   |none=>none
  |_,_=>none
 |_=>none
def qh0:Operand→Bool
 | .const (.slice none 0 0)=>true
 |_=>false
def eqH (h:qaa) (u:Option TypeDesc) (y:Operand) (a b:AVal):Option Bool:=match u,a,b with
 |some (.pointer _),.mptr ..,.nilp=>some false
 |some (.pointer _),.eptr ..,.nilp=>some false
 |some (.pointer _),.nilp,.mptr .. =>some false
 |some (.pointer _),.nilp,.eptr .. =>some false
 |some (.pointer e),.ptr b o,.ptr b' o'=>(match qah P e,h[b]?,h[b']? with
  |some (_+1),some (.box _),some (.box _)=>some (b==b' && o==o')
  |_,_,_=>none)
 |some (.pointer e),.mptr b o n,.mptr b' o' n'=>(match qah P e,h[b]?,h[b']? with
  |some (_+1),some (.arr _ _ l _),some (.arr _ _ l' _)=>if n=l∧n'=l' then some (b==b' && o==o')else none
  |_,_,_=>none)
 |some (.slice _),.slice (_::_) _,_=>if qh0 y then some false else none
 |some (.slice _),.slice [] .zero,_=>if qh0 y then some false else none
 |some (.slice _),.ms ..,_=>if qh0 y then some false else none
 |some (.map ..),.mref _,.nilm=>some false
 |some (.map ..),.nilm,.nilm=>some true
 |_,_,_=>none
def exH (o:Oper) (ts:List AVal) (h:qaa):Option OR:=match o.op with
 | .binOp op t x y _=>(match qab x ts,qab y ts with
  |some a,some b=>(match eqH P h (P.underlying t) y a b with
   |some r=>(match op with
    | .eql=>some (.val (.bool r) .same)
    | .neq=>some (.val (.bool !r) .same)
    |_=>none)
   |none=>none)
  |_,_=>none)
 |_=>none
def orH (o:Oper) (ts:List AVal) (h:qaa) (r:Option OR):Option OR:=match r with
 |some r=>some r
 |none=>exH P o ts h
def setT (ts:List AVal) (dst:Option Tmp) (v:AVal):List AVal:=match dst with
 |some d=>ts.set d v
 |none=>ts
def qak (ops:List Oper) (o:Oper) (ts:List AVal):Option Bool:=match o.guard with
 |none=>some true
 |some (j,want)=>match ops[j]? with
  |some oj=>match oj.dst with
   |some d=>match ts[d]? with
    |some (.bool b)=>some (b==want)
    |some .undef=>some false
    |_=>none
   |none=>none
  |none=>none
def opsA (cmp:List TypeId) (call:Call) (ops:List Oper):List Oper→St→Option (AEx×St)
 |[],s=>some (.normal,s)
 |o::r,s=>match qak ops o s.tmps with
  |some true=>(match orH P o s.tmps s.heap (opA P cmp call o s.tmps s.heap)with
   |some (.val v f)=>opsA cmp call ops r ⟨setT s.tmps o.dst v,f.of s.heap,f.dirt++s.dirty⟩
   |some (.pan v f)=>some (.pan v,⟨s.tmps,f.of s.heap,f.dirt++s.dirty⟩)
   |none=>none)
  |some false=>opsA cmp call ops r ⟨setT s.tmps o.dst .undef,s.heap,s.dirty⟩
  |none=>none
def cls (o:Oper):Nat:=match o.op with
 | .load .. =>1
 | .alloc _| .box .. =>2
 | .store .. | .panic _=>3
 | .call { callee:= .builtin .append,argTypes,.. }=>if argTypes[1]? ==argTypes[0]? then 2 else 5
 | .call { callee:= .builtin .len,args,.. }=>if args.size=1 then 1 else 0
 | .call { callee:= .builtin _,.. }=>0
 | .call _=>4
 | .lookup .. =>1
 | .makeMap .. =>2
 | .makeSlice .. | .mapUpdate .. | .insert .. =>5
 |_=>0
def qbm (l:List Operand):List Tmp:=l.filterMap fun| .tmp t=>some t|_=>none
def qbw (ops:List Oper) (o:Oper):List Tmp:=
 (match o.guard with
  |some (j,_)=>(match ops[j]? with|some oj=>oj.dst.toList|none=>[])
  |none=>[])++qbm o.op.operands.toList
def qfh (ops:List Oper) (x y:Oper):Bool:=
 (match x.dst with|some d=> !(qbw ops y).contains d && !(y.dst==some d)|none=>true) &&
 (match y.dst with|some d=> !(qbw ops x).contains d|none=>true)
def qdj (o:Oper):Bool:= !(o.after.toList.all (Go.Region.binds .any))
def isNew (o:Oper):Bool:=match o.op with
 | .alloc _| .box .. =>true
 |_=>false
def isCt (o:Oper):Bool:=match o.op,o.guard with
 | .call { callee:= .value (.func _),args:=⟨[]⟩,.. },none=>true
 |_,_=>false
def qh1 (ops:List Oper) (x y:Oper):Bool:=
 qfh ops x y && (cls x==0||cls y==0||((cls x==1||cls x==4) && ((cls y==1||cls y==4) && !(isCt x && isCt y)))||(cls x==1 && cls y==2)||(cls x==2 && cls y==1)||(cls x==1 && (cls y==3 && qdj y))||(cls x==4 && (isNew y && !isCt x)))
def ancs (acc:List (List Nat)):List Oper→List (List Nat)
 |[]=>acc
 |o::r=>ancs (acc++[(((o.after.toList.filter (Go.Region.binds .any)).flatMap fun e=>e.on::acc.getD e.on []).eraseDups)]) r
def qa7 (o:Oper):Bool:=match o.op with
 | .alloc _| .makeMap _ none| .box .. | .store .. | .move _| .assign _| .fieldAddr .. | .load .. | .build .. =>true
 | .call { callee:= .builtin .append,argTypes,.. }=>argTypes[1]? ==argTypes[0]?
 |_=>false
def qbn (o:Oper):Bool:=match o.op with
 | .indexAddr .. =>true
 |_=>qa7 o||isCt o
def qcd (o:Oper):Bool:=match o.op with
 | .call { callee:= .builtin .append,argTypes,.. }=>argTypes[1]? ==argTypes[0]?
 |_=>false
def isAl (o:Oper):Bool:=match o.op,o.guard with
 | .alloc _,none=>true
 |_,_=>false
def isMk (o:Oper):Bool:=isAl o||isCt o||(match o.op,o.guard with
 | .makeMap _ none,none=>true
 |_,_=>false)
def qkq (ops:List Oper) (i:Nat) (x y:Oper):Bool:=isMk x && isMk y && qfh ops x y && (ops.drop (i+1)).all qa7 && ops.all qbn
def qkr (ops:List Oper) (i:Nat) (x y:Oper):Bool:=qcd x && isAl y && qfh ops x y && (ops.drop (i+1)).all qa7 && ops.all qbn
def qf8 (o:Oper):Bool:=match o.op with
 | .alloc _| .store .. | .move _| .fieldAddr .. | .load .. | .nilCheck _| .indexAddr .. | .buildSlice .. | .build .. =>true
 | .call { callee:= .builtin .append,argTypes,.. }=>argTypes[1]? ==argTypes[0]?
 | .call { callee:= .builtin _,.. }=>true
 |_=>false
def isSt (o:Oper):Bool:=match o.op,o.guard,o.dst with
 | .store ..,none,none=>true
 |_,_,_=>false
def qgp (ops:List Oper) (x y:Oper):Bool:=
 isSt x && isSt y && qdj y && ops.all qf8
def ssaL (ops:List Oper):Bool:=
 (List.range ops.length).all fun k=>(List.range (k+1)).all fun i=>match ops[i]?,ops[k]? with
  |some x,some y=>(cls x !=1 && cls x !=3)||(match y.dst with|some d=> !(qbm x.op.operands.toList).contains d|none=>true)
  |_,_=>true
def qci (ops:List Oper):Bool:=
 ssaL ops &&
 let an:=ancs [] ops
 (List.range ops.length).all fun j=>(List.range j).all fun i=>
  (an.getD j []).contains i||(match ops[i]?,ops[j]? with|some x,some y=>qh1 ops x y||qkq ops i x y||qkr ops i x y||qgp ops x y|_,_=>false)
def qcj (ops:List Oper):Bool:=
 (List.range ops.length).all fun j=>match ops[j]? with|some o=>(o.after.toList.filter (Go.Region.binds .any)).all fun e=>e.on<j|none=>false
def qda (ops:List Oper) (j:Nat):Bool:=
 let an:=ancs [] ops
 (List.range ops.length).all fun i=>i==j||(match ops[i]? with|some x=>cls x==0|none=>true)||(an.getD j []).contains i||(an.getD i []).contains j
def qe8 (ops:List Oper) (j:Nat):Bool:=
 let an:=ancs [] ops
 (List.range ops.length).all fun i=>i==j||(match ops[i]? with|some x=>cls x==0||cls x==1||(isMk x && (ops[j]?).any isCt)|none=>true)||(an.getD j []).contains i||(an.getD i []).contains j
def qce (p:Oper→Bool) (ops:List Oper) (j:Nat):Bool:=
 let an:=ancs [] ops
 (List.range ops.length).all fun i=>i==j||(match ops[i]? with|some x=> !p x|none=>true)||(an.getD j []).contains i||(an.getD i []).contains j
def qed (o:Oper):Bool:=match o.op with
 | .call { callee:= .builtin .append,.. }=>true
 |_=>false
def qcx (o:Oper):Bool:=cls o==4
def rdOp:Op→Option Operand
 | .load _ a=>some a
 | .lookup _ m _ _=>some m
 | .call { callee:= .builtin .len,args,.. }=>if args.size=1 then args[0]? else none
 |_=>none
def nbA:Option AVal→Option Nat
 |some (.ptr b _)=>some b
 |some (.mptr b _ _)=>some b
 |some (.mref b)=>some b
 |_=>none
def qb0 (d:List Nat):Option AVal→Bool
 |some (.ptr b _)=> !d.contains b
 |some (.mptr b _ _)=> !d.contains b
 |some (.mref b)=> !d.contains b
 |_=>true
def qbh (lim:Nat) (ops:List Oper) (j:Nat) (d:List Nat):Option AVal→Bool
 |some (.ptr b _)=>decide (b<lim) && (!d.contains b||qce qcx ops j)
 |some (.mref b)=>decide (b<lim) && (!d.contains b||qce qcx ops j)
 |some (.mptr b _ _)=>decide (b<lim) && (!d.contains b||qce qcx ops j) && qce qed ops j
 |_=>true
def qbb (q:Nat):List Edge→Bool
 |[]=>false
 |e::r=>(Go.Region.binds .any e && e.on==q)||qbb q r
def qad (af:List Edge) (ts:List AVal) (d:List Nat):Nat→Nat→List Oper→Bool
 |_,0,_=>true
 |_,_,[]=>true
 |q,j+1,o::r=>(match rdOp o.op with
  |some a=>qbb q af||qb0 d (qab a ts)
  |none=>true) && qad af ts d (q+1) j r
def isMp:Option AVal→Bool
 |some (.mptr ..)=>true
 |_=>false
def isPt:Option AVal→Bool
 |some (.ptr ..)=>true
 |_=>false
def stAt (an:List Nat) (i:Nat) (o:Oper) (ts:List AVal) (x:Oper):Bool:=match x.op,o.op with
 | .store _ a _,.store _ a' _=>an.contains i||(isMp (qab a ts) && isPt (qab a' ts))
 |_,_=>true
def stOk (ops:List Oper) (j:Nat) (o:Oper) (ts:List AVal):Bool:=
 (List.range j).all fun i=>(ops[i]?).all (stAt ((ancs [] ops).getD j []) i o ts)
def askD (lim:Nat) (ops:List Oper) (j:Nat) (o:Oper) (s:St) (f:Eff):Bool:=
 match cls o with
 |1=>(match rdOp o.op with
  |some x=>qbh lim ops j s.dirty (qab x s.tmps)
  |none=>false)
 |2=>lim≤s.heap.length
 |3=>(!qdj o||qad o.after.toList s.tmps f.dirt 0 j ops) && (!qdj o||stOk ops j o s.tmps)
 |4=>(f.isSame||qda ops j||(qe8 ops j && qad o.after.toList s.tmps f.dirt 0 j ops)) && (f.dirt.isEmpty|| !isCt o)
 |5=>qda ops j
 |_=>true
def qat (cmp:List TypeId) (call:Call) (lim:Nat) (ops:List Oper) (j:Nat) (s:St):Option St:=
 match ops[j]? with
 |none=>none
 |some o=>match qak ops o s.tmps with
  |some true=>(match opA P cmp call o s.tmps s.heap with
   |some (.val v f)=>if askD lim ops j o s f then some ⟨setT s.tmps o.dst v,f.of s.heap,f.dirt++s.dirty⟩else none
   |_=>none)
  |some false=>some ⟨setT s.tmps o.dst .undef,s.heap,s.dirty⟩
  |none=>none
def opsD (cmp:List TypeId) (call:Call) (lim:Nat) (ops:List Oper):List Nat→St→Option St
 |[],s=>some s
 |j::r,s=>match qat P cmp call lim ops j s with
  |some s'=>opsD cmp call lim ops r s'
  |none=>none
def panOk0 (ops:List Oper) (j:Nat):Bool:=
 let an:=ancs [] ops
 (List.range ops.length).all fun i=>i==j||(an.getD i []).contains j||(an.getD j []).contains i||(i<j && (match ops[i]? with|some x=>cls x==0||cls x==1|none=>false))
def qe4 (ops:List Oper) (j:Nat):Bool:=panOk0 ops j && (match ops[j]? with|some o=> !isCt o|none=>false)
def panD (cmp:List TypeId) (call:Call) (ops:List Oper) (j:Nat) (s:St):Option (AEx×St):=match ops[j]? with
 |none=>none
 |some o=>match qak ops o s.tmps with
  |some true=>(match opA P cmp call o s.tmps s.heap with
   |some (.pan v f)=>if qe4 ops j then some (.pan v,⟨[],f.of s.heap,f.dirt++s.dirty⟩)else none
   |_=>none)
  |_=>none
def opsX (cmp:List TypeId) (call:Call) (lim:Nat) (ops:List Oper):List Nat→St→Option (AEx×St)
 |[],s=>some (.normal,s)
 |j::r,s=>match qat P cmp call lim ops j s with
  |some s'=>opsX cmp call lim ops r s'
  |none=>panD P cmp call ops j s
def addD (d:List Nat):Option (AEx×St)→Option (AEx×St)
 |some (x,s)=>some (x,⟨s.tmps,s.heap,s.dirty++d⟩)
 |none=>none
abbrev Lp:=(St→Option (AEx×St))→St→Option (AEx×St)
def qag (cmp:List TypeId) (call:Call) (lp:Lp):Code→St→Option (AEx×St)
 | .skip,s=>some (.normal,s)
 | .region _ ops false,s=>opsA P cmp call ops.toList ops.toList s
 | .region _ ops true,s=>if qci ops.toList && qcj ops.toList then
  addD s.dirty (opsX P cmp call s.heap.length ops.toList (List.range ops.size) ⟨s.tmps,s.heap,[]⟩)else none
 | .seq a b,s=>match qag cmp call lp a s with
  |some (.normal,s')=>qag cmp call lp b s'
  |r=>r
 | .cond c a b,s=>match qab c s.tmps with
  |some (.bool true)=>qag cmp call lp a s
  |some (.bool false)=>qag cmp call lp b s
  |_=>none
 | .block id b,s=>match qag cmp call lp b s with
  |some (.exit j,s')=>if j=id then some (.normal,s')else some (.exit j,s')
  |r=>r
 | .loop b,s=>lp (qag cmp call lp b) s
 | .exit id,s=>some (.exit id,s)
 | .ret,s=>some (.ret,s)
 |_,_=>none
def qa8:Nat→Lp
 |0,_,_=>none
 |n+1,f,s=>match f s with
  |some (.normal,s')=>qa8 n f s'
  |r=>r
def resA (fn:List ResultVar) (s:St):Option (List AVal):=match fn with
 |[]=>some []
 | .tmp t::r=>match s.tmps[t]?,resA r s with|some a,some l=>some (a::l)|_,_=>none
 | .cell a t::r=>match s.tmps[a]? with
  |some p=>(match qb9 P s.heap t p,resA r s with|some a,some l=>some (a::l)|_,_=>none)
  |none=>none
def qbq (n:Nat) (h:qaa):List AVal→List Nat→Option (List AVal×List Nat)
 |[],mv=>some ([],mv)
 | .slice es (.own t)::r,mv=>
  if t<n then(match qbq n h r mv with|some (l,mv')=>some (.slice es (.own t)::l,mv')|none=>none)
  else match h[t]? with
   |some (.tok k _)=>if k=es.length && !mv.contains t then
    (match qbq n h r (mv++[t])with|some (l,mv')=>some (.slice es (.own (n+mv.length))::l,mv')|none=>none)
    else(match qbq n h r mv with|some (l,mv')=>some (.slice es .free::l,mv')|none=>none)
   |_=>none
 |v::r,mv=>if lowA n v then(match qbq n h r mv with|some (l,mv')=>some (v::l,mv')|none=>none)else none
def qj7 (n:Nat) (h:qaa) (b:Nat) (mv:List Nat):Option (Blk×List Nat):=match h[b]? with
 |some (.box cs)=>(match qbq n h cs mv with|some (l,mv')=>some (.box l,mv')|none=>none)
 |some (.arr p cs k e)=>(match qbq n h cs mv with|some (l,mv')=>some (.arr p l k e,mv')|none=>none)
 |some (.map ks vs)=>if ks.all (lowA n)then(match qbq n h vs mv with|some (l,mv')=>some (.map ks l,mv')|none=>none)else none
 |some (.tok k e)=>some (.tok k e,mv)
 |none=>none
def qd4 (n:Nat) (h:qaa):List Nat→qaa→List Nat→Option (qaa×List Nat)
 |[],k,mv=>some (k,mv)
 |b::r,k,mv=>match qj7 n h b mv with
  |some (x,mv')=>qd4 n h r (k.set b x) mv'
  |none=>none
def qcu:List Nat→List Nat
 |[]=>[]
 |b::r=>let r:=qcu r;if r.contains b then r else b::r
def qe9 (n:Nat) (v:AVal) (h:qaa) (d:List Nat):Option (AVal×Eff):=
 let v':=strip3 v
 if lowA n v' then
  match d with
  |[]=>some (v',.same)
  |_=>match qd4 n h d (h.take n) []with
   |some (k,mv)=>some (v',.heap (k++mv.filterMap fun t=>h[t]?) d)
   |none=>none
 else none
def frzE (p:Nat→Bool) (h:qaa) (es:List (List AVal)) (b l m:Nat):Option (List (List AVal)×Tk):=
 if !p b then none else match h[b]? with
  |some (.arr q cs len _)=>match(q+cs.length)/len with
   |s+1=>if l=len && m=l && q==es.length*(s+1) && qcl (s+1) es then(match qbz (chop (s+1) (len-es.length) cs)with|some fs=>some (if m=l then(es++fs,.own b)else((es++fs).take m,.free))|none=>none)else none
   |_=>none
  |_=>none
def frz0 (p:Nat→Bool) (h:qaa):AVal→AVal
 | .ms es b l m=>match frzE p h es b l m with
  |some (fs,tk)=> .slice fs tk
  |none=> .ms es b l m
 |v=>v
def frz2 (p:Nat→Bool) (h:qaa):AVal→AVal
 | .agg cs=> .agg (cs.map (frz0 p h))
 |v=>frz0 p h v
def frz3 (p:Nat→Bool) (h:qaa):AVal→AVal
 | .tuple vs=> .tuple (vs.map (frz2 p h))
 |v=>frz2 p h v
def frzB (p:Nat→Bool) (h:qaa) (d:List Nat) (i:Nat):Blk→Blk
 | .arr q cs len e=>if p i then(match(q+cs.length)/len with
  |s+1=>if(qbz (chop (s+1) (cs.length/(s+1)) cs)).isSome then .tok len e else .arr q cs len e
  |_=> .arr q cs len e)else .arr q cs len e
 | .box cs=>if d.contains i then .box (cs.map (frz0 p h))else .box cs
 |x=>x
def frzH (p:Nat→Bool) (h:qaa) (d:List Nat):qaa:=h.mapIdx fun i x=>frzB p h d i x
def anyMs2:AVal→Bool
 | .agg cs=>cs.any isMs
 |v=>isMs v
def anyMs:AVal→Bool
 | .tuple vs=>vs.any anyMs2
 |v=>anyMs2 v
def msAt (h:qaa) (b:Nat):Bool:=match h[b]? with
 |some (.box cs)=>cs.any isMs
 |_=>false
def qav (n:Nat) (v:AVal) (h:qaa) (d:List Nat):AVal×Eff:=
 let d:=qcu (d.filter (· <n))
 match qe9 n v h d with
 |some r=>r
 |none=>if anyMs v||d.any (msAt h)then
  (match qe9 n (frz3 (fun b=>decide (n≤b)) h v) (frzH (fun b=>decide (n≤b)) h d) d with
  |some r=>r
  |none=>(strip3 v,.heap h d))
  else(strip3 v,.heap h d)
def qi8:AVal→List Nat
 | .ms _ b n m=>if n=m then[b]else[]
 |_=>[]
def qi9:AVal→List Nat
 | .agg cs=>cs.flatMap qi8
 |v=>qi8 v
def qfs:AVal→List Nat
 | .tuple vs=>vs.flatMap qi9
 |v=>qi9 v
def lowB (n:Nat) (h:qaa) (d:List Nat):Bool:=(List.range n).all fun b=>d.contains b||(match h[b]? with|some x=>(qbv x).all (· <n)|none=>false)
def qee (n:Nat) (v:AVal) (h:qaa) (d:List Nat):Option (AVal×Eff):=
 let keep:=(qaw h 4096 (refs v++d) []).filter (n≤ ·)
 let idx:=List.range n++keep
 if qcs h idx [v] && lowB n h d then
  match d,keep with
  |[],[]=>some (v,.same)
  |_,_=>some (ren (fun x=>idx.idxOf x) v,.heap (subH h idx) d)
 else none
def qdk (n:Nat) (v:AVal) (h:qaa) (d:List Nat):AVal×Eff:=
 let d:=qcu (d.filter (· <n))
 let l:=qfs v
 let p:=fun b=>decide (n≤b) && l.contains b
 match qee n (frz3 p h v) (frzH p h []) d with
 |some r=>r
 |none=>(v,.heap h d)
def qb1 (big:Bool) (n:Nat) (v:AVal) (h:qaa) (d:List Nat):AVal×Eff:=if big then qdk n v h d else qav n v h d
def qb8:List AVal→AVal
 |[v]=>v
 |vs=> .tuple vs
def fnA (cmp:List TypeId) (call:Call) (lp:Lp) (f:FuncId) (args:List AVal) (h:qaa):Option CR:=
 match P.funcs[f]? with
 |none=>none
 |some fn=>match fn.body with
  |none=>none
  |some c=>match qag P cmp call lp c ⟨args++List.replicate (fn.ntmps-args.length) .undef,h,[]⟩with
   |some (.normal,s)|some (.ret,s)=>match resA P fn.results.toList s with
    |some vs=>let x:=qb1 (bigM cmp) h.length (qb8 vs) s.heap s.dirty;some (.ret x.1 x.2)
    |none=>none
   |some (.pan v,s)=>let x:=qb1 (bigM cmp) h.length v s.heap s.dirty;some (.pan x.1 x.2)
   |_=>none
abbrev Ext:=FuncId→Option (List AVal→qaa→Option CR)
def evN (cmp:List TypeId) (ext:Ext):Nat→Call
 |0,_,_,_=>none
 |n+1,f,args,h=>match ext f with
  |some g=>g args h
  |none=>fnA P cmp (evN cmp ext n) (qa8 n) f args h
end
end Go.Ab
