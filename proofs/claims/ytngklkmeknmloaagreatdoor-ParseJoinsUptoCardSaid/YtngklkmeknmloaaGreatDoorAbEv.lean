/- An evaluator over the loaded code with pure values: the definitions. -/
import GoSem.Core.Lib
import GoSem.Core.View
import GoSem.Core.Code
import GoSem.Core.Region
set_option linter.unusedSimpArgs false
set_option linter.unusedVariables false
set_option maxRecDepth 100000
set_option maxHeartbeats 4000000
open BitVec renaming ofInt→wa
namespace Go.Ab
theorem Ji {a b:Prop} (x:a) (y:b):a∧b:=⟨x,y⟩
inductive Tk where
 |free|full|own (t:Nat)
 deriving DecidableEq,Inhabited
inductive AVal where
 |undef
 |bool (b:Bool)
 |int (k:IntKind) (n:Int)
 |str (s:List UInt8)
 |nilp
 |ptr (b off:Nat)
 |eptr (cells:List AVal) (off:Nat)
 |slice (elems:List (List AVal)) (tk:Tk)
 |func (f:FuncId) (first cap:List AVal)
 |nilf
 |iface (t:TypeId) (v:AVal)
 |nili
 |agg (cells:List AVal)
 |tuple (vs:List AVal)
 deriving Inhabited
inductive Blk where
 |box (cells:List AVal)
 |tok (len:Nat) (e:TypeId)
 deriving Inhabited
abbrev qab:=List Blk
def AVal.cells:AVal→List AVal
 | .agg cs=>cs
 |v=>[v]
def ofV0:Value→Option AVal
 | .bool b=>some (.bool b)
 | .int k n=>some (.int k n)
 | .string s=>some (.str s.data.toList)
 | .pointer none=>some .nilp
 | .slice none 0 0=>some (.slice [] .full)
 | .nilFunc=>some .nilf
 | .nilIface=>some .nili
 |_=>none
def ofVs:List Value→Option (List AVal)
 |[]=>some []
 |v::r=>match ofV0 v,ofVs r with|some a,some l=>some (a::l)|_,_=>none
def ofV:Value→Option AVal
 | .agg cs=>(ofVs cs.toList).map .agg
 | .tuple vs=>(ofVs vs.toList).map .tuple
 |v=>ofV0 v
def qc1 (k:IntKind) (n:Int):Int:=
 match k with
 | .i64=>if -9223372036854775808≤n && n≤9223372036854775807 then n else IntKind.wrap .i64 n
 |k=>k.wrap n
mutual
def refs:AVal→List Nat
 | .ptr b _=>[b]
 | .slice _ (.own t)=>[t]
 | .func _ a b=>qad a++qad b
 | .iface _ v=>refs v
 | .agg cs=>qad cs
 | .tuple vs=>qad vs
 |_=>[]
def qad:List AVal→List Nat
 |[]=>[]
 |v::r=>refs v++qad r
end
mutual
def ren (σ:Nat→Nat):AVal→AVal
 | .ptr b o=> .ptr (σ b) o
 | .slice es (.own t)=> .slice es (.own (σ t))
 | .func f a b=> .func f (renL σ a) (renL σ b)
 | .iface t v=> .iface t (ren σ v)
 | .agg cs=> .agg (renL σ cs)
 | .tuple vs=> .tuple (renL σ vs)
 |v=>v
def renL (σ:Nat→Nat):List AVal→List AVal
 |[]=>[]
 |v::r=>ren σ v::renL σ r
end
def renB (σ:Nat→Nat):Blk→Blk
 | .box cs=> .box (renL σ cs)
 | .tok l e=> .tok l e
def lowA (n:Nat) (v:AVal):Bool:=(refs v).all (· <n)
def oneA:AVal→Bool
 | .undef| .agg _| .tuple _=>false
 |_=>true
def qcu (v:AVal):Bool:=oneA v && (refs v).isEmpty
def qbj:AVal→AVal
 | .slice es _=> .slice es .free
 |v=>v
def strip2:AVal→AVal
 | .agg cs=> .agg (cs.map qbj)
 |v=>qbj v
def strip3:AVal→AVal
 | .tuple vs=> .tuple (vs.map strip2)
 |v=>strip2 v
def argA:AVal→AVal
 | .agg cs=> .agg (cs.map qbj)
 |v=>v
def qeo (cs:List AVal):Option (List AVal):=
 let cs:=cs.map qbj
 if cs.all qcu then some cs else none
inductive Eff where
 |same
 |heap (h:qab) (d:List Nat)
 deriving Inhabited
inductive CR where
 |ret (v:AVal) (e:Eff)
 |pan (v:AVal) (e:Eff)
 deriving Inhabited
inductive OR where
 |val (v:AVal) (e:Eff)
 |pan (v:AVal) (e:Eff)
 deriving Inhabited
def Eff.of (h:qab):Eff→qab
 | .same=>h
 | .heap h' _=>h'
def Eff.dirt:Eff→List Nat
 | .same=>[]
 | .heap _ d=>d
def Eff.isSame:Eff→Bool
 | .same=>true
 | .heap .. =>false
structure St where
 tmps:List AVal
 heap:qab
 dirty:List Nat
 deriving Inhabited
inductive AEx where
 |normal
 |exit (id:Nat)
 |ret
 |pan (v:AVal)
 deriving Inhabited
section
variable (P:Program)
def qaq (t:TypeId):Option Nat:=(P.info? t).map (·.size)
def qa2 (t:TypeId):Option Nat:=(P.info? t).map (·.bytes)
def qat (t:TypeId):Option AVal:=match P.info? t with
 |some i=>match i.zero with|some v=>ofV v|none=>none
 |none=>none
def aggA (t:TypeId):Option Bool:=match P.underlying t with
 |some (.struct _)|some (.array ..)=>some true
 |some _=>some false
 |none=>none
def qek (t:TypeId) (cs:List AVal) (off:Nat):Option AVal:=
 match aggA P t,qaq P t with
 |some true,some n=>let r:=(cs.drop off).take n;if r.length=n then some (.agg r)else none
 |some false,some 1=>cs[off]?
 |_,_=>none
def qfe (h:qab) (t:TypeId):AVal→Option AVal
 | .ptr b off=>match h[b]? with
  |some (.box cs)=>qek P t cs off
  |_=>none
 | .eptr cs off=>qek P t cs off
 |_=>none
def qar:List AVal→Nat→List AVal→Option (List AVal)
 |cs,0,vs=>if vs.length≤cs.length then some (vs++cs.drop vs.length)else none
 |c::cs,n+1,vs=>(qar cs n vs).map (c:: ·)
 |[],_+1,_=>none
def qfu (h:qab) (t:TypeId) (a v:AVal):Option (qab×Nat):=
 match a with
 | .ptr b off=>match h[b]?,qaq P t with
  |some (.box cs),some n=>if v.cells.length=n && v.cells.all oneA then(qar cs off v.cells).map fun cs=>(h.set b (.box cs),b)else none
  |_,_=>none
 |_=>none
def qal (s:TypeId) (i:Nat):Option (Nat×TypeId):=match P.underlying s with
 |some (.struct fs)=>match fs[i]? with
  |some f=>match qaq P f.type with|some (_+1)=>some (f.offset,f.type)|_=>none
  |none=>none
 |_=>none
def qg8 (t:TypeId):Option TypeId:=match P.underlying t with
 |some (.slice e)=>some e
 |_=>none
def qc6 (place:Nat→Option (Nat×Nat)) (cells:List AVal):List (Nat×AVal)→Option (List AVal)
 |[]=>some cells
 |(i,v)::rest=>match place i with
  |none=>none
  |some (off,size)=>if v.cells.length=size then
   match qar cells off v.cells with|some cs=>qc6 place cs rest|none=>none
   else none
def chop (size:Nat):Nat→List AVal→List (List AVal)
 |0,_=>[]
 |n+1,cs=>cs.take size::chop size n (cs.drop size)
def qe3:List (List AVal)→Option (List (List AVal))
 |[]=>some []
 |c::r=>match qeo c,qe3 r with|some c,some r=>some (c::r)|_,_=>none
def eqS (t:TypeId) (x y:AVal):Option Bool:=
 match P.underlying t,x,y with
 |some .bool,.bool a,.bool b=>some (a==b)
 |some (.int _),.int k a,.int k' b=>if k=k' then some (a==b)else none
 |some .string,.str a,.str b=>some (a==b)
 |_,_,_=>none
def eqFields (a b:List AVal):List Field→Option Bool
 |[]=>some true
 |f::fs=>match a[f.offset]?,b[f.offset]? with
  |some x,some y=>match eqS P f.type x y with
   |some true=>eqFields a b fs
   |some false=>some false
   |none=>none
  |_,_=>none
def eqT (cmp:List TypeId) (t:TypeId) (nilc:Bool) (x y:AVal):Option Bool:=
 match P.underlying t,x,y with
 |some .bool,.bool a,.bool b=>some (a==b)
 |some (.pointer _),.nilp,.nilp=>some true
 |some (.pointer _),.nilp,.ptr .. =>some false
 |some (.pointer _),.ptr ..,.nilp=>some false
 |some (.func ..),.nilf,.nilf=>some true
 |some (.func ..),.nilf,.func .. =>some false
 |some (.func ..),.func ..,.nilf=>some false
 |some (.interface _),.nili,.nili=>if nilc then some true else none
 |some (.interface _),.nili,.iface .. =>some false
 |some (.interface _),.iface ..,.nili=>some false
 |some (.struct fs),.agg a,.agg b=>if cmp.contains t then eqFields P a b fs.toList else none
 |_,_,_=>none
def qfv (op:BinOp) (k:IntKind) (a b:Int):Option AVal:=
 match op with
 | .add=>some (.int k (qc1 k (a+b)))
 | .sub=>some (.int k (qc1 k (a-b)))
 | .mul=>some (.int k (qc1 k (a*b)))
 | .quo=>if b=0 then none else some (.int k (qc1 k (a.tdiv b)))
 | .rem=>if b=0 then none else some (.int k (a.tmod b))
 | .eql=>some (.bool (a==b))
 | .neq=>some (.bool (a !=b))
 | .lss=>some (.bool (a<b))
 | .leq=>some (.bool (a≤b))
 | .gtr=>some (.bool (b<a))
 | .geq=>some (.bool (b≤a))
 | .and=>some (.int k (k.wrap ((wa k.bits a) &&& (wa k.bits b)).toNat))
 | .or=>some (.int k (k.wrap ((wa k.bits a)|||(wa k.bits b)).toNat))
 |_=>none
def qni:Nat:=4611686018427387904
def qep:Operand→Bool
 | .const _=>true
 |_=>false
def binA (cmp:List TypeId) (op:BinOp) (t:TypeId) (nilc:Bool) (x y:AVal):Option AVal:=
 match x,y with
 | .int k a,.int k' b=>match op with
  | .shl=>none
  | .shr=>none
  |op=>if k=k' then qfv op k a b else none
 | .str a,.str b=>match op with
  | .add=>if a.length+b.length≤qni then some (.str (a++b))else none
  | .eql=>some (.bool (a==b))
  | .neq=>some (.bool (!(a==b)))
  |_=>none
 |x,y=>match op with
  | .eql=>(eqT P cmp t nilc x y).map .bool
  | .neq=>(eqT P cmp t nilc x y).map fun r=> .bool !r
  |_=>none
def unA (op:UnOp):AVal→Option AVal
 | .bool b=>match op with| .not=>some (.bool !b)|_=>none
 | .int k n=>match op with| .neg=>some (.int k (qc1 k (0-n)))|_=>none
 |_=>none
def convA (src dst:TypeId) (x:AVal):Option AVal:=
 match P.underlying src,P.underlying dst,x with
 |some (.int _),some (.int k),.int _ n=>some (.int k (qc1 k n))
 |some .string,some .string,.str s=>some (.str s)
 |_,_,_=>none
def qwc:Nat:=1099511627776
def qfa (s:Nat):List (List AVal)→Bool
 |[]=>true
 |c::_=>c.length==s
def qhj (n:AVal) (max:Nat):Option Nat:=match n with
 | .int _ i=>if 0≤i∧i≤max then some i.toNat else none
 |_=>none
def qpc (tk:Tk) (l h len:Nat) (max:Option Nat):Tk:=
 match max with
 |some m=>if m=h then .full else .free
 |none=>if l=0∧h=len then tk else if h=len then(match tk with| .full=> .full|_=> .free)else .free
def qil (t:TypeId) (x:AVal) (lo hi max:Option AVal):Option AVal:=
 match P.underlying t,x with
 |some .string,.str s=>match max with
  |some _=>none
  |none=>match(match hi with|some v=>qhj v s.length|none=>some s.length)with
   |none=>none
   |some h=>match(match lo with|some v=>qhj v h|none=>some 0)with
    |none=>none
    |some l=>some (.str ((s.drop l).take (h-l)))
 |some (.slice e),.slice es tk=>match(match max with|some v=>(qhj v es.length).map some|none=>some none)with
  |none=>none
  |some m=>match(match hi with|some v=>qhj v (m.getD es.length)|none=>match m with|none=>some es.length|some _=>none)with
   |none=>none
   |some h=>match(match lo with|some v=>qhj v h|none=>some 0)with
    |none=>none
    |some l=>match qaq P e with
     |some s=>if qfa s es then some (.slice ((es.drop l).take (h-l)) (qpc tk l h es.length m))else none
     |none=>none
 |_,_=>none
def qb1 (h:qab) (t:TypeId) (s x:AVal):Option (AVal×Eff):=
 match qg8 P t,s,x with
 |some e,.slice es tk,.slice fs tk'=>match qaq P e,qa2 P e,qat P e with
  |some (sz+1),some by_,some z=>
   if es.length+fs.length≤qwc && 0<by_ && by_≤128 && z.cells.length==sz+1 && qfa (sz+1) es && qfa (sz+1) fs then
    match fs with
    |[]=>some (.slice es tk,.same)
    |_=>match tk with
     | .full=>some (.slice (es++fs) (.own h.length),.heap (h++[.tok (es.length+fs.length) e]) [])
     | .own b=>match h[b]? with
      |some (.tok n e')=>if n=es.length && e'=e && !(tk'== .own b)then some (.slice (es++fs) (.own b),.heap (h.set b (.tok (n+fs.length) e)) [b])else none
      |_=>none
     | .free=>none
   else none
  |_,_,_=>none
 |_,_,_=>none
def maxA:List AVal→Option AVal
 |[.int k a,.int k' b]=>if k=k' then some (.int k (if a<b then b else a))else none
 |_=>none
def minA:List AVal→Option AVal
 |[.int k a,.int k' b]=>if k=k' then some (.int k (if b<a then b else a))else none
 |_=>none
def qae:Operand→List AVal→Option AVal
 | .tmp t,ts=>ts[t]?
 | .const v,_=>ofV v
 | .func f,_=>some (.func f [] [])
 | .global _,_=>none
def qbh (ts:List AVal):List Operand→Option (List AVal)
 |[]=>some []
 |o::r=>match qae o ts,qbh ts r with|some a,some l=>some (a::l)|_,_=>none
def qb2 (ts:List AVal):List (Nat×Operand)→Option (List (Nat×AVal))
 |[]=>some []
 |(i,o)::r=>match qae o ts,qb2 ts r with|some a,some l=>some ((i,a)::l)|_,_=>none
def optA (ts:List AVal):Option Operand→Option (Option AVal)
 |none=>some none
 |some o=>(qae o ts).map some
abbrev Call:=FuncId→List AVal→qab→Option CR
def outOf:CR→OR
 | .ret v e=> .val v e
 | .pan v e=> .pan v e
def qbv (h:qab):Nat→List Nat→List Nat→List Nat
 |0,_,done=>done
 |_+1,[],done=>done
 |n+1,b::r,done=>if done.contains b then qbv h n r done else
  match h[b]? with
  |some (.box cs)=>qbv h n (r++qad cs) (done++[b])
  |_=>qbv h n r (done++[b])
def qdq:Blk→List Nat
 | .box cs=>qad cs
 | .tok .. =>[]
def subH (h:qab) (idx:List Nat):qab:=idx.map fun b=>renB (fun x=>idx.idxOf x) (h.getD b (.box []))
def qc2 (h:qab) (idx:List Nat) (args:List AVal):Bool:=
 (qad args).all (fun b=>idx.contains b) && idx.all fun b=>match h[b]? with|some x=>(qdq x).all fun c=>idx.contains c|none=>false
def qe9 (n:Nat) (idx:List Nat) (i:Nat):Nat:=if i<idx.length then idx.getD i 0 else n+(i-idx.length)
def qj2 (idx:List Nat) (n:Nat) (h':qab):List Nat→qab→qab
 |[],h=>h
 |i::r,h=>qj2 idx n h' r (match idx[i]?,h'[i]? with|some b,some x=>h.set b (renB (qe9 n idx) x)|_,_=>h)
def qge (h:qab) (idx:List Nat):Eff→Eff
 | .same=> .same
 | .heap h' d=> .heap (qj2 idx h.length h' d h++(h'.drop idx.length).map (renB (qe9 h.length idx))) (d.map (qe9 h.length idx))
def qai (call:Call) (h:qab) (g:FuncId) (args:List AVal):Option CR:=
 let idx:=qbv h 256 (qad args) []
 if qc2 h idx args then
  match call g (renL (fun x=>idx.idxOf x) args) (subH h idx)with
  |some (.ret v e)=>some (.ret (ren (qe9 h.length idx) v) (qge h idx e))
  |some (.pan v e)=>some (.pan (ren (qe9 h.length idx) v) (qge h idx e))
  |none=>none
 else none
def opA (cmp:List TypeId) (call:Call) (o:Oper) (ts:List AVal) (h:qab):Option OR:=
 let v (x:Option AVal):Option OR:=match x with|some a=>some (.val a .same)|none=>none
 let c (x:Operand):Option AVal:=qae x ts
 match o.op with
 | .move x| .assign x=>v (c x)
 | .pick b x y=>match c b with
  |some (.bool true)=>v (c x)
  |some (.bool false)=>v (c y)
  |_=>none
 | .alloc t=>match qat P t with
  |some z=>some (.val (.ptr h.length 0) (.heap (h++[.box z.cells]) []))
  |none=>none
 | .box _ x=>match c x with
  |some a=>some (.val (.ptr h.length 0) (.heap (h++[.box a.cells]) []))
  |none=>none
 | .build t ps=>match qat P t,P.underlying t,qb2 ts ps.toList with
  |some (.agg z),some (.struct fs),some ps=>if fs.all (fun f=>(P.info? f.type).isSome)then
   v ((qc6 (fun i=>match fs[i]? with|some f=>(qaq P f.type).map fun s=>(f.offset,s)|none=>none) z ps).map .agg)else none
  |some (.agg z),some (.array _ e),some ps=>
   v (match qaq P e with|some s=>(qc6 (fun i=>some (i*s,s)) z ps).map .agg|none=>none)
  |_,_,_=>none
 | .buildSlice t n ps=>match qg8 P t with
  |some e=>match qaq P e,qat P e,qb2 ts ps.toList with
   |some (s+1),some z,some ps=>if n*(s+1)≤65536 && z.cells.length==s+1 then
    match qc6 (fun i=>some (i*(s+1),s+1)) (List.replicate n z.cells).flatten ps with
    |some cs=>match qe3 (chop (s+1) n cs)with
     |some es=>v (some (.slice es .full))
     |none=>none
    |none=>none
    else none
   |_,_,_=>none
  |none=>none
 | .load t a=>match c a with|some a=>v (qfe P h t a)|none=>none
 | .store t a x=>match c a,c x with
  |some a,some x=>match qfu P h t a x with
   |some (h',b)=>some (.val .undef (.heap h' [b]))
   |none=>none
  |_,_=>none
 | .nilCheck x=>match c x with
  |some (.ptr b o)=>v (some (.ptr b o))
  |some (.eptr cs o)=>v (some (.eptr cs o))
  |some (.func f a b)=>v (some (.func f a b))
  |_=>none
 | .binOp op t x y _=>match c x,c y with
  |some a,some b=>v (binA P cmp op t (qep x||qep y) a b)
  |_,_=>none
 | .unOp op _ x=>match c x with|some a=>v (unA op a)|none=>none
 | .convert s d x=>match c x with|some a=>v (convA P s d a)|none=>none
 | .makeInterface t x=>match c x,P.underlying t with
  |_,some (.interface _)=>none
  |some a,some _=>v (some (.iface t a))
  |_,_=>none
 | .makeFunc (.func f) first cap=>match qbh ts first.toList,qbh ts cap.toList with
  |some a,some b=>v (some (.func f a b))
  |_,_=>none
 | .slice t x lo hi mx=>match c x,optA ts lo,optA ts hi,optA ts mx with
  |some x,some lo,some hi,some mx=>v (qil P t x lo hi mx)
  |_,_,_,_=>none
 | .fieldAddr s x f=>match qal P s f,c x with
  |some (off,_),some (.ptr b o)=>v (some (.ptr b (o+off)))
  |some (off,_),some (.eptr cs o)=>v (some (.eptr cs (o+off)))
  |_,_=>none
 | .field t x f=>match qal P t f,c x with
  |some (off,ft),some (.agg cs)=>v (qek P ft cs off)
  |_,_=>none
 | .indexAddr t x i=>match P.underlying t,c x,c i with
  |some (.slice e),some (.slice es _),some (.int _ n)=>match es[n.toNat]?,qaq P e with
   |some cs,some s=>if 0≤n && cs.length==s then v (some (.eptr cs 0))else none
   |_,_=>none
  |some (.array len e),some (.ptr b o),some (.int _ n)=>match qaq P e with
   |some s=>if 0≤n && n<len then v (some (.ptr b (o+n.toNat*s)))else none
   |none=>none
  |_,_,_=>none
 | .index t x i=>match P.underlying t,c x,c i with
  |some .string,some (.str s),some (.int _ n)=>match s[n.toNat]? with
   |some b=>if 0≤n then v (some (.int .u8 b.toNat))else none
   |none=>none
  |some (.array len e),some (.agg cs),some (.int _ n)=>match qaq P e with
   |some s=>if 0≤n && n<len then v (qek P e cs (n.toNat*s))else none
   |none=>none
  |_,_,_=>none
 | .typeAssert x _ t ok=>match c x,P.underlying t,qat P t with
  |_,some (.interface _),_=>none
  |some (.iface t' a),some _,some z=>if t=t' then v (some (if ok then .tuple [a,.bool true]else a))else if ok then v (some (.tuple [z,.bool false]))else none
  |some .nili,some _,some z=>if ok then v (some (.tuple [z,.bool false]))else none
  |_,_,_=>none
 | .extract x i=>match c x with
  |some (.tuple vs)=>v vs[i]?
  |_=>none
 | .panic x=>match c x with
  |some (.iface t a)=>some (.pan (.iface t a) .same)
  |_=>none
 | .call { callee:= .builtin b,args,argTypes }=>match qbh ts args.toList,argTypes[0]? with
  |some [x],some t=>(match b,x,P.underlying t with
   | .len,.str s,some .string=>if s.length≤qni then v (some (.int .i64 s.length))else none
   | .len,.slice es _,some (.slice _)=>v (some (.int .i64 es.length))
   |_,_,_=>none)
  |some [x,y],some t=>(match b with
   | .append=>(match qb1 P h t x y with
    |some (a,f)=>if argTypes[1]? ==some t then some (.val a f)else none
    |none=>none)
   | .max=>v (maxA [x,y])
   | .min=>v (minA [x,y])
   |_=>none)
  |_,_=>none
 | .call { callee:= .value f,args,.. }=>match c f,qbh ts args.toList with
  |some (.func g first cap),some as=>match qai call h g (first++as.map argA++cap)with
   |some r=>some (outOf r)
   |none=>none
  |_,_=>none
 |_=>none
def setT (ts:List AVal) (dst:Option Tmp) (v:AVal):List AVal:=match dst with
 |some d=>ts.set d v
 |none=>ts
def qbw (ops:List Oper) (o:Oper) (ts:List AVal):Option Bool:=match o.guard with
 |none=>some true
 |some (j,want)=>match ops[j]? with
  |some oj=>match oj.dst with
   |some d=>match ts[d]? with
    |some (.bool b)=>some (b==want)
    |some .undef=>some false
    |_=>none
   |none=>none
  |none=>none
def opsA (cmp:List TypeId) (call:Call) (ops:List Oper):List Oper→St→Option (AEx×St)
 |[],s=>some (.normal,s)
 |o::r,s=>match qbw ops o s.tmps with
  |some true=>(match opA P cmp call o s.tmps s.heap with
   |some (.val v f)=>opsA cmp call ops r ⟨setT s.tmps o.dst v,f.of s.heap,f.dirt++s.dirty⟩
   |some (.pan v f)=>some (.pan v,⟨s.tmps,f.of s.heap,f.dirt++s.dirty⟩)
   |none=>none)
  |some false=>opsA cmp call ops r ⟨setT s.tmps o.dst .undef,s.heap,s.dirty⟩
  |none=>none
def cls (o:Oper):Nat:=match o.op with
 | .load .. =>1
 | .alloc _| .box .. =>2
 | .store .. | .panic _=>3
 | .call { callee:= .builtin .append,.. }=>2
 | .call { callee:= .builtin _,.. }=>0
 | .call _=>4
 |_=>0
def qfj (l:List Operand):List Tmp:=l.filterMap fun| .tmp t=>some t|_=>none
def qe8 (ops:List Oper) (o:Oper):List Tmp:=
 (match o.guard with
  |some (j,_)=>(match ops[j]? with|some oj=>oj.dst.toList|none=>[])
  |none=>[])++qfj o.op.operands.toList
def qmq (ops:List Oper) (x y:Oper):Bool:=
 (match x.dst with|some d=> !(qe8 ops y).contains d && !(y.dst==some d)|none=>true) &&
 (match y.dst with|some d=> !(qe8 ops x).contains d|none=>true)
def qqc (o:Oper):Bool:= !(o.after.toList.all (Go.Region.binds .any))
def isNew (o:Oper):Bool:=match o.op with
 | .alloc _| .box .. =>true
 |_=>false
def qr2 (ops:List Oper) (x y:Oper):Bool:=
 qmq ops x y && (cls x==0||cls y==0||((cls x==1||cls x==4) && (cls y==1||cls y==4))||(cls x==1 && cls y==2)||(cls x==2 && cls y==1)||(cls x==1 && (cls y==3 && qqc y))||(cls x==4 && isNew y))
def ancs (acc:List (List Nat)):List Oper→List (List Nat)
 |[]=>acc
 |o::r=>ancs (acc++[(((o.after.toList.filter (Go.Region.binds .any)).flatMap fun e=>e.on::acc.getD e.on []).eraseDups)]) r
def qc8 (o:Oper):Bool:=match o.op with
 | .alloc _| .store .. | .move _| .fieldAddr .. | .load .. | .build .. =>true
 | .call { callee:= .builtin .append,.. }=>true
 |_=>false
def qdb (o:Oper):Bool:=match o.op with
 | .indexAddr .. =>true
 |_=>qc8 o
def qiz (o:Oper):Bool:=match o.op with
 | .call { callee:= .builtin .append,.. }=>true
 |_=>false
def isAl (o:Oper):Bool:=match o.op,o.guard with
 | .alloc _,none=>true
 |_,_=>false
def qwd (ops:List Oper) (i:Nat) (x y:Oper):Bool:=isAl x && isAl y && qmq ops x y && (ops.drop (i+1)).all qc8 && ops.all qdb
def qwe (ops:List Oper) (i:Nat) (x y:Oper):Bool:=qiz x && isAl y && qmq ops x y && (ops.drop (i+1)).all qc8 && ops.all qdb
def ssaL (ops:List Oper):Bool:=
 (List.range ops.length).all fun k=>(List.range (k+1)).all fun i=>match ops[i]?,ops[k]? with
  |some x,some y=>cls x !=1||(match y.dst with|some d=> !(qfj x.op.operands.toList).contains d|none=>true)
  |_,_=>true
def qha (ops:List Oper):Bool:=
 ssaL ops &&
 let an:=ancs [] ops
 (List.range ops.length).all fun j=>(List.range j).all fun i=>
  (an.getD j []).contains i||(match ops[i]?,ops[j]? with|some x,some y=>qr2 ops x y||qwd ops i x y||qwe ops i x y|_,_=>false)
def qhb (ops:List Oper):Bool:=
 (List.range ops.length).all fun j=>match ops[j]? with|some o=>(o.after.toList.filter (Go.Region.binds .any)).all fun e=>e.on<j|none=>false
def qke (ops:List Oper) (j:Nat):Bool:=
 let an:=ancs [] ops
 (List.range ops.length).all fun i=>i==j||(match ops[i]? with|some x=>cls x==0|none=>true)||(an.getD j []).contains i||(an.getD i []).contains j
def qjd (ops:List Oper) (j:Nat):Bool:=
 let an:=ancs [] ops
 (List.range ops.length).all fun i=>i==j||(match ops[i]? with|some x=>cls x==0||(cls x==1 && i<j)|none=>true)||(an.getD j []).contains i||(an.getD i []).contains j
def qcp (d:List Nat):Option AVal→Bool
 |some (.ptr b _)=> !d.contains b
 |_=>true
def qbx (q:Nat):List Edge→Bool
 |[]=>false
 |e::r=>(Go.Region.binds .any e && e.on==q)||qbx q r
def qaj (af:List Edge) (ts:List AVal) (d:List Nat):Nat→Nat→List Oper→Bool
 |_,0,_=>true
 |_,_,[]=>true
 |q,j+1,o::r=>(match o.op with
  | .load _ a=>qbx q af||qcp d (qae a ts)
  |_=>true) && qaj af ts d (q+1) j r
def askD (lim:Nat) (ops:List Oper) (j:Nat) (o:Oper) (s:St) (f:Eff):Bool:=
 match cls o with
 |1=>(match o.op with
  | .load _ x=>(match qae x s.tmps with|some (.ptr b _)=>b<lim|_=>true)
  |_=>false)
 |2=>lim≤s.heap.length
 |3=> !qqc o||qaj o.after.toList s.tmps f.dirt 0 j ops
 |4=>f.isSame||qke ops j||(qjd ops j && qaj o.after.toList s.tmps f.dirt 0 j ops)
 |_=>true
def qcv (cmp:List TypeId) (call:Call) (lim:Nat) (ops:List Oper) (j:Nat) (s:St):Option St:=
 match ops[j]? with
 |none=>none
 |some o=>match qbw ops o s.tmps with
  |some true=>(match opA P cmp call o s.tmps s.heap with
   |some (.val v f)=>if askD lim ops j o s f then some ⟨setT s.tmps o.dst v,f.of s.heap,f.dirt++s.dirty⟩else none
   |_=>none)
  |some false=>some ⟨setT s.tmps o.dst .undef,s.heap,s.dirty⟩
  |none=>none
def opsD (cmp:List TypeId) (call:Call) (lim:Nat) (ops:List Oper):List Nat→St→Option St
 |[],s=>some s
 |j::r,s=>match qcv P cmp call lim ops j s with
  |some s'=>opsD cmp call lim ops r s'
  |none=>none
def qmr (ops:List Oper) (j:Nat):Bool:=
 let an:=ancs [] ops
 (List.range ops.length).all fun i=>i==j||(an.getD i []).contains j||(an.getD j []).contains i||(i<j && (match ops[i]? with|some x=>cls x==0||cls x==1|none=>false))
def panD (cmp:List TypeId) (call:Call) (ops:List Oper) (j:Nat) (s:St):Option (AEx×St):=match ops[j]? with
 |none=>none
 |some o=>match qbw ops o s.tmps with
  |some true=>(match opA P cmp call o s.tmps s.heap with
   |some (.pan v f)=>if qmr ops j then some (.pan v,⟨[],f.of s.heap,f.dirt++s.dirty⟩)else none
   |_=>none)
  |_=>none
def opsX (cmp:List TypeId) (call:Call) (lim:Nat) (ops:List Oper):List Nat→St→Option (AEx×St)
 |[],s=>some (.normal,s)
 |j::r,s=>match qcv P cmp call lim ops j s with
  |some s'=>opsX cmp call lim ops r s'
  |none=>panD P cmp call ops j s
abbrev Lp:=(St→Option (AEx×St))→St→Option (AEx×St)
def qa3 (cmp:List TypeId) (call:Call) (lp:Lp):Code→St→Option (AEx×St)
 | .skip,s=>some (.normal,s)
 | .region _ ops false,s=>opsA P cmp call ops.toList ops.toList s
 | .region _ ops true,s=>if qha ops.toList && qhb ops.toList then
  opsX P cmp call s.heap.length ops.toList (List.range ops.size) s else none
 | .seq a b,s=>match qa3 cmp call lp a s with
  |some (.normal,s')=>qa3 cmp call lp b s'
  |r=>r
 | .cond c a b,s=>match qae c s.tmps with
  |some (.bool true)=>qa3 cmp call lp a s
  |some (.bool false)=>qa3 cmp call lp b s
  |_=>none
 | .block id b,s=>match qa3 cmp call lp b s with
  |some (.exit j,s')=>if j=id then some (.normal,s')else some (.exit j,s')
  |r=>r
 | .loop b,s=>lp (qa3 cmp call lp b) s
 | .exit id,s=>some (.exit id,s)
 | .ret,s=>some (.ret,s)
 |_,_=>none
def qe4:Nat→Lp
 |0,_,_=>none
 |n+1,f,s=>match f s with
  |some (.normal,s')=>qe4 n f s'
  |r=>r
def resA (fn:List ResultVar) (s:St):Option (List AVal):=match fn with
 |[]=>some []
 | .tmp t::r=>match s.tmps[t]?,resA r s with|some a,some l=>some (a::l)|_,_=>none
 | .cell a t::r=>match s.tmps[a]? with
  |some p=>(match qfe P s.heap t p,resA r s with|some a,some l=>some (a::l)|_,_=>none)
  |none=>none
def qd0 (n:Nat) (h:qab):List AVal→List Nat→Option (List AVal×List Nat)
 |[],mv=>some ([],mv)
 | .slice es (.own t)::r,mv=>
  if t<n then(match qd0 n h r mv with|some (l,mv')=>some (.slice es (.own t)::l,mv')|none=>none)
  else match h[t]? with
   |some (.tok k _)=>if k=es.length && !mv.contains t then
    (match qd0 n h r (mv++[t])with|some (l,mv')=>some (.slice es (.own (n+mv.length))::l,mv')|none=>none)
    else(match qd0 n h r mv with|some (l,mv')=>some (.slice es .free::l,mv')|none=>none)
   |_=>none
 |v::r,mv=>if lowA n v then(match qd0 n h r mv with|some (l,mv')=>some (v::l,mv')|none=>none)else none
def qg5 (n:Nat) (h:qab) (b:Nat) (mv:List Nat):Option (Blk×List Nat):=match h[b]? with
 |some (.box cs)=>(match qd0 n h cs mv with|some (l,mv')=>some (.box l,mv')|none=>none)
 |some (.tok k e)=>some (.tok k e,mv)
 |none=>none
def qf1 (n:Nat) (h:qab):List Nat→qab→List Nat→Option (qab×List Nat)
 |[],k,mv=>some (k,mv)
 |b::r,k,mv=>match qg5 n h b mv with
  |some (x,mv')=>qf1 n h r (k.set b x) mv'
  |none=>none
def qgf:List Nat→List Nat
 |[]=>[]
 |b::r=>let r:=qgf r;if r.contains b then r else b::r
def qbg (n:Nat) (v:AVal) (h:qab) (d:List Nat):AVal×Eff:=
 let d:=qgf (d.filter (· <n))
 let v':=strip3 v
 if lowA n v' then
  match d with
  |[]=>(v',.same)
  |_=>match qf1 n h d (h.take n) []with
   |some (k,mv)=>(v',.heap (k++mv.filterMap fun t=>h[t]?) d)
   |none=>(v',.heap h d)
 else(v',.heap h d)
def qb5:List AVal→AVal
 |[v]=>v
 |vs=> .tuple vs
def fnA (cmp:List TypeId) (call:Call) (lp:Lp) (f:FuncId) (args:List AVal) (h:qab):Option CR:=
 match P.funcs[f]? with
 |none=>none
 |some fn=>match fn.body with
  |none=>none
  |some c=>match qa3 P cmp call lp c ⟨args++List.replicate (fn.ntmps-args.length) .undef,h,[]⟩with
   |some (.normal,s)|some (.ret,s)=>match resA P fn.results.toList s with
    |some vs=>let x:=qbg h.length (qb5 vs) s.heap s.dirty;some (.ret x.1 x.2)
    |none=>none
   |some (.pan v,s)=>let x:=qbg h.length v s.heap s.dirty;some (.pan x.1 x.2)
   |_=>none
abbrev Ext:=FuncId→Option (List AVal→qab→Option CR)
def evN (cmp:List TypeId) (ext:Ext):Nat→Call
 |0,_,_,_=>none
 |n+1,f,args,h=>match ext f with
  |some g=>g args h
  |none=>fnA P cmp (evN cmp ext n) (qe4 n) f args h
end
end Go.Ab
