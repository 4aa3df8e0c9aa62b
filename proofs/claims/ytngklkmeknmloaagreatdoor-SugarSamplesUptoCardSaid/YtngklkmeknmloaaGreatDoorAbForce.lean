/- An expression sampled: the law. -/
import Derived.Test.YtngklkmeknmloaaGreatDoorAbLim
import Derived.Test.YtngklkmeknmloaaGreatDoorAbTxt
import Derived.Test.YtngklkmeknmloaaGreatDoorAbTypes
import Derived.Test.YtngklkmeknmloaaGreatDoorAbSame
set_option linter.unusedSimpArgs false
set_option linter.unusedVariables false
set_option maxRecDepth 100000
set_option maxHeartbeats 4000000
open Go.Proofs
open List renaming rec→wa,append_nil→wb
namespace Go.Ab
section
variable {β:Type}
def fN (n:Nat) (k:Nat→β):β:=match n with|0=>k 0|m+1=>k (m+1)
def fI (n:Int) (k:Int→β):β:=match n with| .ofNat m=>fN m fun m=>k (.ofNat m)| .negSucc m=>fN m fun m=>k (.negSucc m)
noncomputable def fL {α:Type} (l:List α) (k:List α→β):β:=wa (motive:=fun _=>(List α→β)→β) (fun k=>k []) (fun x _ ih k=>ih fun r=>k (x::r)) l k
noncomputable def fNs (l:List Nat) (k:List Nat→β):β:=wa (motive:=fun _=>(List Nat→β)→β) (fun k=>k []) (fun x _ ih k=>fN x fun x=>ih fun r=>k (x::r)) l k
def fT (t:Tk) (k:Tk→β):β:=match t with| .free=>k .free| .full=>k .full| .zero=>k .zero| .own t=>fN t fun t=>k (.own t)
noncomputable def fC (v:AVal) (k:AVal→β):β:=match v with
 | .undef=>k .undef
 | .bool b=>(match b with|true=>k (.bool true)|false=>k (.bool false))
 | .int t n=>fI n fun n=>k (.int t n)
 | .str s=>fL s fun s=>k (.str s)
 | .nilp=>k .nilp
 | .ptr b o=>fN b fun b=>fN o fun o=>k (.ptr b o)
 | .slice es tk=>fT tk fun tk=>fL es fun es=>k (.slice es tk)
 | .ms es b n m=>fL es fun es=>fN b fun b=>fN n fun n=>fN m fun m=>k (.ms es b n m)
 | .mptr b o n=>fN b fun b=>fN o fun o=>fN n fun n=>k (.mptr b o n)
 | .mref b=>fN b fun b=>k (.mref b)
 |v=>k v
noncomputable def fCs (l:List AVal) (k:List AVal→β):β:=wa (motive:=fun _=>(List AVal→β)→β) (fun k=>k []) (fun x _ ih k=>fC x fun x=>ih fun r=>k (x::r)) l k
noncomputable def fV (v:AVal) (k:AVal→β):β:=match v with
 | .agg cs=>fCs cs fun cs=>k (.agg cs)
 | .tuple vs=>fCs vs fun vs=>k (.tuple vs)
 | .func f a b=>fCs a fun a=>fCs b fun b=>k (.func f a b)
 | .eptr cs o=>fL cs fun cs=>fN o fun o=>k (.eptr cs o)
 |v=>fC v k
noncomputable def fVs (l:List AVal) (k:List AVal→β):β:=wa (motive:=fun _=>(List AVal→β)→β) (fun k=>k []) (fun x _ ih k=>fV x fun x=>ih fun r=>k (x::r)) l k
noncomputable def fB (x:Blk) (k:Blk→β):β:=match x with
 | .box cs=>fVs cs fun cs=>k (.box cs)
 | .tok n e=>fN n fun n=>k (.tok n e)
 | .arr p cs l e=>fN p fun p=>fVs cs fun cs=>fN l fun l=>k (.arr p cs l e)
 | .map ks vs=>fVs ks fun ks=>fVs vs fun vs=>k (.map ks vs)
noncomputable def fH (l:qaa) (k:qaa→β):β:=wa (motive:=fun _=>(List Blk→β)→β) (fun k=>k []) (fun x _ ih k=>fB x fun x=>ih fun r=>k (x::r)) l k
noncomputable def nthK {α:Type} (l:List α) (n:Nat):Option α:=wa (motive:=fun _=>Nat→Option α) (fun _=>none) (fun x _ ih n=>Nat.rec (some x) (fun m _=>ih m) n) l n
noncomputable def setK {α:Type} (l:List α) (n:Nat) (v:α) (k:List α→β):β:=wa (motive:=fun _=>Nat→(List α→β)→β) (fun _ k=>k []) (fun x r ih n k=>Nat.rec (k (v::r)) (fun m _=>ih m fun r'=>k (x::r')) n) l n k
theorem qgk {α:Type} (l:List α):∀n,nthK l n=l[n]? :=by
 induction l with
 |nil=>intro n;rfl
 |cons x r ih=>intro n;cases n with
  |zero=>rfl
  |succ m=>exact ih m
theorem setK_eq {α:Type} (v:α) (l:List α):∀(n:Nat) (k:List α→β),setK l n v k=k (l.set n v):=by
 induction l with
 |nil=>intro n k;rfl
 |cons x r ih=>intro n k;cases n with
  |zero=>rfl
  |succ m=>exact ih m fun r'=>k (x::r')
theorem qlr (n:Nat) (k:Nat→β):fN n k=k n:=by cases n<;>rfl
theorem fI_eq (n:Int) (k:Int→β):fI n k=k n:=by cases n<;>simp only[fI,qlr]
theorem fL_eq {α:Type} (l:List α):∀k:List α→β,fL l k=k l:=by
 induction l with
 |nil=>intro k;rfl
 |cons x r ih=>intro k;exact ih fun r=>k (x::r)
theorem fNs_eq (l:List Nat):∀k:List Nat→β,fNs l k=k l:=by
 induction l with
 |nil=>intro k;rfl
 |cons x r ih=>
  intro k
  show fN x (fun x=>fNs r fun r=>k (x::r))=_
  rw[qlr];exact ih _
theorem fT_eq (t:Tk) (k:Tk→β):fT t k=k t:=by cases t<;>simp only[fT,qlr]
theorem fC_eq (v:AVal) (k:AVal→β):fC v k=k v:=by
 cases v with
 |bool b=>cases b<;>rfl
 |_=>simp only[fC,fI_eq,qlr,fL_eq,fT_eq]
theorem fCs_eq (l:List AVal):∀k:List AVal→β,fCs l k=k l:=by
 induction l with
 |nil=>intro k;rfl
 |cons x r ih=>
  intro k
  show fC x (fun x=>fCs r fun r=>k (x::r))=_
  rw[fC_eq];exact ih _
theorem fV_eq (v:AVal) (k:AVal→β):fV v k=k v:=by
 cases v<;>simp only[fV,fCs_eq,fL_eq,qlr,fC_eq]
theorem fVs_eq (l:List AVal):∀k:List AVal→β,fVs l k=k l:=by
 induction l with
 |nil=>intro k;rfl
 |cons x r ih=>
  intro k
  show fV x (fun x=>fVs r fun r=>k (x::r))=_
  rw[fV_eq];exact ih _
theorem fB_eq (x:Blk) (k:Blk→β):fB x k=k x:=by cases x<;>simp only[fB,fVs_eq,qlr]
theorem fH_eq (l:qaa):∀k:qaa→β,fH l k=k l:=by
 induction l with
 |nil=>intro k;rfl
 |cons x r ih=>
  intro k
  show fB x (fun x=>fH r fun r=>k (x::r))=_
  rw[fB_eq];exact ih _
end
noncomputable def qaw (o:Operand) (ts:List AVal):Option AVal:=match o with
 | .tmp t=>nthK ts t
 | .const v=>ofV v
 | .func f=>some (.func f [] [])
 | .global _=>none
theorem qev (o:Operand) (ts:List AVal):qaw o ts=qab o ts:=by
 cases o<;>simp only[qaw,qab,qgk]
noncomputable def qls (ts:List AVal) (l:List Operand):Option (List AVal):=wa (motive:=fun _=>Option (List AVal)) (some []) (fun o _ ih=>match qaw o ts with|some a=>(match ih with|some l=>some (a::l)|none=>none)|none=>none) l
theorem qi9 (ts:List AVal) (l:List Operand):qls ts l=qao ts l:=by
 induction l with
 |nil=>rfl
 |cons o r ih=>
  show(match qaw o ts with|some a=>(match qls ts r with|some l=>some (a::l)|none=>none)|none=>none)=qao ts (o::r)
  rw[ih,qev]
  simp only[qao]
  cases qab o ts with
  |none=>rfl
  |some a=>cases qao ts r<;>rfl
noncomputable def qog (ops:List Oper) (o:Oper) (ts:List AVal):Option Bool:=match o.guard with
 |none=>some true
 |some (j,want)=>match nthK ops j with
  |some oj=>match oj.dst with
   |some d=>match nthK ts d with
    |some (.bool b)=>some (b==want)
    |some .undef=>some false
    |_=>none
   |none=>none
  |none=>none
theorem qts (ops:List Oper) (o:Oper) (ts:List AVal):qog ops o ts=qap ops o ts:=by
 simp only[qog,qap,qgk]
 rfl
def refs0 (v:AVal):List Nat:=match v with
 | .ptr b _=>[b]
 | .slice _ tk=>(match tk with| .own t=>[t]|_=>[])
 | .ms _ b _ _=>[b]
 | .mptr b _ _=>[b]
 | .mref b=>[b]
 | .func f a b=>refs (.func f a b)
 | .iface t v=>refs (.iface t v)
 | .agg cs=>refs (.agg cs)
 | .tuple cs=>refs (.tuple cs)
 |_=>[]
theorem qq1 (v:AVal):refs0 v=refs v:=by
 cases v with
 |slice es tk=>cases tk<;>rfl
 |_=>rfl
noncomputable def cat0 (l:List AVal):List Nat:=wa (motive:=fun _=>List Nat) [] (fun x _ ih=>match refs0 x with|[]=>ih|l=>l++ih) l
theorem cat0_eq (l:List AVal):cat0 l=qag l:=by
 induction l with
 |nil=>rfl
 |cons x r ih=>
  show(match refs0 x with|[]=>cat0 r|l=>l++cat0 r)=qag (x::r)
  simp only[qag,ih,qq1]
  split
  ·rename_i h;rw[h];rfl
  ·rfl
noncomputable def refs1 (v:AVal):List Nat:=match v with
 | .agg cs=>cat0 cs
 | .func _ a b=>cat0 a++cat0 b
 |v=>refs0 v
theorem qq2 (v:AVal):refs1 v=refs v:=by
 cases v<;>simp only[refs1,qq1,cat0_eq,refs]
noncomputable def cat1 (l:List AVal):List Nat:=wa (motive:=fun _=>List Nat) [] (fun x _ ih=>match refs1 x with|[]=>ih|l=>l++ih) l
theorem qlt (l:List AVal):cat1 l=qag l:=by
 induction l with
 |nil=>rfl
 |cons x r ih=>
  show(match refs1 x with|[]=>cat1 r|l=>l++cat1 r)=qag (x::r)
  simp only[qag,ih,qq2]
  split
  ·rename_i h;rw[h];rfl
  ·rfl
noncomputable def qja (v:AVal):List Nat:=match v with
 | .tuple cs=>cat1 cs
 |v=>refs1 v
theorem refs2_eq (v:AVal):qja v=refs v:=by
 cases v<;>simp only[qja,qq2,qlt,refs]
def ren0 (σ:Nat→Nat) (v:AVal):AVal:=match v with
 | .ptr b o=> .ptr (σ b) o
 | .slice es tk=>(match tk with| .own t=> .slice es (.own (σ t))|tk=> .slice es tk)
 | .ms es b n m=> .ms es (σ b) n m
 | .mptr b o n=> .mptr (σ b) o n
 | .mref b=> .mref (σ b)
 | .func f a b=>ren σ (.func f a b)
 | .iface t v=>ren σ (.iface t v)
 | .agg cs=>ren σ (.agg cs)
 | .tuple cs=>ren σ (.tuple cs)
 |v=>v
theorem ren0_eq (σ:Nat→Nat) (v:AVal):ren0 σ v=ren σ v:=by
 cases v with
 |slice es tk=>cases tk<;>rfl
 |_=>rfl
noncomputable def rens0 (σ:Nat→Nat) (l:List AVal):List AVal:=wa (motive:=fun _=>List AVal) [] (fun x _ ih=>ren0 σ x::ih) l
theorem rens0_eq (σ:Nat→Nat) (l:List AVal):rens0 σ l=renL σ l:=by
 induction l with
 |nil=>rfl
 |cons x r ih=>
  show ren0 σ x::rens0 σ r=renL σ (x::r)
  rw[ren0_eq,ih];rfl
noncomputable def ren1 (σ:Nat→Nat) (v:AVal):AVal:=match v with
 | .agg cs=> .agg (rens0 σ cs)
 | .func f a b=> .func f (rens0 σ a) (rens0 σ b)
 |v=>ren0 σ v
theorem ren1_eq (σ:Nat→Nat) (v:AVal):ren1 σ v=ren σ v:=by
 cases v<;>simp only[ren1,ren0_eq,rens0_eq,ren]
noncomputable def qhp (σ:Nat→Nat) (l:List AVal):List AVal:=wa (motive:=fun _=>List AVal) [] (fun x _ ih=>ren1 σ x::ih) l
theorem qmw (σ:Nat→Nat) (l:List AVal):qhp σ l=renL σ l:=by
 induction l with
 |nil=>rfl
 |cons x r ih=>
  show ren1 σ x::qhp σ r=renL σ (x::r)
  rw[ren1_eq,ih];rfl
noncomputable def ren2 (σ:Nat→Nat) (v:AVal):AVal:=match v with
 | .tuple cs=> .tuple (qhp σ cs)
 |v=>ren1 σ v
theorem ren2_eq (σ:Nat→Nat) (v:AVal):ren2 σ v=ren σ v:=by
 cases v<;>simp only[ren2,ren1_eq,qmw,ren]
noncomputable def qjb (σ:Nat→Nat):Blk→Blk
 | .box cs=> .box (qhp σ cs)
 | .tok l e=> .tok l e
 | .arr p cs l e=> .arr p (qhp σ cs) l e
 | .map ks vs=> .map (qhp σ ks) (qhp σ vs)
theorem qmx (σ:Nat→Nat) (x:Blk):qjb σ x=renB σ x:=by cases x<;>simp only[qjb,renB,qmw]
noncomputable def qg5:Blk→List Nat
 | .box cs=>cat1 cs
 | .tok .. =>[]
 | .arr _ cs _ _=>cat1 cs
 | .map ks vs=>cat1 ks++cat1 vs
theorem qma (x:Blk):qg5 x=qb8 x:=by cases x<;>simp only[qg5,qb8,qlt]
noncomputable def qd1 (h:qaa):Nat→List Nat→List Nat→List Nat
 |0,_,done=>done
 |_+1,[],done=>done
 |n+1,b::r,done=>if done.contains b then qd1 h n r done else
  match nthK h b with
  |some x=>(match qg5 x with
   |[]=>qd1 h n r (done++[b])
   |l=>qd1 h n (r++l) (done++[b]))
  |none=>qd1 h n r (done++[b])
theorem qf0 (h:qaa):∀(n:Nat) (l done:List Nat),qd1 h n l done=qa2 h n l done
 |0,_,_=>by unfold qd1 qa2;rfl
 |n+1,[],_=>by unfold qd1 qa2;rfl
 |n+1,b::r,done=>by
  have key:∀x:Blk,(match qg5 x with|[]=>qd1 h n r (done++[b])|l=>qd1 h n (r++l) (done++[b]))=qa2 h n (r++qb8 x) (done++[b]):=by
   intro x
   rw[qma]
   split
   ·rename_i e;rw[e,wb,qf0 h n]
   ·rw[qf0 h n]
  unfold qd1 qa2
  rw[qgk]
  split
  ·exact qf0 h n _ _
  ·cases h[b]? with
   |none=>exact qf0 h n _ _
   |some x=>
    simp only
    rw[key x]
    cases x with
    |box cs=>rfl
    |tok l e=>simp only[qb8,wb]
    |arr p cs l e=>rfl
    |map ks vs=>rfl
noncomputable def subHK (h:qaa) (idx:List Nat):qaa:=idx.map fun b=>match nthK h b with|some x=>qjb (fun x=>idx.idxOf x) x|none=>qjb (fun x=>idx.idxOf x) (.box [])
theorem subHK_eq (h:qaa) (idx:List Nat):subHK h idx=subH h idx:=by
 unfold subHK subH
 refine List.map_congr_left (fun b _=> ?_)
 rw[qgk,List.getD_eq_getElem?_getD]
 cases h[b]? <;>simp only[qmx,Option.getD_some,Option.getD_none]
noncomputable def subOkK (h:qaa) (idx:List Nat) (args:List AVal):Bool:=
 (cat1 args).all (fun b=>idx.contains b) && idx.all fun b=>match nthK h b with|some x=>(qg5 x).all fun c=>idx.contains c|none=>false
theorem subOkK_eq (h:qaa) (idx:List Nat) (args:List AVal):subOkK h idx args=qdc h idx args:=by
 simp only[subOkK,qdc,qlt,qgk,qma]
 rfl
noncomputable def qjc (idx:List Nat) (n:Nat) (h':qaa):List Nat→qaa→qaa
 |[],h=>h
 |i::r,h=>qjc idx n h' r (match nthK idx i,nthK h' i with|some b,some x=>h.set b (qjb (qa6 n idx) x)|_,_=>h)
theorem qmb (idx:List Nat) (n:Nat) (h':qaa):∀(l:List Nat) (h:qaa),qjc idx n h' l h=qdo idx n h' l h
 |[],h=>rfl
 |i::r,h=>by simp only[qjc,qdo,qgk,qmx,qmb idx n h' r];rfl
noncomputable def qh7 (h:qaa) (idx:List Nat):Eff→Eff
 | .same=> .same
 | .heap h' d=> .heap (qjc idx h.length h' d h++(h'.drop idx.length).map (qjb (qa6 h.length idx))) (d.map (qa6 h.length idx))
theorem qo9 (h:qaa) (idx:List Nat) (f:Eff):qh7 h idx f=qdd h idx f:=by
 cases f with
 |same=>rfl
 |heap h' d=>
  have:qjb (qa6 h.length idx)=renB (qa6 h.length idx):=funext (qmx _)
  simp only[qh7,qdd,qmb,this]
noncomputable def callS (call:Call) (h:qaa) (g:FuncId) (args:List AVal) (l:List Nat):Option CR:=
 fNs (qd1 h 256 l []) fun idx=>if subOkK h idx args then
  match call g (qhp (fun x=>idx.idxOf x) args) (subHK h idx)with
  |some (.ret v e)=>some (.ret (match qja v with|[]=>v|_=>ren2 (qa6 h.length idx) v) (qh7 h idx e))
  |some (.pan v e)=>some (.pan (match qja v with|[]=>v|_=>ren2 (qa6 h.length idx) v) (qh7 h idx e))
  |none=>none
 else none
noncomputable def callK (call:Call) (h:qaa) (g:FuncId) (args:List AVal):Option CR:=match cat1 args with
 |[]=>(match call g args []with
  |some (.ret v e)=>some (.ret (match qja v with|[]=>v|_=>ren2 (qa6 h.length []) v) (qh7 h [] e))
  |some (.pan v e)=>some (.pan (match qja v with|[]=>v|_=>ren2 (qa6 h.length []) v) (qh7 h [] e))
  |none=>none)
 |l=>callS call h g args l
theorem qq3 (σ:Nat→Nat) (v:AVal):(match qja v with|[]=>v|_=>ren2 σ v)=ren σ v:=by
 rw[refs2_eq,ren2_eq]
 split
 ·rename_i h;exact(qcj v (by rw[h];simp)).symm
 ·rfl
theorem callS_eq (call:Call) (h:qaa) (g:FuncId) (args:List AVal):callS call h g args (qag args)=qa7 call h g args:=by
 unfold callS qa7
 simp only[fNs_eq,qf0,subOkK_eq,qmw,subHK_eq,qq3,qo9]
 rfl
theorem qjd (call:Call) (h:qaa) (g:FuncId) (args:List AVal):callK call h g args=qa7 call h g args:=by
 unfold callK
 rw[qlt]
 split
 ·rename_i hr
  simp only[qq3,qo9]
  unfold qa7
  have h1:qa2 h 256 [] []=[]:=rfl
  have h2:qdc h [] args=true:=by unfold qdc;rw[hr];rfl
  have h3:renL (fun x=>([]:List Nat).idxOf x) args=args:=qas args (by rw[hr];simp)
  have h4:subH h []=[]:=rfl
  simp only[hr,h1,h2,h3,h4,if_true]
  rfl
 ·exact callS_eq call h g args
section
variable (P:Program)
def vK (x:Option AVal):Option OR:=match x with|some a=>some (.val a .same)|none=>none
noncomputable def qlu (x:Operand) (ts:List AVal):Option OR:=vK (qaw x ts)
noncomputable def kPick (b x y:Operand) (ts:List AVal):Option OR:=match qaw b ts with
 |some (.bool true)=>vK (qaw x ts)
 |some (.bool false)=>vK (qaw y ts)
 |_=>none
noncomputable def qkm (t:TypeId) (h:qaa):Option OR:=match qal P t with
 |some z=>some (.val (.ptr h.length 0) (.heap (h++[.box z.cells]) []))
 |none=>none
noncomputable def kBox (x:Operand) (ts:List AVal) (h:qaa):Option OR:=match qaw x ts with
 |some a=>some (.val (.ptr h.length 0) (.heap (h++[.box a.cells]) []))
 |none=>none
noncomputable def qkn (t:TypeId) (ps:Array (Nat×Operand)) (ts:List AVal):Option OR:=match qal P t,P.underlying t,qau ts ps.toList with
 |some (.agg z),some (.struct fs),some ps=>if fs.all (fun f=>(P.info? f.type).isSome)then
  vK ((qa3 (fun i=>match fs[i]? with|some f=>(qai P f.type).map fun s=>(f.offset,s)|none=>none) z ps).map .agg)else none
 |some (.agg z),some (.array _ e),some ps=>
  vK (match qai P e with|some s=>(qa3 (fun i=>some (i*s,s)) z ps).map .agg|none=>none)
 |_,_,_=>none
noncomputable def qeg (t:TypeId) (n:Nat) (ps':Array (Nat×Operand)) (ts:List AVal):Option OR:=match qcl P t with
 |some e=>match qai P e,qal P e,qau ts ps'.toList with
  |some (s+1),some z,some ps=>if n*(s+1)≤65536 && z.cells.length==s+1 then
   match qa3 (fun i=>some (i*(s+1),s+1)) (List.replicate n z.cells).flatten ps with
   |some cs=>match qbp (chop (s+1) n cs)with
    |some es=>vK (some (.slice es (if !es.isEmpty && (decide (0<s) && ps'.toList.any (fun x=>isAgg0 x.2))then .zero else .full)))
    |none=>none
   |none=>none
   else none
  |_,_,_=>none
 |none=>none
noncomputable def kLoad (t:TypeId) (a:Operand) (ts:List AVal) (h:qaa):Option OR:=match qaw a ts with|some a=>vK (qck P h t a)|none=>none
noncomputable def qko (t:TypeId) (a x:Operand) (ts:List AVal) (h:qaa):Option OR:=match qaw a ts,qaw x ts with
 |some a,some x=>match qbv P h t a x with
  |some (h',b)=>some (.val .undef (.heap h' [b]))
  |none=>none
 |_,_=>none
noncomputable def kNil (x:Operand) (ts:List AVal):Option OR:=match qaw x ts with
 |some (.ptr b o)=>vK (some (.ptr b o))
 |some (.eptr cs o)=>vK (some (.eptr cs o))
 |some (.mptr b o n)=>vK (some (.mptr b o n))
 |some (.func f a b)=>vK (some (.func f a b))
 |_=>none
noncomputable def kBin (cmp:List TypeId) (op:BinOp) (t:TypeId) (x y:Operand) (ts:List AVal):Option OR:=match qaw x ts,qaw y ts with
 |some a,some b=>vK (binA P cmp op t (qbg x||qbg y) a b)
 |_,_=>none
noncomputable def kUn (op:UnOp) (x:Operand) (ts:List AVal):Option OR:=match qaw x ts with|some a=>vK (unA op a)|none=>none
noncomputable def kConv (s d:TypeId) (x:Operand) (ts:List AVal):Option OR:=match qaw x ts with|some a=>vK (qkv P s d a)|none=>none
noncomputable def qkp (t:TypeId) (x:Operand) (ts:List AVal):Option OR:=match qaw x ts,P.underlying t with
 |_,some (.interface _)=>none
 |some a,some _=>vK (some (.iface t a))
 |_,_=>none
noncomputable def kFunc (f:FuncId) (first cap:Array Operand) (ts:List AVal):Option OR:=match qls ts first.toList,qls ts cap.toList with
 |some a,some b=>vK (some (.func f a b))
 |_,_=>none
noncomputable def qkq (t:TypeId) (x:Operand) (lo hi mx:Option Operand) (ts:List AVal):Option OR:=match qaw x ts,optA ts lo,optA ts hi,optA ts mx with
 |some x,some lo,some hi,some mx=>vK (qea P t x lo hi mx)
 |_,_,_,_=>none
noncomputable def qfa (s:TypeId) (x:Operand) (f:Nat) (ts:List AVal):Option OR:=match qam P s f,qaw x ts with
 |some (off,_),some (.ptr b o)=>vK (some (.ptr b (o+off)))
 |some (off,_),some (.eptr cs o)=>vK (some (.eptr cs (o+off)))
 |some (off,_),some (.mptr b o n)=>vK (some (.mptr b (o+off) n))
 |_,_=>none
noncomputable def qkr (t:TypeId) (x:Operand) (f:Nat) (ts:List AVal):Option OR:=match qam P t f,qaw x ts with
 |some (off,ft),some (.agg cs)=>vK (qby P ft cs off)
 |_,_=>none
noncomputable def qfb (t:TypeId) (x i:Operand) (ts:List AVal):Option OR:=match P.underlying t,qaw x ts,qaw i ts with
 |some (.slice e),some (.slice es _),some (.int _ n)=>match es[n.toNat]?,qai P e with
  |some cs,some s=>if 0≤n && cs.length==s then vK (some (.eptr cs 0))else none
  |_,_=>none
 |some (.slice e),some (.ms es b k m),some (.int _ n)=>match qai P e with
  |some s=>if 0≤n && n<m then(match es[n.toNat]? with
   |some cs=>if cs.length==s then vK (some (.eptr cs 0))else none
   |none=>vK (some (.mptr b (n.toNat*s) k)))else none
  |none=>none
 |some (.array len e),some (.ptr b o),some (.int _ n)=>match qai P e with
  |some s=>if 0≤n && n<len then vK (some (.ptr b (o+n.toNat*s)))else none
  |none=>none
 |_,_,_=>none
noncomputable def qks (t:TypeId) (x i:Operand) (ts:List AVal):Option OR:=match P.underlying t,qaw x ts,qaw i ts with
 |some .string,some (.str s),some (.int _ n)=>match s[n.toNat]? with
  |some b=>if 0≤n then vK (some (.int .u8 b.toNat))else none
  |none=>none
 |some (.array len e),some (.agg cs),some (.int _ n)=>match qai P e with
  |some s=>if 0≤n && n<len then vK (qby P e cs (n.toNat*s))else none
  |none=>none
 |_,_,_=>none
noncomputable def qfc (t:TypeId) (x y:Operand) (ts:List AVal) (h:qaa):Option OR:=match qaw x ts,qaw y ts with
 |some a,some b=>(match qdb P h t a b with|some (u,f)=>some (.val u f)|none=>none)
 |_,_=>none
noncomputable def qh8 (t:TypeId) (x k:Operand) (ok:Bool) (ts:List AVal) (h:qaa):Option OR:=match qaw x ts,qaw k ts with
 |some m,some k=>vK (qgg P h t m k ok)
 |_,_=>none
noncomputable def qgl (t:TypeId) (m k x:Operand) (ts:List AVal) (h:qaa):Option OR:=match qaw m ts,qaw k ts,qaw x ts with
 |some m,some k,some x=>(match qdn P h t m k x with
  |some (h',b)=>some (.val .undef (.heap h' [b]))
  |none=>none)
 |_,_,_=>none
noncomputable def qg6 (x:Operand) (i:Nat) (ts:List AVal):Option OR:=match qaw x ts with
 |some (.tuple vs)=>vK vs[i]?
 |_=>none
noncomputable def qkt (call:Call) (f:Operand) (args:Array Operand) (ts:List AVal) (h:qaa):Option OR:=match qaw f ts,qls ts args.toList with
 |some (.func g first cap),some vs=>match callK call h g (first++vs.map argA++cap)with
  |some r=>some (outOf r)
  |none=>none
 |_,_=>none
noncomputable def qg7 (cmp:List TypeId) (b:Builtin) (args:Array Operand) (argTypes:Array TypeId) (ts:List AVal) (h:qaa):Option OR:=match qls ts args.toList,argTypes[0]? with
 |some [x],some t=>(match b,x,P.underlying t with
  | .len,.str s,some .string=>if s.length≤qgm then vK (some (.int .i64 s.length))else none
  | .len,.slice es _,some (.slice _)=>vK (some (.int .i64 es.length))
  | .len,.ms _ _ _ m,some (.slice _)=>vK (some (.int .i64 m))
  | .cap,.slice es .full,some (.slice _)=>vK (some (.int .i64 es.length))
  |_,_,_=>none)
 |some [x,y],some t=>(match b with
  | .append=>if argTypes[1]? ==some t then(match qbo P (bigM cmp) h t x y with
   |some (a,f)=>some (.val a f)
   |none=>none)else(match qht P h t x y,(argTypes[1]?).bind P.underlying with
   |some (a,f),some (.int _)=>some (.val a f)
   |_,_=>none)
  | .max=>vK (maxA [x,y])
  | .min=>vK (minA [x,y])
  |_=>none)
 |_,_=>none
noncomputable def qh9 (P:Program) (cmp:List TypeId) (call:Call) (args:Array Operand) (argTypes:Array TypeId) (ts:List AVal) (h:qaa):Callee→Option OR
 | .value f=>qkt call f args ts h
 | .builtin b=>qg7 P cmp b args argTypes ts h
 |_=>none
noncomputable def qku (x:Operand) (ts:List AVal):Option OR:=match qaw x ts with
 |some (.iface t a)=>some (.pan (.iface t a) .same)
 |_=>none
abbrev Kf:=Program→List TypeId→Call→List AVal→qaa→Option OR
noncomputable def kFn (first cap:Array Operand):Fn→Kf
 | .func f=>fun _ _ _ ts _=>kFunc f first cap ts
 |_=>fun _ _ _ _ _=>none
noncomputable def kMap:Option Operand→Kf
 |none=>fun _ _ _ _ h=>some (.val (.mref h.length) (.heap (h++[.map [] []]) []))
 |some _=>fun _ _ _ _ _=>none
noncomputable def kOp:Op→Option Kf
 | .move x=>some fun _ _ _ ts _=>qlu x ts
 | .assign x=>some fun _ _ _ ts _=>qlu x ts
 | .pick b x y=>some fun _ _ _ ts _=>kPick b x y ts
 | .alloc t=>some fun P _ _ _ h=>qkm P t h
 | .box _ x=>some fun _ _ _ ts h=>kBox x ts h
 | .build t ps=>some fun P _ _ ts _=>qkn P t ps ts
 | .buildSlice t n ps=>some fun P _ _ ts _=>qeg P t n ps ts
 | .load t a=>some fun P _ _ ts h=>kLoad P t a ts h
 | .store t a x=>some fun P _ _ ts h=>qko P t a x ts h
 | .nilCheck x=>some fun _ _ _ ts _=>kNil x ts
 | .binOp op t x y _=>some fun P cmp _ ts _=>kBin P cmp op t x y ts
 | .unOp op _ x=>some fun _ _ _ ts _=>kUn op x ts
 | .convert s d x=>some fun P _ _ ts _=>kConv P s d x ts
 | .makeInterface t x=>some fun P _ _ ts _=>qkp P t x ts
 | .makeFunc f first cap=>some (kFn first cap f)
 | .slice t x lo hi mx=>some fun P _ _ ts _=>qkq P t x lo hi mx ts
 | .fieldAddr s x f=>some fun P _ _ ts _=>qfa P s x f ts
 | .field t x f=>some fun P _ _ ts _=>qkr P t x f ts
 | .indexAddr t x i=>some fun P _ _ ts _=>qfb P t x i ts
 | .index t x i=>some fun P _ _ ts _=>qks P t x i ts
 | .makeSlice t x y=>some fun P _ _ ts h=>qfc P t x y ts h
 | .makeMap _ r=>some (kMap r)
 | .lookup t x k ok=>some fun P _ _ ts h=>qh8 P t x k ok ts h
 | .mapUpdate t m k x=>some fun P _ _ ts h=>qgl P t m k x ts h
 | .insert t m k x=>some fun P _ _ ts h=>qgl P t m k x ts h
 | .extract x i=>some fun _ _ _ ts _=>qg6 x i ts
 | .panic x=>some fun _ _ _ ts _=>qku x ts
 | .call c=>some fun P cmp call ts h=>qh9 P cmp call c.args c.argTypes ts h c.callee
 |_=>none
noncomputable def opK (cmp:List TypeId) (call:Call) (o:Oper) (ts:List AVal) (h:qaa):Option OR:=match kOp o.op with
 |some f=>f P cmp call ts h
 |none=>opA P cmp call o ts h
theorem opK_eq (cmp:List TypeId) (call:Call) (o:Oper) (ts:List AVal) (h:qaa):opK P cmp call o ts h=opA P cmp call o ts h:=by
 obtain⟨dst,op,type,pos,after,guard⟩:=o
 cases op with
 |makeFunc fn a b=>cases fn<;>first|rfl|(simp only[opK,qlu,kPick,qkm,kBox,qkn,qeg,kLoad,qko,kNil,kBin,kUn,kConv,qkp,kFunc,qkq,qfa,qkr,qfb,qks,qfc,qh8,qgl,qg6,qkt,qg7,qh9,qku,kFn,kMap,kOp,qev,qi9,qjd];rfl)
 |makeMap t r=>cases r<;>rfl
 |call c=>
  obtain⟨callee,args,ats⟩:=c
  cases callee with
  |value f=>simp only[opK,qlu,kPick,qkm,kBox,qkn,qeg,kLoad,qko,kNil,kBin,kUn,kConv,qkp,kFunc,qkq,qfa,qkr,qfb,qks,qfc,qh8,qgl,qg6,qkt,qg7,qh9,qku,kFn,kMap,kOp,qev,qi9,qjd];rfl
  |builtin b=>cases b<;>first|rfl|(simp only[opK,qlu,kPick,qkm,kBox,qkn,qeg,kLoad,qko,kNil,kBin,kUn,kConv,qkp,kFunc,qkq,qfa,qkr,qfb,qks,qfc,qh8,qgl,qg6,qkt,qg7,qh9,qku,kFn,kMap,kOp,qev,qi9,qjd];rfl)
  |invoke=>rfl
 |_=>first|rfl|(simp only[opK,qlu,kPick,qkm,kBox,qkn,qeg,kLoad,qko,kNil,kBin,kUn,kConv,qkp,kFunc,qkq,qfa,qkr,qfb,qks,qfc,qh8,qgl,qg6,qkt,qg7,qh9,qku,kFn,kMap,kOp,qev,qi9,qjd];rfl)
noncomputable def dstK (ts:List AVal) (d:Option Tmp) (v:AVal) (k:List AVal→Option (AEx×St)):Option (AEx×St):=match d with
 |some d=>setK ts d v k
 |none=>k ts
theorem dstK_eq (ts:List AVal) (d:Option Tmp) (v:AVal) (k:List AVal→Option (AEx×St)):dstK ts d v k=k (setT ts d v):=by
 cases d with
 |none=>rfl
 |some d=>exact setK_eq v ts d k
noncomputable def nextK (o:Oper) (s:St) (v:AVal) (f:Eff) (k:St→Option (AEx×St)):Option (AEx×St):=
 fV v fun v=>dstK s.tmps o.dst v fun ts=>match f with
  | .same=>k ⟨ts,s.heap,s.dirty⟩
  | .heap h d=>fH h fun h=>fNs (d++s.dirty) fun d=>k ⟨ts,h,d⟩
theorem nextK_eq (o:Oper) (s:St) (v:AVal) (f:Eff) (k:St→Option (AEx×St)):nextK o s v f k=k ⟨setT s.tmps o.dst v,f.of s.heap,f.dirt++s.dirty⟩:=by
 unfold nextK
 rw[fV_eq,dstK_eq]
 cases f with
 |same=>rfl
 |heap h d=>simp only[fH_eq,fNs_eq];rfl
noncomputable def opsK (cmp:List TypeId) (call:Call) (ops:List Oper):List Oper→St→Option (AEx×St)
 |[],s=>some (.normal,s)
 |o::r,s=>match qog ops o s.tmps with
  |some true=>(match opK P cmp call o s.tmps s.heap with
   |some (.val v f)=>nextK o s v f (opsK cmp call ops r)
   |some (.pan v f)=>some (.pan v,⟨s.tmps,f.of s.heap,f.dirt++s.dirty⟩)
   |none=>none)
  |some false=>dstK s.tmps o.dst .undef fun ts=>opsK cmp call ops r ⟨ts,s.heap,s.dirty⟩
  |none=>none
theorem qoh (cmp:List TypeId) (call:Call) (ops:List Oper):∀(l:List Oper) (s:St),opsK P cmp call ops l s=opsA P cmp call ops l s
 |[],s=>rfl
 |o::r,s=>by
  simp only[opsK,opsA,opK_eq,qts]
  cases qap ops o s.tmps with
  |none=>rfl
  |some b=>
   cases b with
   |false=>simp only[dstK_eq,qoh cmp call ops r]
   |true=>
    cases opA P cmp call o s.tmps s.heap with
    |none=>rfl
    |some x=>
     cases x with
     |val v f=>simp only[nextK_eq,qoh cmp call ops r]
     |pan v f=>rfl
noncomputable def fS (s:St) (k:St→Option (AEx×St)):Option (AEx×St):=fL s.tmps fun ts=>k ⟨ts,s.heap,s.dirty⟩
theorem fS_eq (s:St) (k:St→Option (AEx×St)):fS s k=k s:=by unfold fS;rw[fL_eq]
noncomputable def qd9 (cmp:List TypeId) (call:Call) (lp:Lp):Code→St→Option (AEx×St)
 | .skip,s=>some (.normal,s)
 | .region _ ops false,s=>opsK P cmp call ops.toList ops.toList s
 | .region _ ops true,s=>if qcp ops.toList && qcq ops.toList then
  opsX P cmp call s.heap.length ops.toList (List.range ops.size) s else none
 | .seq a b,s=>match qd9 cmp call lp a s with
  |some (.normal,s')=>fS s' (qd9 cmp call lp b)
  |r=>r
 | .cond c a b,s=>match qaw c s.tmps with
  |some (.bool true)=>qd9 cmp call lp a s
  |some (.bool false)=>qd9 cmp call lp b s
  |_=>none
 | .block id b,s=>match qd9 cmp call lp b s with
  |some (.exit j,s')=>if j=id then some (.normal,s')else some (.exit j,s')
  |r=>r
 | .loop b,s=>lp (qd9 cmp call lp b) s
 | .exit id,s=>some (.exit id,s)
 | .ret,s=>some (.ret,s)
 |_,_=>none
theorem codeK_eq (cmp:List TypeId) (call:Call) (lp:Lp):∀c:Code,qd9 P cmp call lp c=qak P cmp call lp c:=by
 intro c
 induction c with
 |region id ops d=>funext s;cases d<;>simp only[qd9,qak,qoh]
 |seq a b iha ihb=>funext s;simp only[qd9,qak,iha,ihb,fS_eq];rfl
 |cond c a b iha ihb=>funext s;simp only[qd9,qak,iha,ihb,qev];rfl
 |block id b ih=>funext s;simp only[qd9,qak,ih];rfl
 |loop b ih=>funext s;simp only[qd9,qak,ih]
 |_=>funext s;rfl
noncomputable def fnK (cmp:List TypeId) (call:Call) (lp:Lp) (f:FuncId) (args:List AVal) (h:qaa):Option CR:=
 match P.funcs[f]? with
 |none=>none
 |some fn=>match fn.body with
  |none=>none
  |some c=>match qd9 P cmp call lp c ⟨args++List.replicate (fn.ntmps-args.length) .undef,h,[]⟩with
   |some (.normal,s)|some (.ret,s)=>match resA P fn.results.toList s with
    |some vs=>let x:=qaq h.length (qb0 vs) s.heap s.dirty;some (.ret x.1 x.2)
    |none=>none
   |some (.pan v,s)=>let x:=qaq h.length v s.heap s.dirty;some (.pan x.1 x.2)
   |_=>none
theorem fnK_eq (cmp:List TypeId) (call:Call) (lp:Lp) (f:FuncId) (args:List AVal) (h:qaa):fnK P cmp call lp f args h=fnA P cmp call lp f args h:=by
 unfold fnK fnA
 simp only[codeK_eq]
 rfl
noncomputable def evK (cmp:List TypeId) (ext:Ext):Nat→Call
 |0,_,_,_=>none
 |n+1,f,args,h=>match ext f with
  |some g=>g args h
  |none=>fVs args fun args=>fH h fun h=>fnK P cmp (evK cmp ext n) (qbb n) f args h
theorem qn1 (cmp:List TypeId) (ext:Ext):∀n,evK P cmp ext n=evN P cmp ext n
 |0=>by funext f a h;rfl
 |n+1=>by
  funext f a h
  simp only[evK,evN,fVs_eq,fH_eq,fnK_eq,qn1 cmp ext n]
  rfl
end
end Go.Ab
namespace Go.Ab
open Go Go.Proofs
def extS:Ext:=fun f=>if f=73 then some (fun a h=>match a,h with|[.str s],[]=>if s.length≤65536 then some (.ret (qlq s) .same)else none|_,_=>none)else ext0 f
noncomputable def extR (k:Nat):Ext:=fun f=>if f=36 then some (fnF PP cmp0 (evK PP cmp0 extS k) (qbb k) 36)else if f=48 then some (fnF PP cmp0 (evK PP cmp0 extS k) (qbb k) 48)else extS f
theorem ret_str {f:FuncId} {s:Str} {v:AVal} (h:Ret C f [.str s] v):C f [.str s] []=some (.ret v .same):=by
 have h1:(match C f [.str s] []with
  |some (.ret v e)=>some (CR.ret (ren (qa6 0 []) v) (qdd [] [] e))
  |some (.pan v e)=>some (CR.pan (ren (qa6 0 []) v) (qdd [] [] e))
  |none=>none)=some (.ret v .same):=h []
 cases hc:C f [.str s] []with
 |none=>rw[hc]at h1;cases h1
 |some r=>
  rw[hc]at h1
  cases r with
  |pan u e=>cases h1
  |ret u e=>
   simp only[Option.some.injEq,CR.ret.injEq]at h1
   cases e with
   |heap=>cases h1.2
   |same=>
    have hl:=(keepC _ _ _ _ hc).2 u rfl
    have hr:ren (qa6 0 []) u=u:=qcj u (fun b hb=>by
     unfold lowA at hl
     have:=List.all_eq_true.1 hl b hb
     simp at this)
    rw[hr]at h1;rw[h1.1]
theorem scan_at {a:List AVal} {h:qaa} {r:CR} {g:List AVal→qaa→Option CR} (hg:extS 73=some g) (e:g a h=some r):C 73 a h=some r:=by
 have:g=fun a h=>match a,h with|[.str s],[]=>if s.length≤65536 then some (.ret (qlq s) .same)else none|_,_=>none:=by
  unfold extS at hg
  rw[if_pos rfl]at hg
  exact(Option.some.inj hg).symm
 subst this
 simp only at e
 split at e
 ·rename_i s
  split at e
  ·rename_i hs
   cases e
   exact ret_str (scan_c s hs)
  ·cases e
 ·cases e
theorem S_up:∀n,qb7 (evN PP cmp0 extS n) C
 |0=>fun f a h r e=>by cases e
 |n+1=>fun f a h r e=>by
  have ih:=S_up n
  by_cases h1:f=73
  ·subst h1
   unfold evN at e
   split at e
   ·rename_i g hg;exact scan_at hg e
   ·rename_i hg
    unfold extS at hg
    rw[if_pos rfl]at hg
    cases hg
  ·have e1:extS f=ext0 f:=by unfold extS;rw[if_neg h1]
   unfold evN at e
   rw[e1]at e
   split at e
   ·rename_i g hg
    unfold C;rw[qfj hg];exact e
   ·rename_i hg
    unfold C;rw[evC_eq hg]
    exact qj3 ih (qka n) _ _ _ _ e
theorem R_up (k:Nat):∀n,qb7 (evN PP cmp0 (extR k) n) D
 |0=>fun f a h r e=>by cases e
 |n+1=>fun f a h r e=>by
  have ih:=R_up k n
  have hC:qb7 (evK PP cmp0 extS k) C:=by rw[qn1];exact S_up k
  have hl:LpLe (qbb k) lpC:=qka k
  by_cases h1:f=36
  ·subst h1
   unfold evN at e
   have:extR k 36=some (fnF PP cmp0 (evK PP cmp0 extS k) (qbb k) 36):=rfl
   rw[this]at e
   unfold D;rw[qfj (show ext1 36=some (fnF PP cmp0 C lpC 36)from rfl)]
   exact fnF_le hC hl _ _ _ _ e
  ·by_cases h2:f=48
   ·subst h2
    unfold evN at e
    have:extR k 48=some (fnF PP cmp0 (evK PP cmp0 extS k) (qbb k) 48):=rfl
    rw[this]at e
    unfold D;rw[qfj (show ext1 48=some (fnF PP cmp0 C lpC 48)from rfl)]
    exact fnF_le hC hl _ _ _ _ e
   ·have e1:extR k f=extS f:=by unfold extR;rw[if_neg h1,if_neg h2]
    by_cases h3:f=73
    ·subst h3
     unfold evN at e
     rw[e1]at e
     split at e
     ·rename_i g hg;exact up (scan_at hg e)
     ·rename_i hg
      unfold extS at hg
      rw[if_pos rfl]at hg
      cases hg
    ·have e2:extS f=ext0 f:=by unfold extS;rw[if_neg h3]
     by_cases h4:bigF.contains f=true
     ·exfalso
      have h5:ext0 f=some (fun _ _=>none):=by unfold ext0;rw[if_pos h4]
      unfold evN at e;rw[e1,e2,h5]at e;cases e
     have e3:ext1 f=ext0 f:=by unfold ext1;rw[if_neg h1,if_neg h2,if_neg h4]
     unfold evN at e
     rw[e1,e2]at e
     split at e
     ·rename_i g hg
      unfold D;rw[qfj (e3.trans hg)];exact e
     ·rename_i hg
      unfold D;rw[evC_eq (e3.trans hg)]
      exact qj3 ih (qka n) _ _ _ _ e
theorem big_ret {n:Nat} {f:FuncId} {a:List AVal} {v:AVal} (hf:bigF.contains f=true) (h1:f≠36) (h2:f≠48) (ha:qag a=[]) (hv:refs v=[]) (e:evK PP cmp1 extM n f a []=some (.ret v .same)):Ret D f a v:=by
 rw[qn1]at e
 exact Ret.mk ha hv (D_big hf h1 h2 e)
theorem run_ret {n:Nat} {f:FuncId} {a:List AVal} {v:AVal} (ha:qag a=[]) (hv:refs v=[]) (e:evK PP cmp0 (extR n) n f a []=some (.ret v .same)):Ret D f a v:=by
 rw[qn1]at e
 exact Ret.mk ha hv (R_up n n _ _ _ _ e)
end Go.Ab
namespace Go.Ab
open Go
def l6T:Str:=[110,111,100,101,32,102,40,120,44,32,121,41,32,61,32,40,122,41,32,119,104,101,114,101,32,122,32,61,32,109,97,116,99,104,32,120,32,40,70,97,108,115,101,32,45,62,32,121,32,43,32,49,32,124,32,84,114,117,101,32,45,62,32,50,41,59,32,101,110,100]
def l6y:PExpr:= .mk 4 [121] 0 [] []
def l6n (n:Int):PExpr:= .mk 1 [] n [] []
def l6c:List Str:=[[70,97,108,115,101],[84,114,117,101]]
def l6E:PExpr:= .mk 13 [120] 0 l6c [.mk 6 [43] 0 [] [l6y,l6n 1],l6n 2]
def l6P (e:PExpr):PProg:=⟨[],[⟨[102],[],[[120],[121]],[[122]],[⟨⟨[[122]],e⟩,[]⟩]⟩]⟩
def l6Z:AVal:= .agg [.int .i64 0,.int .i64 0,.int .i64 0]
theorem l6_parse:Ret D 16 [.str l6T] (.tuple [.agg (l6P l6E).cells,l6Z]):=run_ret (n:=50) (by rfl) (by rfl) (by kernel_rfl)
end Go.Ab
namespace Go.Ab
open Go
def l6w:PExpr:= .mk 11 [120] 0 [[70,97,108,115,101]] [l6y]
def l6F:PExpr:= .mk 12 [120] 0 l6c [.mk 6 [43] 0 [] [l6w,l6n 1],l6n 2]
theorem l6_plain:Ret D 29 [.agg (l6P l6E).cells] (.tuple [.agg (l6P l6F).cells,l6Z]):=big_ret (n:=100) (by rfl) (by decide) (by decide) (by rfl) (by rfl) (by kernel_rfl)
end Go.Ab
namespace Go.Ab
open Go
def l6S:Str:=[109,101,114,103,101,32,120,32,40,32,70,97,108,115,101,32,45,62,32,40,32,40,32,121,32,119,104,101,110,32,70,97,108,115,101,32,40,32,120,32,41,32,41,32,43,32,49,32,41,32,124,32,84,114,117,101,32,45,62,32,50,32,41]
theorem l6_show:Ret D 23 [.agg l6F.cells] (.str l6S):=run_ret (n:=50) (by rfl) (by rfl) (by kernel_rfl)
end Go.Ab
namespace Go.Ab
open Go Go.Ab.Tab
theorem fault_eq (n:Bool):binA PP cmp0 .eql 29 n (.agg [.int .i64 0,.int .i64 0,.int .i64 0]) (.agg [.int .i64 0,.int .i64 0,.int .i64 0])=some (.bool true):=by
 cases n<;>kernel_rfl
theorem lives_ret:Ret D 28 [] (.bool true):=by
 have c1:=l6_parse
 have c2:=l6_plain
 have c3:=l6_show
 unfold l6T l6Z at c1
 unfold l6Z at c2
 unfold l6S at c3
 dsimp only at c1 c3
 have hp:(l6P l6E).cells=[.slice [] .free,.slice [PNode.cells ⟨[102],[],[[120],[121]],[[122]],[⟨⟨[[122]],l6E⟩,[]⟩]⟩] .free]:=rfl
 have hq:(l6P l6F).cells=[.slice [] .free,.slice [PNode.cells ⟨[102],[],[[120],[121]],[[122]],[⟨⟨[[122]],l6F⟩,[]⟩]⟩] .free]:=rfl
 rw[hp]at c1 c2
 rw[hq]at c2
 have hn:PNode.cells ⟨[102],[],[[120],[121]],[[122]],[⟨⟨[[122]],l6F⟩,[]⟩]⟩=[.str [102],qah [],qah [[120],[121]],qah [[122]],.slice [PItem.cells ⟨⟨[[122]],l6F⟩,[]⟩] .free]:=rfl
 have he:l6F.cells=[.int .i64 12,.str [120],.int .i64 0,qah l6c,.slice [(PExpr.mk 6 [43] 0 [] [l6w,l6n 1]).cells,(l6n 2).cells] .free]:=rfl
 have hi:PItem.cells ⟨⟨[[122]],l6F⟩,[]⟩=qah [[122]]:: .int .i64 12:: .str [120]:: .int .i64 0::qah l6c:: .slice [(PExpr.mk 6 [43] 0 [] [l6w,l6n 1]).cells,(l6n 2).cells] .free::[.slice [] .free]:=rfl
 rw[hi]at hn
 rw[he]at c3
 rw[hn]at c2
 have o1:(((1:Nat):Int)==1)=true:=rfl
 refine Ret.mk rfl rfl ?_
 rw[D_fn rfl Tryz.func28 rfl (by kernel_rfl) (m:=50) rfl];simp only[Z3,simprocAttr,Tryz.f28,fx_28,effs,c1 _,c2 _,c3 _,fault_eq,o1,List.append_eq,List.cons_append,List.nil_append]
 skip
end Go.Ab
namespace Go.Ab
open Go Go.Ab.Tab
theorem Ret.upD {f:FuncId} {args:List AVal} {v:AVal} (h:Ret C f args v):Ret D f args v:=fun H=>qp3 (fun _ _ _ _ e=>up e) (h H)
theorem ssamp_c (e:PExpr) (x con:Str) (hs:e.Small) (hx:x.length≤qae) (hc:con.length≤qae):D 11 [.agg e.cells,.str x,.str con] []=some (.ret (.bool true) .same):=by
 have l:=lives_ret
 have c1:=(samp_c x con e hs).upD
 have c2:=(rsamp_c x con e hs).upD
 have hz:=qtq hx hc e hs
 have c3:=(qr6 (e.samp x con) (e.samp x con) hz hz).upD
 rw[(same_iff _ _).2 rfl]at c3
 have c4:=(size_c (e.samp x con) hz).upD
 rw[samp_size]at c4
 have c5:=(size_c e hs).upD
 have c6:=(vars_c e hs).upD
 unfold wadd at c4
 have o1:∀z:Int,(z==z)=true:=fun z=>by simp
 rw[D_fn rfl Tryz.func11 rfl (by kernel_rfl) (m:=27) rfl];simp only[Z3,simprocAttr,Tryz.f11,fx_11,effs,l _,c1 _,c2 _,c3 _,c4 _,c5 _,c6 _,o1]
end Go.Ab
