/- The evaluator once more, in a form that the kernel can run: what it makes is brought to its form at once. -/
import Derived.Test.YtlfollkhlephmaaGreatDoorAbLim
set_option linter.unusedSimpArgs false
set_option linter.unusedVariables false
set_option maxRecDepth 100000
set_option maxHeartbeats 4000000
open List renaming rec→wa,mem_flatMap→wb,append_nil→wc
namespace Go.Ab
section
variable {β:Type}
def fN (n:Nat) (k:Nat→β):β:=match n with|0=>k 0|m+1=>k (m+1)
def fI (n:Int) (k:Int→β):β:=match n with| .ofNat m=>fN m fun m=>k (.ofNat m)| .negSucc m=>fN m fun m=>k (.negSucc m)
noncomputable def fL {α:Type} (l:List α) (k:List α→β):β:=wa (motive:=fun _=>(List α→β)→β) (fun k=>k []) (fun x _ ih k=>ih fun r=>k (x::r)) l k
noncomputable def fNs (l:List Nat) (k:List Nat→β):β:=wa (motive:=fun _=>(List Nat→β)→β) (fun k=>k []) (fun x _ ih k=>fN x fun x=>ih fun r=>k (x::r)) l k
def fT (t:Tk) (k:Tk→β):β:=match t with| .free=>k .free| .full=>k .full| .zero=>k .zero| .own t=>fN t fun t=>k (.own t)
noncomputable def fC (v:AVal) (k:AVal→β):β:=match v with
 | .undef=>k .undef
 | .bool b=>(match b with|true=>k (.bool true)|false=>k (.bool false))
 | .int t n=>fI n fun n=>k (.int t n)
 | .str s=>fL s fun s=>k (.str s)
 | .nilp=>k .nilp
 | .ptr b o=>fN b fun b=>fN o fun o=>k (.ptr b o)
 | .slice es tk=>fT tk fun tk=>fL es fun es=>k (.slice es tk)
 | .ms es b n m=>fL es fun es=>fN b fun b=>fN n fun n=>fN m fun m=>k (.ms es b n m)
 | .mptr b o n=>fN b fun b=>fN o fun o=>fN n fun n=>k (.mptr b o n)
 | .mref b=>fN b fun b=>k (.mref b)
 |v=>k v
noncomputable def fCs (l:List AVal) (k:List AVal→β):β:=wa (motive:=fun _=>(List AVal→β)→β) (fun k=>k []) (fun x _ ih k=>fC x fun x=>ih fun r=>k (x::r)) l k
noncomputable def fV (v:AVal) (k:AVal→β):β:=match v with
 | .agg cs=>fCs cs fun cs=>k (.agg cs)
 | .tuple vs=>fCs vs fun vs=>k (.tuple vs)
 | .func f a b=>fCs a fun a=>fCs b fun b=>k (.func f a b)
 | .eptr cs o=>fL cs fun cs=>fN o fun o=>k (.eptr cs o)
 |v=>fC v k
noncomputable def fVs (l:List AVal) (k:List AVal→β):β:=wa (motive:=fun _=>(List AVal→β)→β) (fun k=>k []) (fun x _ ih k=>fV x fun x=>ih fun r=>k (x::r)) l k
noncomputable def fB (x:Blk) (k:Blk→β):β:=match x with
 | .box cs=>fVs cs fun cs=>k (.box cs)
 | .tok n e=>fN n fun n=>k (.tok n e)
 | .arr p cs l e=>fN p fun p=>fVs cs fun cs=>fN l fun l=>k (.arr p cs l e)
 | .map ks vs=>fVs ks fun ks=>fVs vs fun vs=>k (.map ks vs)
noncomputable def fH (l:qaa) (k:qaa→β):β:=wa (motive:=fun _=>(List Blk→β)→β) (fun k=>k []) (fun x _ ih k=>fB x fun x=>ih fun r=>k (x::r)) l k
noncomputable def nthK {α:Type} (l:List α) (n:Nat):Option α:=wa (motive:=fun _=>Nat→Option α) (fun _=>none) (fun x _ ih n=>Nat.rec (some x) (fun m _=>ih m) n) l n
noncomputable def setK {α:Type} (l:List α) (n:Nat) (v:α) (k:List α→β):β:=wa (motive:=fun _=>Nat→(List α→β)→β) (fun _ k=>k []) (fun x r ih n k=>Nat.rec (k (v::r)) (fun m _=>ih m fun r'=>k (x::r')) n) l n k
theorem qe1 {α:Type} (l:List α):∀n,nthK l n=l[n]? :=by
 induction l with
 |nil=>intro n;rfl
 |cons x r ih=>intro n;cases n with
  |zero=>rfl
  |succ m=>exact ih m
theorem setK_eq {α:Type} (v:α) (l:List α):∀(n:Nat) (k:List α→β),setK l n v k=k (l.set n v):=by
 induction l with
 |nil=>intro n k;rfl
 |cons x r ih=>intro n k;cases n with
  |zero=>rfl
  |succ m=>exact ih m fun r'=>k (x::r')
theorem qjk (n:Nat) (k:Nat→β):fN n k=k n:=by cases n<;>rfl
theorem fI_eq (n:Int) (k:Int→β):fI n k=k n:=by cases n<;>simp only[fI,qjk]
theorem fL_eq {α:Type} (l:List α):∀k:List α→β,fL l k=k l:=by
 induction l with
 |nil=>intro k;rfl
 |cons x r ih=>intro k;exact ih fun r=>k (x::r)
theorem qlm (l:List Nat):∀k:List Nat→β,fNs l k=k l:=by
 induction l with
 |nil=>intro k;rfl
 |cons x r ih=>
  intro k
  show fN x (fun x=>fNs r fun r=>k (x::r))=_
  rw[qjk];exact ih _
theorem fT_eq (t:Tk) (k:Tk→β):fT t k=k t:=by cases t<;>simp only[fT,qjk]
theorem fC_eq (v:AVal) (k:AVal→β):fC v k=k v:=by
 cases v with
 |bool b=>cases b<;>rfl
 |_=>simp only[fC,fI_eq,qjk,fL_eq,fT_eq]
theorem fCs_eq (l:List AVal):∀k:List AVal→β,fCs l k=k l:=by
 induction l with
 |nil=>intro k;rfl
 |cons x r ih=>
  intro k
  show fC x (fun x=>fCs r fun r=>k (x::r))=_
  rw[fC_eq];exact ih _
theorem fV_eq (v:AVal) (k:AVal→β):fV v k=k v:=by
 cases v<;>simp only[fV,fCs_eq,fL_eq,qjk,fC_eq]
theorem fVs_eq (l:List AVal):∀k:List AVal→β,fVs l k=k l:=by
 induction l with
 |nil=>intro k;rfl
 |cons x r ih=>
  intro k
  show fV x (fun x=>fVs r fun r=>k (x::r))=_
  rw[fV_eq];exact ih _
theorem fB_eq (x:Blk) (k:Blk→β):fB x k=k x:=by cases x<;>simp only[fB,fVs_eq,qjk]
theorem fH_eq (l:qaa):∀k:qaa→β,fH l k=k l:=by
 induction l with
 |nil=>intro k;rfl
 |cons x r ih=>
  intro k
  show fB x (fun x=>fH r fun r=>k (x::r))=_
  rw[fB_eq];exact ih _
end
noncomputable def qan (o:Operand) (ts:List AVal):Option AVal:=match o with
 | .tmp t=>nthK ts t
 | .const v=>ofV v
 | .func f=>some (.func f [] [])
 | .global _=>none
theorem qdq (o:Operand) (ts:List AVal):qan o ts=qab o ts:=by
 cases o<;>simp only[qan,qab,qe1]
noncomputable def qjl (ts:List AVal) (l:List Operand):Option (List AVal):=wa (motive:=fun _=>Option (List AVal)) (some []) (fun o _ ih=>match qan o ts with|some a=>(match ih with|some l=>some (a::l)|none=>none)|none=>none) l
theorem qht (ts:List AVal) (l:List Operand):qjl ts l=qal ts l:=by
 induction l with
 |nil=>rfl
 |cons o r ih=>
  show(match qan o ts with|some a=>(match qjl ts r with|some l=>some (a::l)|none=>none)|none=>none)=qal ts (o::r)
  rw[ih,qdq]
  simp only[qal]
  cases qab o ts with
  |none=>rfl
  |some a=>cases qal ts r<;>rfl
noncomputable def qlx (ops:List Oper) (o:Oper) (ts:List AVal):Option Bool:=match o.guard with
 |none=>some true
 |some (j,want)=>match nthK ops j with
  |some oj=>match oj.dst with
   |some d=>match nthK ts d with
    |some (.bool b)=>some (b==want)
    |some .undef=>some false
    |_=>none
   |none=>none
  |none=>none
theorem qqz (ops:List Oper) (o:Oper) (ts:List AVal):qlx ops o ts=qak ops o ts:=by
 simp only[qlx,qak,qe1]
 rfl
def refs0 (v:AVal):List Nat:=match v with
 | .ptr b _=>[b]
 | .slice _ tk=>(match tk with| .own t=>[t]|_=>[])
 | .ms _ b _ _=>[b]
 | .mptr b _ _=>[b]
 | .mref b=>[b]
 | .func f a b=>refs (.func f a b)
 | .iface t v=>refs (.iface t v)
 | .agg cs=>refs (.agg cs)
 | .tuple cs=>refs (.tuple cs)
 |_=>[]
theorem qn8 (v:AVal):refs0 v=refs v:=by
 cases v with
 |slice es tk=>cases tk<;>rfl
 |_=>rfl
noncomputable def cat0 (l:List AVal):List Nat:=wa (motive:=fun _=>List Nat) [] (fun x _ ih=>match refs0 x with|[]=>ih|l=>l++ih) l
theorem cat0_eq (l:List AVal):cat0 l=qaf l:=by
 induction l with
 |nil=>rfl
 |cons x r ih=>
  show(match refs0 x with|[]=>cat0 r|l=>l++cat0 r)=qaf (x::r)
  simp only[qaf,ih,qn8]
  split
  ·rename_i h;rw[h];rfl
  ·rfl
noncomputable def refs1 (v:AVal):List Nat:=match v with
 | .agg cs=>cat0 cs
 | .func _ a b=>cat0 a++cat0 b
 |v=>refs0 v
theorem qn9 (v:AVal):refs1 v=refs v:=by
 cases v<;>simp only[refs1,qn8,cat0_eq,refs]
noncomputable def cat1 (l:List AVal):List Nat:=wa (motive:=fun _=>List Nat) [] (fun x _ ih=>match refs1 x with|[]=>ih|l=>l++ih) l
theorem qjm (l:List AVal):cat1 l=qaf l:=by
 induction l with
 |nil=>rfl
 |cons x r ih=>
  show(match refs1 x with|[]=>cat1 r|l=>l++cat1 r)=qaf (x::r)
  simp only[qaf,ih,qn9]
  split
  ·rename_i h;rw[h];rfl
  ·rfl
noncomputable def qfo (v:AVal):List Nat:=match v with
 | .tuple cs=>cat1 cs
 |v=>refs1 v
theorem qkn (v:AVal):qfo v=refs v:=by
 cases v<;>simp only[qfo,qn9,qjm,refs]
def ren0 (σ:Nat→Nat) (v:AVal):AVal:=match v with
 | .ptr b o=> .ptr (σ b) o
 | .slice es tk=>(match tk with| .own t=> .slice es (.own (σ t))|tk=> .slice es tk)
 | .ms es b n m=> .ms es (σ b) n m
 | .mptr b o n=> .mptr (σ b) o n
 | .mref b=> .mref (σ b)
 | .func f a b=>ren σ (.func f a b)
 | .iface t v=>ren σ (.iface t v)
 | .agg cs=>ren σ (.agg cs)
 | .tuple cs=>ren σ (.tuple cs)
 |v=>v
theorem ren0_eq (σ:Nat→Nat) (v:AVal):ren0 σ v=ren σ v:=by
 cases v with
 |slice es tk=>cases tk<;>rfl
 |_=>rfl
noncomputable def rens0 (σ:Nat→Nat) (l:List AVal):List AVal:=wa (motive:=fun _=>List AVal) [] (fun x _ ih=>ren0 σ x::ih) l
theorem rens0_eq (σ:Nat→Nat) (l:List AVal):rens0 σ l=renL σ l:=by
 induction l with
 |nil=>rfl
 |cons x r ih=>
  show ren0 σ x::rens0 σ r=renL σ (x::r)
  rw[ren0_eq,ih];rfl
noncomputable def ren1 (σ:Nat→Nat) (v:AVal):AVal:=match v with
 | .agg cs=> .agg (rens0 σ cs)
 | .func f a b=> .func f (rens0 σ a) (rens0 σ b)
 |v=>ren0 σ v
theorem ren1_eq (σ:Nat→Nat) (v:AVal):ren1 σ v=ren σ v:=by
 cases v<;>simp only[ren1,ren0_eq,rens0_eq,ren]
noncomputable def qgh (σ:Nat→Nat) (l:List AVal):List AVal:=wa (motive:=fun _=>List AVal) [] (fun x _ ih=>ren1 σ x::ih) l
theorem qko (σ:Nat→Nat) (l:List AVal):qgh σ l=renL σ l:=by
 induction l with
 |nil=>rfl
 |cons x r ih=>
  show ren1 σ x::qgh σ r=renL σ (x::r)
  rw[ren1_eq,ih];rfl
noncomputable def ren2 (σ:Nat→Nat) (v:AVal):AVal:=match v with
 | .tuple cs=> .tuple (qgh σ cs)
 |v=>ren1 σ v
theorem ren2_eq (σ:Nat→Nat) (v:AVal):ren2 σ v=ren σ v:=by
 cases v<;>simp only[ren2,ren1_eq,qko,ren]
noncomputable def qhu (σ:Nat→Nat):Blk→Blk
 | .box cs=> .box (qgh σ cs)
 | .tok l e=> .tok l e
 | .arr p cs l e=> .arr p (qgh σ cs) l e
 | .map ks vs=> .map (qgh σ ks) (qgh σ vs)
theorem qkp (σ:Nat→Nat) (x:Blk):qhu σ x=renB σ x:=by cases x<;>simp only[qhu,renB,qko]
noncomputable def qe2:Blk→List Nat
 | .box cs=>cat1 cs
 | .tok .. =>[]
 | .arr _ cs _ _=>cat1 cs
 | .map ks vs=>cat1 ks++cat1 vs
theorem qgk (x:Blk):qe2 x=qbv x:=by cases x<;>simp only[qe2,qbv,qjm]
noncomputable def qdc (h:qaa):Nat→List Nat→List Nat→List Nat
 |0,_,done=>done
 |_+1,[],done=>done
 |n+1,b::r,done=>if done.contains b then qdc h n r done else
  match nthK h b with
  |some x=>(match qe2 x with
   |[]=>qdc h n r (done++[b])
   |l=>qdc h n (r++l) (done++[b]))
  |none=>qdc h n r (done++[b])
theorem qec (h:qaa):∀(n:Nat) (l done:List Nat),qdc h n l done=qaw h n l done
 |0,_,_=>by unfold qdc qaw;rfl
 |n+1,[],_=>by unfold qdc qaw;rfl
 |n+1,b::r,done=>by
  have key:∀x:Blk,(match qe2 x with|[]=>qdc h n r (done++[b])|l=>qdc h n (r++l) (done++[b]))=qaw h n (r++qbv x) (done++[b]):=by
   intro x
   rw[qgk]
   split
   ·rename_i e;rw[e,wc,qec h n]
   ·rw[qec h n]
  unfold qdc qaw
  rw[qe1]
  split
  ·exact qec h n _ _
  ·cases h[b]? with
   |none=>exact qec h n _ _
   |some x=>
    simp only
    rw[key x]
    cases x with
    |box cs=>rfl
    |tok l e=>simp only[qbv,wc]
    |arr p cs l e=>rfl
    |map ks vs=>rfl
noncomputable def subHK (h:qaa) (idx:List Nat):qaa:=idx.map fun b=>match nthK h b with|some x=>qhu (fun x=>idx.idxOf x) x|none=>qhu (fun x=>idx.idxOf x) (.box [])
theorem qoa (h:qaa) (idx:List Nat):subHK h idx=subH h idx:=by
 unfold subHK subH
 refine List.map_congr_left (fun b _=> ?_)
 rw[qe1,List.getD_eq_getElem?_getD]
 cases h[b]? <;>simp only[qkp,Option.getD_some,Option.getD_none]
noncomputable def qln (h:qaa) (idx:List Nat) (args:List AVal):Bool:=
 (cat1 args).all (fun b=>idx.contains b) && idx.all fun b=>match nthK h b with|some x=>(qe2 x).all fun c=>idx.contains c|none=>false
theorem qmk (h:qaa) (idx:List Nat) (args:List AVal):qln h idx args=qcs h idx args:=by
 simp only[qln,qcs,qjm,qe1,qgk]
 rfl
noncomputable def qhv (idx:List Nat) (n:Nat) (h':qaa):List Nat→qaa→qaa
 |[],h=>h
 |i::r,h=>qhv idx n h' r (match nthK idx i,nthK h' i with|some b,some x=>h.set b (qhu (qa3 n idx) x)|_,_=>h)
theorem qj4 (idx:List Nat) (n:Nat) (h':qaa):∀(l:List Nat) (h:qaa),qhv idx n h' l h=qch idx n h' l h
 |[],h=>rfl
 |i::r,h=>by simp only[qhv,qch,qe1,qkp,qj4 idx n h' r];rfl
noncomputable def qgx (h:qaa) (idx:List Nat):Eff→Eff
 | .same=> .same
 | .heap h' d=> .heap (qhv idx h.length h' d h++(h'.drop idx.length).map (qhu (qa3 h.length idx))) (d.map (qa3 h.length idx))
theorem qml (h:qaa) (idx:List Nat) (f:Eff):qgx h idx f=qct h idx f:=by
 cases f with
 |same=>rfl
 |heap h' d=>
  have:qhu (qa3 h.length idx)=renB (qa3 h.length idx):=funext (qkp _)
  simp only[qgx,qct,qj4,this]
noncomputable def callS (call:Call) (h:qaa) (g:FuncId) (args:List AVal) (l:List Nat):Option CR:=
 fNs (qdc h 256 l []) fun idx=>if qln h idx args then
  match call g (qgh (fun x=>idx.idxOf x) args) (subHK h idx)with
  |some (.ret v e)=>some (.ret (match qfo v with|[]=>v|_=>ren2 (qa3 h.length idx) v) (qgx h idx e))
  |some (.pan v e)=>some (.pan (match qfo v with|[]=>v|_=>ren2 (qa3 h.length idx) v) (qgx h idx e))
  |none=>none
 else none
noncomputable def callK (call:Call) (h:qaa) (g:FuncId) (args:List AVal):Option CR:=match cat1 args with
 |[]=>(match call g args []with
  |some (.ret v e)=>some (.ret (match qfo v with|[]=>v|_=>ren2 (qa3 h.length []) v) (qgx h [] e))
  |some (.pan v e)=>some (.pan (match qfo v with|[]=>v|_=>ren2 (qa3 h.length []) v) (qgx h [] e))
  |none=>none)
 |l=>callS call h g args l
theorem qob (σ:Nat→Nat) (v:AVal):(match qfo v with|[]=>v|_=>ren2 σ v)=ren σ v:=by
 rw[qkn,ren2_eq]
 split
 ·rename_i h;exact(qc5 v (by rw[h];simp)).symm
 ·rfl
theorem callS_eq (call:Call) (h:qaa) (g:FuncId) (args:List AVal):callS call h g args (qaf args)=qba call h g args:=by
 unfold callS qba
 simp only[qlm,qec,qmk,qko,qoa,qob,qml]
 rfl
theorem qhw (call:Call) (h:qaa) (g:FuncId) (args:List AVal):callK call h g args=qba call h g args:=by
 unfold callK
 rw[qjm]
 split
 ·rename_i hr
  simp only[qob,qml]
  unfold qba
  have h1:qaw h 256 [] []=[]:=rfl
  have h2:qcs h [] args=true:=by unfold qcs;rw[hr];rfl
  have h3:renL (fun x=>([]:List Nat).idxOf x) args=args:=qam args (by rw[hr];simp)
  have h4:subH h []=[]:=rfl
  simp only[hr,h1,h2,h3,h4,if_true]
  rfl
 ·exact callS_eq call h g args
section
variable (P:Program)
def vK (x:Option AVal):Option OR:=match x with|some a=>some (.val a .same)|none=>none
noncomputable def qjn (x:Operand) (ts:List AVal):Option OR:=vK (qan x ts)
noncomputable def kPick (b x y:Operand) (ts:List AVal):Option OR:=match qan b ts with
 |some (.bool true)=>vK (qan x ts)
 |some (.bool false)=>vK (qan y ts)
 |_=>none
noncomputable def qiv (t:TypeId) (h:qaa):Option OR:=match qap P t with
 |some z=>some (.val (.ptr h.length 0) (.heap (h++[.box z.cells]) []))
 |none=>none
noncomputable def kBox (x:Operand) (ts:List AVal) (h:qaa):Option OR:=match qan x ts with
 |some a=>some (.val (.ptr h.length 0) (.heap (h++[.box a.cells]) []))
 |none=>none
noncomputable def qiw (t:TypeId) (ps:Array (Nat×Operand)) (ts:List AVal):Option OR:=match qap P t,P.underlying t,qar ts ps.toList with
 |some (.agg z),some (.struct fs),some ps=>if fs.all (fun f=>(P.info? f.type).isSome)then
  vK ((qa2 (fun i=>match fs[i]? with|some f=>(qah P f.type).map fun s=>(f.offset,s)|none=>none) z ps).map .agg)else none
 |some (.agg z),some (.array _ e),some ps=>
  vK (match qah P e with|some s=>(qa2 (fun i=>some (i*s,s)) z ps).map .agg|none=>none)
 |_,_,_=>none
noncomputable def qd0 (t:TypeId) (n:Nat) (ps':Array (Nat×Operand)) (ts:List AVal):Option OR:=match qc2 P t with
 |some e=>match qah P e,qap P e,qar ts ps'.toList with
  |some (s+1),some z,some ps=>if n*(s+1)≤65536 && z.cells.length==s+1 then
   match qa2 (fun i=>some (i*(s+1),s+1)) (List.replicate n z.cells).flatten ps with
   |some cs=>match qbz (chop (s+1) n cs)with
    |some es=>vK (some (.slice es (if !es.isEmpty && (decide (0<s) && ps'.toList.any (fun x=>isAgg0 x.2))then .zero else .full)))
    |none=>none
   |none=>none
   else none
  |_,_,_=>none
 |none=>none
noncomputable def kLoad (t:TypeId) (a:Operand) (ts:List AVal) (h:qaa):Option OR:=match qan a ts with|some a=>vK (qb9 P h t a)|none=>none
noncomputable def qix (t:TypeId) (a x:Operand) (ts:List AVal) (h:qaa):Option OR:=match qan a ts,qan x ts with
 |some a,some x=>match qbk P h t a x with
  |some (h',b)=>some (.val .undef (.heap h' [b]))
  |none=>none
 |_,_=>none
noncomputable def kNil (x:Operand) (ts:List AVal):Option OR:=match qan x ts with
 |some (.ptr b o)=>vK (some (.ptr b o))
 |some (.eptr cs o)=>vK (some (.eptr cs o))
 |some (.mptr b o n)=>vK (some (.mptr b o n))
 |some (.func f a b)=>vK (some (.func f a b))
 |_=>none
noncomputable def kBin (cmp:List TypeId) (op:BinOp) (t:TypeId) (x y:Operand) (ts:List AVal):Option OR:=match qan x ts,qan y ts with
 |some a,some b=>vK (binA P cmp op t (qbl x||qbl y) a b)
 |_,_=>none
noncomputable def kUn (op:UnOp) (x:Operand) (ts:List AVal):Option OR:=match qan x ts with|some a=>vK (unA op a)|none=>none
noncomputable def kConv (s d:TypeId) (x:Operand) (ts:List AVal):Option OR:=match qan x ts with|some a=>vK (qi6 P s d a)|none=>none
noncomputable def qiy (t:TypeId) (x:Operand) (ts:List AVal):Option OR:=match qan x ts,P.underlying t with
 |_,some (.interface _)=>none
 |some a,some _=>vK (some (.iface t a))
 |_,_=>none
noncomputable def kFunc (f:FuncId) (first cap:Array Operand) (ts:List AVal):Option OR:=match qjl ts first.toList,qjl ts cap.toList with
 |some a,some b=>vK (some (.func f a b))
 |_,_=>none
noncomputable def qiz (t:TypeId) (x:Operand) (lo hi mx:Option Operand) (ts:List AVal):Option OR:=match qan x ts,optA ts lo,optA ts hi,optA ts mx with
 |some x,some lo,some hi,some mx=>vK (qgm P t x lo hi mx)
 |_,_,_,_=>none
noncomputable def qen (s:TypeId) (x:Operand) (f:Nat) (ts:List AVal):Option OR:=match qa4 P s f,qan x ts with
 |some (off,_),some (.ptr b o)=>vK (some (.ptr b (o+off)))
 |some (off,_),some (.eptr cs o)=>vK (some (.eptr cs (o+off)))
 |some (off,_),some (.mptr b o n)=>vK (some (.mptr b (o+off) n))
 |_,_=>none
noncomputable def qi0 (t:TypeId) (x:Operand) (f:Nat) (ts:List AVal):Option OR:=match qa4 P t f,qan x ts with
 |some (off,ft),some (.agg cs)=>vK (qbp P ft cs off)
 |_,_=>none
noncomputable def qeo (t:TypeId) (x i:Operand) (ts:List AVal):Option OR:=match P.underlying t,qan x ts,qan i ts with
 |some (.slice e),some (.slice es _),some (.int _ n)=>match es[n.toNat]?,qah P e with
  |some cs,some s=>if 0≤n && cs.length==s then vK (some (.eptr cs 0))else none
  |_,_=>none
 |some (.slice e),some (.ms es b k m),some (.int _ n)=>match qah P e with
  |some s=>if 0≤n && n<m then(match es[n.toNat]? with
   |some cs=>if cs.length==s then vK (some (.eptr cs 0))else none
   |none=>vK (some (.mptr b (n.toNat*s) k)))else none
  |none=>none
 |some (.array len e),some (.ptr b o),some (.int _ n)=>match qah P e with
  |some s=>if 0≤n && n<len then vK (some (.ptr b (o+n.toNat*s)))else none
  |none=>none
 |_,_,_=>none
noncomputable def qi1 (t:TypeId) (x i:Operand) (ts:List AVal):Option OR:=match P.underlying t,qan x ts,qan i ts with
 |some .string,some (.str s),some (.int _ n)=>match s[n.toNat]? with
  |some b=>if 0≤n then vK (some (.int .u8 b.toNat))else none
  |none=>none
 |some (.array len e),some (.agg cs),some (.int _ n)=>match qah P e with
  |some s=>if 0≤n && n<len then vK (qbp P e cs (n.toNat*s))else none
  |none=>none
 |_,_,_=>none
noncomputable def qep (t:TypeId) (x y:Operand) (ts:List AVal) (h:qaa):Option OR:=match qan x ts,qan y ts with
 |some a,some b=>(match qc3 P h t a b with|some (u,f)=>some (.val u f)|none=>none)
 |_,_=>none
noncomputable def qgy (t:TypeId) (x k:Operand) (ok:Bool) (ts:List AVal) (h:qaa):Option OR:=match qan x ts,qan k ts with
 |some m,some k=>vK (qcw P h t m k ok)
 |_,_=>none
noncomputable def qfp (t:TypeId) (m k x:Operand) (ts:List AVal) (h:qaa):Option OR:=match qan m ts,qan k ts,qan x ts with
 |some m,some k,some x=>(match qdd P h t m k x with
  |some (h',b)=>some (.val .undef (.heap h' [b]))
  |none=>none)
 |_,_,_=>none
noncomputable def qf6 (x:Operand) (i:Nat) (ts:List AVal):Option OR:=match qan x ts with
 |some (.tuple vs)=>vK vs[i]?
 |_=>none
noncomputable def qi2 (call:Call) (f:Operand) (args:Array Operand) (ts:List AVal) (h:qaa):Option OR:=match qan f ts,qjl ts args.toList with
 |some (.func g first cap),some vs=>match callK call h g (first++vs.map argA++cap)with
  |some r=>some (qg1 r)
  |none=>none
 |_,_=>none
noncomputable def qf7 (cmp:List TypeId) (b:Builtin) (args:Array Operand) (argTypes:Array TypeId) (ts:List AVal) (h:qaa):Option OR:=match qjl ts args.toList,argTypes[0]? with
 |some [x],some t=>(match b,x,P.underlying t with
  | .len,.str s,some .string=>if s.length≤qfq then vK (some (.int .i64 s.length))else none
  | .len,.slice es _,some (.slice _)=>vK (some (.int .i64 es.length))
  | .len,.ms _ _ _ m,some (.slice _)=>vK (some (.int .i64 m))
  | .len,.mref b,some (.map ..)=>vK (qfr h b)
  | .len,.nilm,some (.map ..)=>vK (some (.int .i64 0))
  | .cap,.slice es .full,some (.slice _)=>vK (some (.int .i64 es.length))
  |_,_,_=>none)
 |some [x,y],some t=>(match b with
  | .append=>if argTypes[1]? ==some t then(match qbf P (bigM cmp) h t x y with
   |some (a,f)=>some (.val a f)
   |none=>none)else(match qgo P h t x y,(argTypes[1]?).bind P.underlying with
   |some (a,f),some (.int _)=>some (.val a f)
   |_,_=>none)
  | .max=>vK (maxA [x,y])
  | .min=>vK (minA [x,y])
  |_=>none)
 |_,_=>none
noncomputable def qgz (P:Program) (cmp:List TypeId) (call:Call) (args:Array Operand) (argTypes:Array TypeId) (ts:List AVal) (h:qaa):Callee→Option OR
 | .value f=>qi2 call f args ts h
 | .builtin b=>qf7 P cmp b args argTypes ts h
 |_=>none
noncomputable def qi3 (x:Operand) (ts:List AVal):Option OR:=match qan x ts with
 |some (.iface t a)=>some (.pan (.iface t a) .same)
 |_=>none
abbrev Kf:=Program→List TypeId→Call→List AVal→qaa→Option OR
noncomputable def kFn (first cap:Array Operand):Fn→Kf
 | .func f=>fun _ _ _ ts _=>kFunc f first cap ts
 |_=>fun _ _ _ _ _=>none
noncomputable def kMap:Option Operand→Kf
 |none=>fun _ _ _ _ h=>some (.val (.mref h.length) (.heap (h++[.map [] []]) []))
 |some _=>fun _ _ _ _ _=>none
noncomputable def kOp:Op→Option Kf
 | .move x=>some fun _ _ _ ts _=>qjn x ts
 | .assign x=>some fun _ _ _ ts _=>qjn x ts
 | .pick b x y=>some fun _ _ _ ts _=>kPick b x y ts
 | .alloc t=>some fun P _ _ _ h=>qiv P t h
 | .box _ x=>some fun _ _ _ ts h=>kBox x ts h
 | .build t ps=>some fun P _ _ ts _=>qiw P t ps ts
 | .buildSlice t n ps=>some fun P _ _ ts _=>qd0 P t n ps ts
 | .load t a=>some fun P _ _ ts h=>kLoad P t a ts h
 | .store t a x=>some fun P _ _ ts h=>qix P t a x ts h
 | .nilCheck x=>some fun _ _ _ ts _=>kNil x ts
 | .binOp op t x y _=>some fun P cmp _ ts _=>kBin P cmp op t x y ts
 | .unOp op _ x=>some fun _ _ _ ts _=>kUn op x ts
 | .convert s d x=>some fun P _ _ ts _=>kConv P s d x ts
 | .makeInterface t x=>some fun P _ _ ts _=>qiy P t x ts
 | .makeFunc f first cap=>some (kFn first cap f)
 | .slice t x lo hi mx=>some fun P _ _ ts _=>qiz P t x lo hi mx ts
 | .fieldAddr s x f=>some fun P _ _ ts _=>qen P s x f ts
 | .field t x f=>some fun P _ _ ts _=>qi0 P t x f ts
 | .indexAddr t x i=>some fun P _ _ ts _=>qeo P t x i ts
 | .index t x i=>some fun P _ _ ts _=>qi1 P t x i ts
 | .makeSlice t x y=>some fun P _ _ ts h=>qep P t x y ts h
 | .makeMap _ r=>some (kMap r)
 | .lookup t x k ok=>some fun P _ _ ts h=>qgy P t x k ok ts h
 | .mapUpdate t m k x=>some fun P _ _ ts h=>qfp P t m k x ts h
 | .insert t m k x=>some fun P _ _ ts h=>qfp P t m k x ts h
 | .extract x i=>some fun _ _ _ ts _=>qf6 x i ts
 | .panic x=>some fun _ _ _ ts _=>qi3 x ts
 | .call c=>some fun P cmp call ts h=>qgz P cmp call c.args c.argTypes ts h c.callee
 |_=>none
noncomputable def opK (cmp:List TypeId) (call:Call) (o:Oper) (ts:List AVal) (h:qaa):Option OR:=match kOp o.op with
 |some f=>f P cmp call ts h
 |none=>opA P cmp call o ts h
theorem opK_eq (cmp:List TypeId) (call:Call) (o:Oper) (ts:List AVal) (h:qaa):opK P cmp call o ts h=opA P cmp call o ts h:=by
 obtain⟨dst,op,type,pos,after,guard⟩:=o
 cases op with
 |makeFunc fn a b=>cases fn<;>first|rfl|(simp only[opK,qjn,kPick,qiv,kBox,qiw,qd0,kLoad,qix,kNil,kBin,kUn,kConv,qiy,kFunc,qiz,qen,qi0,qeo,qi1,qep,qgy,qfp,qf6,qi2,qf7,qgz,qi3,kFn,kMap,kOp,qdq,qht,qhw];rfl)
 |makeMap t r=>cases r<;>rfl
 |call c=>
  obtain⟨callee,args,ats⟩:=c
  cases callee with
  |value f=>simp only[opK,qjn,kPick,qiv,kBox,qiw,qd0,kLoad,qix,kNil,kBin,kUn,kConv,qiy,kFunc,qiz,qen,qi0,qeo,qi1,qep,qgy,qfp,qf6,qi2,qf7,qgz,qi3,kFn,kMap,kOp,qdq,qht,qhw];rfl
  |builtin b=>cases b<;>first|rfl|(simp only[opK,qjn,kPick,qiv,kBox,qiw,qd0,kLoad,qix,kNil,kBin,kUn,kConv,qiy,kFunc,qiz,qen,qi0,qeo,qi1,qep,qgy,qfp,qf6,qi2,qf7,qgz,qi3,kFn,kMap,kOp,qdq,qht,qhw];rfl)
  |invoke=>rfl
 |_=>first|rfl|(simp only[opK,qjn,kPick,qiv,kBox,qiw,qd0,kLoad,qix,kNil,kBin,kUn,kConv,qiy,kFunc,qiz,qen,qi0,qeo,qi1,qep,qgy,qfp,qf6,qi2,qf7,qgz,qi3,kFn,kMap,kOp,qdq,qht,qhw];rfl)
noncomputable def dstK (ts:List AVal) (d:Option Tmp) (v:AVal) (k:List AVal→Option (AEx×St)):Option (AEx×St):=match d with
 |some d=>setK ts d v k
 |none=>k ts
theorem dstK_eq (ts:List AVal) (d:Option Tmp) (v:AVal) (k:List AVal→Option (AEx×St)):dstK ts d v k=k (setT ts d v):=by
 cases d with
 |none=>rfl
 |some d=>exact setK_eq v ts d k
noncomputable def nextK (o:Oper) (s:St) (v:AVal) (f:Eff) (k:St→Option (AEx×St)):Option (AEx×St):=
 fV v fun v=>dstK s.tmps o.dst v fun ts=>match f with
  | .same=>k ⟨ts,s.heap,s.dirty⟩
  | .heap h d=>fH h fun h=>fNs (d++s.dirty) fun d=>k ⟨ts,h,d⟩
theorem nextK_eq (o:Oper) (s:St) (v:AVal) (f:Eff) (k:St→Option (AEx×St)):nextK o s v f k=k ⟨setT s.tmps o.dst v,f.of s.heap,f.dirt++s.dirty⟩:=by
 unfold nextK
 rw[fV_eq,dstK_eq]
 cases f with
 |same=>rfl
 |heap h d=>simp only[fH_eq,qlm];rfl
noncomputable def kBinH (op:BinOp) (t:TypeId) (x y:Operand) (ts:List AVal) (h:qaa):Option OR:=match qan x ts,qan y ts with
 |some a,some b=>(match eqH P h (P.underlying t) y a b with
  |some r=>(match op with
   | .eql=>some (.val (.bool r) .same)
   | .neq=>some (.val (.bool !r) .same)
   |_=>none)
  |none=>none)
 |_,_=>none
noncomputable def kH (P:Program):Op→List AVal→qaa→Option OR
 | .binOp op t x y _=>kBinH P op t x y
 |_=>fun _ _=>none
theorem kH_eq (o:Oper) (ts:List AVal) (h:qaa):kH P o.op ts h=exH P o ts h:=by
 obtain⟨dst,op,type,pos,after,guard⟩:=o
 cases op with
 |binOp op t x y t2=>simp only[kH,kBinH,exH,qdq];rfl
 |_=>rfl
noncomputable def orK (o:Oper) (ts:List AVal) (h:qaa) (r:Option OR):Option OR:=match r with
 |some r=>some r
 |none=>kH P o.op ts h
theorem orK_eq (o:Oper) (ts:List AVal) (h:qaa) (r:Option OR):orK P o ts h r=orH P o ts h r:=by
 cases r with
 |none=>exact kH_eq P o ts h
 |some r=>rfl
noncomputable def opsK (cmp:List TypeId) (call:Call) (ops:List Oper):List Oper→St→Option (AEx×St)
 |[],s=>some (.normal,s)
 |o::r,s=>match qlx ops o s.tmps with
  |some true=>(match orK P o s.tmps s.heap (opK P cmp call o s.tmps s.heap)with
   |some (.val v f)=>nextK o s v f (opsK cmp call ops r)
   |some (.pan v f)=>some (.pan v,⟨s.tmps,f.of s.heap,f.dirt++s.dirty⟩)
   |none=>none)
  |some false=>dstK s.tmps o.dst .undef fun ts=>opsK cmp call ops r ⟨ts,s.heap,s.dirty⟩
  |none=>none
theorem qly (cmp:List TypeId) (call:Call) (ops:List Oper):∀(l:List Oper) (s:St),opsK P cmp call ops l s=opsA P cmp call ops l s
 |[],s=>rfl
 |o::r,s=>by
  simp only[opsK,opsA,opK_eq,qqz,orK_eq]
  cases qak ops o s.tmps with
  |none=>rfl
  |some b=>
   cases b with
   |false=>simp only[dstK_eq,qly cmp call ops r]
   |true=>
    cases orH P o s.tmps s.heap (opA P cmp call o s.tmps s.heap)with
    |none=>rfl
    |some x=>
     cases x with
     |val v f=>simp only[nextK_eq,qly cmp call ops r]
     |pan v f=>rfl
noncomputable def fS (s:St) (k:St→Option (AEx×St)):Option (AEx×St):=fL s.tmps fun ts=>k ⟨ts,s.heap,s.dirty⟩
theorem fS_eq (s:St) (k:St→Option (AEx×St)):fS s k=k s:=by unfold fS;rw[fL_eq]
noncomputable def qdv (cmp:List TypeId) (call:Call) (lp:Lp):Code→St→Option (AEx×St)
 | .skip,s=>some (.normal,s)
 | .region _ ops false,s=>opsK P cmp call ops.toList ops.toList s
 | .region _ ops true,s=>if qci ops.toList && qcj ops.toList then
  addD s.dirty (opsX P cmp call s.heap.length ops.toList (List.range ops.size) ⟨s.tmps,s.heap,[]⟩)else none
 | .seq a b,s=>match qdv cmp call lp a s with
  |some (.normal,s')=>fS s' (qdv cmp call lp b)
  |r=>r
 | .cond c a b,s=>match qan c s.tmps with
  |some (.bool true)=>qdv cmp call lp a s
  |some (.bool false)=>qdv cmp call lp b s
  |_=>none
 | .block id b,s=>match qdv cmp call lp b s with
  |some (.exit j,s')=>if j=id then some (.normal,s')else some (.exit j,s')
  |r=>r
 | .loop b,s=>lp (qdv cmp call lp b) s
 | .exit id,s=>some (.exit id,s)
 | .ret,s=>some (.ret,s)
 |_,_=>none
theorem codeK_eq (cmp:List TypeId) (call:Call) (lp:Lp):∀c:Code,qdv P cmp call lp c=qag P cmp call lp c:=by
 intro c
 induction c with
 |region id ops d=>funext s;cases d<;>simp only[qdv,qag,qly]
 |seq a b iha ihb=>funext s;simp only[qdv,qag,iha,ihb,fS_eq];rfl
 |cond c a b iha ihb=>funext s;simp only[qdv,qag,iha,ihb,qdq];rfl
 |block id b ih=>funext s;simp only[qdv,qag,ih];rfl
 |loop b ih=>funext s;simp only[qdv,qag,ih]
 |_=>funext s;rfl
noncomputable def lowBK (n:Nat) (h:qaa) (d:List Nat):Bool:=(List.range n).all fun b=>d.contains b||(match nthK h b with|some x=>(qe2 x).all (· <n)|none=>false)
theorem lowBK_eq (n:Nat) (h:qaa) (d:List Nat):lowBK n h d=lowB n h d:=by
 simp only[lowBK,lowB,qe1,qgk]
 rfl
noncomputable def qjo (n:Nat) (v:AVal) (h:qaa) (d:List Nat):Option (AVal×Eff):=
 fNs ((qdc h 4096 (qfo v++d) []).filter (n≤ ·)) fun keep=>fNs (List.range n++keep) fun idx=>
 if qln h idx [v] && lowBK n h d then
  match d,keep with
  |[],[]=>some (v,.same)
  |_,_=>some (ren2 (fun x=>idx.idxOf x) v,.heap (subHK h idx) d)
 else none
theorem qq0 (n:Nat) (v:AVal) (h:qaa) (d:List Nat):qjo n v h d=qee n v h d:=by
 simp only[qjo,qee,qlm,qec,qkn,qmk,lowBK_eq,ren2_eq,qoa]
 rfl
noncomputable def qlz (n:Nat) (v:AVal) (h:qaa) (d:List Nat):AVal×Eff:=
 fNs (qcu (d.filter (· <n))) fun d=>match n,d,qfo v with
  |0,[],[]=>(v,.same)
  |n,d,_=>fNs (qfs v) fun l=>match l with
   |[]=>(match qjo n v h d with
    |some r=>r
    |none=>(v,.heap h d))
   |l=>match qjo n (frz3 (fun b=>decide (n≤b) && l.contains b) h v) (frzH (fun b=>decide (n≤b) && l.contains b) h []) d with
    |some r=>r
    |none=>(v,.heap h d)
theorem qj5 (v:AVal):∀b∈qi8 v,b∈refs v:=by
 intro b hb
 cases v<;>first|(cases hb;done)|skip
 simp only[qi8]at hb
 split at hb
 ·simpa[refs]using hb
 ·cases hb
theorem qj6 (v:AVal):∀b∈qi9 v,b∈refs v:=by
 intro b hb
 cases v with
 |agg cs=>
  simp only[qi9,wb]at hb
  obtain⟨u,hu,hb⟩:=hb
  simp only[refs]
  exact qc1.2 ⟨u,hu,qj5 u b hb⟩
 |_=>first|(cases hb;done)|exact qj5 _ b hb
theorem qq1 (v:AVal):∀b∈qfs v,b∈refs v:=by
 intro b hb
 cases v with
 |tuple cs=>
  simp only[qfs,wb]at hb
  obtain⟨u,hu,hb⟩:=hb
  simp only[refs]
  exact qc1.2 ⟨u,hu,qj6 u b hb⟩
 |_=>first|(cases hb;done)|exact qj6 _ b hb
theorem qmm (h:qaa) (v:AVal):frz0 (fun _=>false) h v=v:=by
 cases v<;>first|rfl|(simp only[frz0,frzE];rfl)
theorem qi4 (h:qaa) (v:AVal):frz2 (fun _=>false) h v=v:=by
 cases v with
 |agg cs=>
  simp only[frz2]
  congr 1
  rw[show frz0 (fun _=>false) h=id from funext (qmm h)];simp
 |_=>first|rfl|exact qmm h _
theorem qmn (h:qaa) (v:AVal):frz3 (fun _=>false) h v=v:=by
 cases v with
 |tuple vs=>
  simp only[frz3]
  congr 1
  rw[show frz2 (fun _=>false) h=id from funext (qi4 h)];simp
 |agg cs=>exact qi4 h (.agg cs)
 |ms es b l m=>exact qi4 h (.ms es b l m)
 |_=>rfl
theorem qmo (h:qaa):frzH (fun _=>false) h []=h:=by
 apply List.ext_getElem?
 intro i
 rw[qf2]
 cases h[i]? with
 |none=>rfl
 |some x=>cases x<;>simp[frzB]
theorem qq2 (n:Nat) (v:AVal) (h:qaa) (d:List Nat):qlz n v h d=qdk n v h d:=by
 unfold qlz
 simp only[qlm,qq0,qkn]
 split
 ·rename_i hr hd
  unfold qdk
  rw[hd]
  have hms:qfs v=[]:=by
   cases hm:qfs v with
   |nil=>rfl
   |cons b r=>
    have:=qq1 v b (by rw[hm];simp)
    rw[hr]at this;cases this
  rw[hms]
  have hp:(fun b=>decide (0≤b) && ([]:List Nat).contains b)=fun _=>false:=by funext b;simp
  simp only[hp,qmn,qmo]
  have:qee 0 v h []=some (v,.same):=by
   unfold qee
   have h1:qaw h 4096 (refs v++[]) []=[]:=by rw[hr];rfl
   simp only[h1]
   have h2:qcs h (List.range 0++[].filter (0≤ ·)) [v]=true:=by unfold qcs;simp[qaf,hr]
   rw[h2];rfl
  rw[this]
 ·unfold qdk
  split
  ·rename_i hl
   simp only[hl,List.contains_nil,Bool.and_false,qmn,qmo]
   rfl
  ·rfl
noncomputable def qjp (big:Bool) (n:Nat) (v:AVal) (h:qaa) (d:List Nat):AVal×Eff:=if big then qlz n v h d else qav n v h d
theorem qq3 (big:Bool) (n:Nat) (v:AVal) (h:qaa) (d:List Nat):qjp big n v h d=qb1 big n v h d:=by
 unfold qjp qb1;rw[qq2]
noncomputable def fnK (cmp:List TypeId) (call:Call) (lp:Lp) (f:FuncId) (args:List AVal) (h:qaa):Option CR:=
 match P.funcs[f]? with
 |none=>none
 |some fn=>match fn.body with
  |none=>none
  |some c=>match qdv P cmp call lp c ⟨args++List.replicate (fn.ntmps-args.length) .undef,h,[]⟩with
   |some (.normal,s)|some (.ret,s)=>match resA P fn.results.toList s with
    |some vs=>let x:=qjp (bigM cmp) h.length (qb8 vs) s.heap s.dirty;some (.ret x.1 x.2)
    |none=>none
   |some (.pan v,s)=>let x:=qjp (bigM cmp) h.length v s.heap s.dirty;some (.pan x.1 x.2)
   |_=>none
theorem fnK_eq (cmp:List TypeId) (call:Call) (lp:Lp) (f:FuncId) (args:List AVal) (h:qaa):fnK P cmp call lp f args h=fnA P cmp call lp f args h:=by
 unfold fnK fnA
 simp only[codeK_eq,qq3]
 rfl
noncomputable def evK (cmp:List TypeId) (ext:Ext):Nat→Call
 |0,_,_,_=>none
 |n+1,f,args,h=>match ext f with
  |some g=>g args h
  |none=>fVs args fun args=>fH h fun h=>fnK P cmp (evK cmp ext n) (qa8 n) f args h
theorem qi5 (cmp:List TypeId) (ext:Ext):∀n,evK P cmp ext n=evN P cmp ext n
 |0=>by funext f a h;rfl
 |n+1=>by
  funext f a h
  simp only[evK,evN,fVs_eq,fH_eq,fnK_eq,qi5 cmp ext n]
  rfl
end
end Go.Ab
