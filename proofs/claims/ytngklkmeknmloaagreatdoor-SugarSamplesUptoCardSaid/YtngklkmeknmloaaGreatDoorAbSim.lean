/- Code without the checks of the order (they are made once, for the whole text). -/
import Derived.Test.YtngklkmeknmloaaGreatDoorAbLim
set_option linter.unusedSimpArgs false
set_option linter.unusedVariables false
set_option maxRecDepth 100000
set_option maxHeartbeats 4000000
open List renaming drop_length→wa,append_nil→wc
open Bool renaming and_eq_true→wb
open Nat renaming le_refl→wd
namespace Go.Ab
section
variable {P:Program} {cmp:List TypeId} {call:Call} {lp:Lp}
def qiz (r:Option (AEx×St)) (k:St→Option (AEx×St)):Option (AEx×St):=match r with
 |some (.normal,s')=>k s'
 |r=>r
def qed (id:Nat) (r:Option (AEx×St)):Option (AEx×St):=match r with
 |some (.exit j,s')=>if j=id then some (.normal,s')else some (.exit j,s')
 |r=>r
def condS (r:Option AVal) (a b:St→Option (AEx×St)) (s:St):Option (AEx×St):=match r with
 |some (.bool true)=>a s
 |some (.bool false)=>b s
 |_=>none
theorem sim_seq (a b:Code) (s:St):qak P cmp call lp (.seq a b) s=qiz (qak P cmp call lp a s) (qak P cmp call lp b):=rfl
theorem sim_cond (c:Operand) (a b:Code) (s:St):qak P cmp call lp (.cond c a b) s=condS (qab c s.tmps) (qak P cmp call lp a) (qak P cmp call lp b) s:=rfl
theorem sim_block (id:Nat) (b:Code) (s:St):qak P cmp call lp (.block id b) s=qed id (qak P cmp call lp b s):=rfl
theorem sim_loop (b:Code) (s:St):qak P cmp call lp (.loop b) s=lp (qak P cmp call lp b) s:=rfl
theorem qp9 (s:St) (k:St→Option (AEx×St)):qiz (some (.normal,s)) k=k s:=rfl
theorem bindS_ret (s:St) (k:St→Option (AEx×St)):qiz (some (.ret,s)) k=some (.ret,s):=rfl
theorem qsk (i:Nat) (s:St) (k:St→Option (AEx×St)):qiz (some (.exit i,s)) k=some (.exit i,s):=rfl
theorem bindS_pan (v:AVal) (s:St) (k:St→Option (AEx×St)):qiz (some (.pan v,s)) k=some (.pan v,s):=rfl
theorem qpg (i:Nat) (s:St):qed i (some (.normal,s))=some (.normal,s):=rfl
theorem qsl (i:Nat) (s:St):qed i (some (.ret,s))=some (.ret,s):=rfl
theorem qrg (i:Nat) (s:St):qed i (some (.exit i,s))=some (.normal,s):=by simp[qed]
theorem qqa (i j:Nat) (s:St) (h:(j==i)=false):qed i (some (.exit j,s))=some (.exit j,s):=by simp at h;simp[qed,h]
theorem qsm (i:Nat) (v:AVal) (s:St):qed i (some (.pan v,s))=some (.pan v,s):=rfl
theorem qsn (a b:St→Option (AEx×St)) (s:St):condS (some (.bool true)) a b s=a s:=rfl
theorem qrh (a b:St→Option (AEx×St)) (s:St):condS (some (.bool false)) a b s=b s:=rfl
end
def valO (x:Option AVal):Option OR:=match x with|some a=>some (.val a .same)|none=>none
theorem valO_some (a:AVal):valO (some a)=some (.val a .same):=rfl
def bnd {α β:Type} (x:Option α) (k:α→Option β):Option β:=match x with|some a=>k a|none=>none
theorem bnd_some {α β:Type} (a:α) (k:α→Option β):bnd (some a) k=k a:=rfl
theorem bnd_none {α β:Type} (k:α→Option β):bnd none k=none:=rfl
def retO (r:Option CR):Option OR:=match r with|some r=>some (outOf r)|none=>none
theorem retO_ret (v:AVal) (e:Eff):retO (some (.ret v e))=some (.val v e):=rfl
def qbj (P:Program) (t:TypeId) (i:Nat):Option (Nat×Nat):=match P.underlying t with
 |some (.struct fs)=>(match fs[i]? with|some f=>(qai P f.type).map fun s=>(f.offset,s)|none=>none)
 |some (.array _ e)=>(match qai P e with|some s=>some (i*s,s)|none=>none)
 |_=>none
def bok (P:Program) (t:TypeId):Bool:=match P.underlying t with
 |some (.struct fs)=>fs.all fun f=>(P.info? f.type).isSome
 |some (.array _ e)=>(qai P e).isSome
 |_=>false
def qi0 (P:Program) (u:Option TypeDesc) (a b:AVal):Option OR:=match u,a,b with
 |some (.slice e),.slice es _,.int _ n=>(match es[n.toNat]?,qai P e with
  |some cs,some s=>if 0≤n && cs.length==s then some (.val (.eptr cs 0) .same)else none
  |_,_=>none)
 |some (.slice e),.ms es b k m,.int _ n=>(match qai P e with
  |some s=>if 0≤n && n<m then(match es[n.toNat]? with
   |some cs=>if cs.length==s then some (.val (.eptr cs 0) .same)else none
   |none=>some (.val (.mptr b (n.toNat*s) k) .same))else none
  |none=>none)
 |some (.array len e),.ptr b o,.int _ n=>(match qai P e with
  |some s=>if 0≤n && n<len then some (.val (.ptr b (o+n.toNat*s)) .same)else none
  |none=>none)
 |_,_,_=>none
def qkb (P:Program) (u:Option TypeDesc) (a b:AVal):Option OR:=match u,a,b with
 |some .string,.str s,.int _ n=>(match s[n.toNat]? with
  |some b=>if 0≤n then some (.val (.int .u8 b.toNat) .same)else none
  |none=>none)
 |some (.array len e),.agg cs,.int _ n=>(match qai P e with
  |some s=>if 0≤n && n<len then valO (qby P e cs (n.toNat*s))else none
  |none=>none)
 |_,_,_=>none
def lenA (u:Option TypeDesc) (a:AVal):Option OR:=match a,u with
 | .str s,some .string=>if s.length≤qgm then some (.val (.int .i64 s.length) .same)else none
 | .slice es _,some (.slice _)=>some (.val (.int .i64 es.length) .same)
 | .ms _ _ _ m,some (.slice _)=>some (.val (.int .i64 m) .same)
 |_,_=>none
section
variable (P:Program) (cmp:List TypeId) (call:Call) (dst:Option Tmp) (ty:TypeId) (pos:String) (after:Array Edge) (gd:Option (Nat×Bool)) (ts:List AVal) (h:qaa)
theorem op_move (x:Operand):opA P cmp call ⟨dst,.move x,ty,pos,after,gd⟩ ts h=valO (qab x ts):=rfl
theorem op_assign (x:Operand):opA P cmp call ⟨dst,.assign x,ty,pos,after,gd⟩ ts h=valO (qab x ts):=rfl
theorem op_alloc (t:TypeId):opA P cmp call ⟨dst,.alloc t,ty,pos,after,gd⟩ ts h=bnd (qal P t) fun z=>some (.val (.ptr h.length 0) (.heap (h++[.box z.cells]) [])):=by
 simp only[opA];cases qal P t<;>rfl
theorem op_box (t:TypeId) (x:Operand):opA P cmp call ⟨dst,.box t x,ty,pos,after,gd⟩ ts h=bnd (qab x ts) fun a=>some (.val (.ptr h.length 0) (.heap (h++[.box a.cells]) [])):=by
 simp only[opA];cases qab x ts<;>rfl
theorem op_load (t:TypeId) (x:Operand):opA P cmp call ⟨dst,.load t x,ty,pos,after,gd⟩ ts h=bnd (qab x ts) fun a=>valO (qck P h t a):=by
 simp only[opA]
 cases hc:qab x ts with
 |none=>rfl
 |some a=>simp only[bnd];cases qck P h t a<;>rfl
theorem op_store (t:TypeId) (a x:Operand):opA P cmp call ⟨dst,.store t a x,ty,pos,after,gd⟩ ts h=
 bnd (qab a ts) fun p=>bnd (qab x ts) fun v=>bnd (qbv P h t p v) fun q=>some (.val .undef (.heap q.1 [q.2])):=by
 simp only[opA]
 cases ha:qab a ts with
 |none=>rfl
 |some p=>cases hx:qab x ts with
  |none=>rfl
  |some v=>simp only[bnd];cases qbv P h t p v<;>rfl
theorem qri (x:Operand):opA P cmp call ⟨dst,.nilCheck x,ty,pos,after,gd⟩ ts h=bnd (qab x ts) fun a=>match a with
 | .ptr b o=>some (.val (.ptr b o) .same)| .eptr cs o=>some (.val (.eptr cs o) .same)| .mptr b o n=>some (.val (.mptr b o n) .same)| .func f p q=>some (.val (.func f p q) .same)|_=>none:=by
 simp only[opA]
 cases hc:qab x ts with
 |none=>rfl
 |some a=>cases a<;>rfl
theorem op_binOp (op:BinOp) (t t2:TypeId) (x y:Operand):opA P cmp call ⟨dst,.binOp op t x y t2,ty,pos,after,gd⟩ ts h=
 bnd (qab x ts) fun a=>bnd (qab y ts) fun b=>valO (binA P cmp op t (qbg x||qbg y) a b):=by
 simp only[opA]
 cases ha:qab x ts with
 |none=>rfl
 |some a=>cases hy:qab y ts with
  |none=>rfl
  |some b=>simp only[bnd];cases binA P cmp op t (qbg x||qbg y) a b<;>rfl
theorem op_unOp (op:UnOp) (t:TypeId) (x:Operand):opA P cmp call ⟨dst,.unOp op t x,ty,pos,after,gd⟩ ts h=bnd (qab x ts) fun a=>valO (unA op a):=by
 simp only[opA]
 cases hc:qab x ts with
 |none=>rfl
 |some a=>simp only[bnd];cases unA op a<;>rfl
theorem qso (s d:TypeId) (x:Operand):opA P cmp call ⟨dst,.convert s d x,ty,pos,after,gd⟩ ts h=bnd (qab x ts) fun a=>valO (qkv P s d a):=by
 simp only[opA]
 cases hc:qab x ts with
 |none=>rfl
 |some a=>simp only[bnd];cases qkv P s d a<;>rfl
theorem op_pick (c x y:Operand):opA P cmp call ⟨dst,.pick c x y,ty,pos,after,gd⟩ ts h=bnd (qab c ts) fun b=>match b with
 | .bool true=>valO (qab x ts)| .bool false=>valO (qab y ts)|_=>none:=by
 simp only[opA]
 cases hc:qab c ts with
 |none=>rfl
 |some a=>
  cases a<;>try rfl
  rename_i b;cases b<;>rfl
theorem qqb (t:TypeId) (x:Operand) (f:Nat):opA P cmp call ⟨dst,.fieldAddr t x f,ty,pos,after,gd⟩ ts h=
 bnd (qam P t f) fun p=>bnd (qab x ts) fun a=>match a with
  | .ptr b o=>some (.val (.ptr b (o+p.1)) .same)| .eptr cs o=>some (.val (.eptr cs (o+p.1)) .same)| .mptr b o n=>some (.val (.mptr b (o+p.1) n) .same)|_=>none:=by
 simp only[opA]
 cases hf:qam P t f with
 |none=>rfl
 |some p=>
  obtain⟨a,b⟩:=p
  cases hc:qab x ts with
  |none=>rfl
  |some v=>cases v<;>rfl
theorem op_field (t:TypeId) (x:Operand) (f:Nat):opA P cmp call ⟨dst,.field t x f,ty,pos,after,gd⟩ ts h=
 bnd (qam P t f) fun p=>bnd (qab x ts) fun a=>match a with| .agg cs=>valO (qby P p.2 cs p.1)|_=>none:=by
 simp only[opA]
 cases hf:qam P t f with
 |none=>rfl
 |some p=>
  obtain⟨a,b⟩:=p
  cases hc:qab x ts with
  |none=>rfl
  |some v=>cases v<;>rfl
theorem op_callF (f:FuncId) (args:Array Operand) (ats:Array TypeId):opA P cmp call ⟨dst,.call { callee:= .value (.func f),args,argTypes:=ats },ty,pos,after,gd⟩ ts h=
 bnd (qao ts args.toList) fun as=>retO (qa7 call h f (as.map argA)):=by
 simp only[opA,qab]
 cases qao ts args.toList with
 |none=>rfl
 |some as=>simp only[List.nil_append,wc];rfl
theorem op_callV (t:Tmp) (args:Array Operand) (ats:Array TypeId):opA P cmp call ⟨dst,.call { callee:= .value (.tmp t),args,argTypes:=ats },ty,pos,after,gd⟩ ts h=
 bnd (ts[t]?) fun f=>bnd (qao ts args.toList) fun as=>match f with| .func g first cap=>retO (qa7 call h g (first++as.map argA++cap))|_=>none:=by
 simp only[opA,qab]
 cases hc:ts[t]? with
 |none=>rfl
 |some v=>
  cases qao ts args.toList with
  |none=>cases v<;>rfl
  |some as=>cases v<;>rfl
theorem op_len (x:Operand) (t:TypeId):opA P cmp call ⟨dst,.call { callee:= .builtin .len,args:= #[x],argTypes:= #[t] },ty,pos,after,gd⟩ ts h=
 bnd (qab x ts) fun a=>lenA (P.underlying t) a:=by
 simp only[opA,qao]
 have h0:(#[t]:Array TypeId)[0]? =some t:=rfl
 simp only[h0]
 cases hc:qab x ts with
 |none=>rfl
 |some v=>
  simp only[bnd]
  cases hu:P.underlying t with
  |none=>cases v<;>rfl
  |some d=>cases d<;>cases v<;>rfl
theorem op_append (x y:Operand) (t:TypeId):opA P cmp call ⟨dst,.call { callee:= .builtin .append,args:= #[x,y],argTypes:= #[t,t] },ty,pos,after,gd⟩ ts h=
 bnd (qab x ts) fun a=>bnd (qab y ts) fun b=>bnd (qbo P (bigM cmp) h t a b) fun q=>some (.val q.1 q.2):=by
 simp only[opA,qao]
 have h0:(#[t,t]:Array TypeId)[0]? =some t:=rfl
 have h1:(#[t,t]:Array TypeId)[1]? =some t:=rfl
 simp only[h0,h1]
 cases hc:qab x ts with
 |none=>rfl
 |some a=>cases hy:qab y ts with
  |none=>rfl
  |some b=>
   simp only[bnd]
   cases ha:qbo P (bigM cmp) h t a b with
   |none=>simp
   |some q=>simp
theorem qdz (t:TypeId) (ps:Array (Nat×Operand)) (z:List AVal) (hz:qal P t=some (.agg z)) (hb:bok P t=true):opA P cmp call ⟨dst,.build t ps,ty,pos,after,gd⟩ ts h=
 bnd (qau ts ps.toList) fun us=>valO ((qa3 (qbj P t) z us).map .agg):=by
 simp only[opA,hz]
 unfold bok at hb
 cases hu:P.underlying t with
 |none=>rw[hu]at hb;cases hb
 |some d=>
  rw[hu]at hb
  cases hp:qau ts ps.toList with
  |none=>cases d<;>rfl
  |some us=>
   cases d<;>first|(cases hb;done)|skip
   ·rename_i n e
    obtain⟨s,hs⟩:=Option.isSome_iff_exists.1 hb
    have:qbj P t=fun i=>some (i*s,s):=by funext i;simp[qbj,hu,hs]
    simp only[bnd,this,hs];rfl
   ·rename_i fs
    have:qbj P t=fun i=>match fs[i]? with|some f=>(qai P f.type).map fun s=>(f.offset,s)|none=>none:=by funext i;simp[qbj,hu]
    simp only[bnd,this,hb,if_true];rfl
theorem qqc (t:TypeId) (x i:Operand):opA P cmp call ⟨dst,.indexAddr t x i,ty,pos,after,gd⟩ ts h=
 bnd (qab x ts) fun a=>bnd (qab i ts) fun b=>qi0 P (P.underlying t) a b:=by
 simp only[opA]
 cases hx:qab x ts with
 |none=>cases P.underlying t with
  |none=>rfl
  |some d=>cases d<;>rfl
 |some a=>cases hi:qab i ts with
  |none=>cases P.underlying t with
   |none=>rfl
   |some d=>cases d<;>cases a<;>rfl
  |some b=>cases hu:P.underlying t with
   |none=>rfl
   |some d=>cases d<;>cases a<;>cases b<;>rfl
theorem op_index (t:TypeId) (x i:Operand):opA P cmp call ⟨dst,.index t x i,ty,pos,after,gd⟩ ts h=
 bnd (qab x ts) fun a=>bnd (qab i ts) fun b=>qkb P (P.underlying t) a b:=by
 simp only[opA]
 cases hx:qab x ts with
 |none=>cases P.underlying t with
  |none=>rfl
  |some d=>cases d<;>rfl
 |some a=>cases hi:qab i ts with
  |none=>cases P.underlying t with
   |none=>rfl
   |some d=>cases d<;>cases a<;>rfl
  |some b=>cases hu:P.underlying t with
   |none=>rfl
   |some d=>
    cases d<;>cases a<;>cases b<;>rfl
theorem op_slice (t:TypeId) (x:Operand) (lo hi mx:Option Operand):opA P cmp call ⟨dst,.slice t x lo hi mx,ty,pos,after,gd⟩ ts h=
 bnd (qab x ts) fun a=>bnd (optA ts lo) fun l=>bnd (optA ts hi) fun u=>bnd (optA ts mx) fun m=>valO (qea P t a l u m):=by
 simp only[opA]
 cases qab x ts with
 |none=>rfl
 |some a=>cases optA ts lo with
  |none=>rfl
  |some l=>cases optA ts hi with
   |none=>rfl
   |some u=>cases optA ts mx with
    |none=>rfl
    |some m=>simp only[bnd];cases qea P t a l u m<;>rfl
theorem qph (t:TypeId) (n:Nat) (ps:Array (Nat×Operand)) (e s:Nat) (z:AVal) (he:qcl P t=some e) (hs:qai P e=some (s+1)) (hz:qal P e=some z)
 (hn:(n*(s+1)≤65536 && z.cells.length==s+1)=true) (hna:(decide (0<s) && ps.toList.any (fun x=>isAgg0 x.2))=false):opA P cmp call ⟨dst,.buildSlice t n ps,ty,pos,after,gd⟩ ts h=
 bnd (qau ts ps.toList) fun us=>bnd (qa3 (fun i=>some (i*(s+1),s+1)) (List.replicate n z.cells).flatten us) fun cs=>bnd (qbp (chop (s+1) n cs)) fun es=>some (.val (.slice es .full) .same):=by
 simp only[opA,he,hs,hz]
 cases qau ts ps.toList with
 |none=>rfl
 |some us=>
  simp only[bnd]
  rw[if_pos hn]
  cases qa3 (fun i=>some (i*(s+1),s+1)) (List.replicate n z.cells).flatten us with
  |none=>rfl
  |some cs=>simp only[hna,Bool.and_false,Bool.false_eq_true,if_false];cases qbp (chop (s+1) n cs)<;>rfl
theorem qqd (t:TypeId) (x y:Operand):opA P cmp call ⟨dst,.makeSlice t x y,ty,pos,after,gd⟩ ts h=
 bnd (qab x ts) fun a=>bnd (qab y ts) fun b=>bnd (qdb P h t a b) fun q=>some (.val q.1 q.2):=by
 simp only[opA]
 cases qab x ts with
 |none=>rfl
 |some a=>cases qab y ts with
  |none=>rfl
  |some b=>simp only[bnd];cases qdb P h t a b<;>rfl
theorem qsp (t:TypeId):opA P cmp call ⟨dst,.makeMap t none,ty,pos,after,gd⟩ ts h=some (.val (.mref h.length) (.heap (h++[.map [] []]) [])):=rfl
theorem op_lookup (t:TypeId) (x y:Operand) (ok:Bool):opA P cmp call ⟨dst,.lookup t x y ok,ty,pos,after,gd⟩ ts h=
 bnd (qab x ts) fun a=>bnd (qab y ts) fun b=>valO (qgg P h t a b ok):=by
 simp only[opA]
 cases qab x ts with
 |none=>rfl
 |some a=>cases qab y ts with
  |none=>rfl
  |some b=>simp only[bnd];cases qgg P h t a b ok<;>rfl
theorem qqe (t:TypeId) (m x y:Operand):opA P cmp call ⟨dst,.mapUpdate t m x y,ty,pos,after,gd⟩ ts h=
 bnd (qab m ts) fun p=>bnd (qab x ts) fun a=>bnd (qab y ts) fun b=>bnd (qdn P h t p a b) fun q=>some (.val .undef (.heap q.1 [q.2])):=by
 simp only[opA]
 cases qab m ts with
 |none=>rfl
 |some p=>cases qab x ts with
  |none=>rfl
  |some a=>cases qab y ts with
   |none=>rfl
   |some b=>simp only[bnd];cases qdn P h t p a b<;>rfl
theorem op_insert (t:TypeId) (m x y:Operand):opA P cmp call ⟨dst,.insert t m x y,ty,pos,after,gd⟩ ts h=
 bnd (qab m ts) fun p=>bnd (qab x ts) fun a=>bnd (qab y ts) fun b=>bnd (qdn P h t p a b) fun q=>some (.val .undef (.heap q.1 [q.2])):=by
 simp only[opA]
 cases qab m ts with
 |none=>rfl
 |some p=>cases qab x ts with
  |none=>rfl
  |some a=>cases qab y ts with
   |none=>rfl
   |some b=>simp only[bnd];cases qdn P h t p a b<;>rfl
theorem apX_one (t:TypeId):bigM [t]=false:=rfl
theorem apX_full (es fs:List (List AVal)) (tk:Tk) (t:TypeId):qkx P h t (.slice es tk) (.slice fs .full)=qa5 P h t (.slice es tk) (.slice fs .full):=rfl
theorem apX_free (es fs:List (List AVal)) (tk:Tk) (t:TypeId):qkx P h t (.slice es tk) (.slice fs .free)=qa5 P h t (.slice es tk) (.slice fs .free):=rfl
theorem apX_own (es fs:List (List AVal)) (tk:Tk) (t:TypeId) (b:Nat):qkx P h t (.slice es tk) (.slice fs (.own b))=qa5 P h t (.slice es tk) (.slice fs (.own b)):=rfl
theorem qrj (f:FuncId) (a c:Array Operand):opA P cmp call ⟨dst,.makeFunc (.func f) a c,ty,pos,after,gd⟩ ts h=
 bnd (qao ts a.toList) fun u=>bnd (qao ts c.toList) fun v=>some (.val (.func f u v) .same):=by
 simp only[opA]
 cases qao ts a.toList with
 |none=>rfl
 |some u=>cases qao ts c.toList<;>rfl
theorem qsq (x:Operand) (i:Nat):opA P cmp call ⟨dst,.extract x i,ty,pos,after,gd⟩ ts h=
 bnd (qab x ts) fun a=>match a with| .tuple vs=>valO vs[i]? |_=>none:=by
 simp only[opA]
 cases qab x ts with
 |none=>rfl
 |some a=>cases a<;>rfl
theorem op_max (x y:Operand) (t t':TypeId):opA P cmp call ⟨dst,.call { callee:= .builtin .max,args:= #[x,y],argTypes:= #[t,t'] },ty,pos,after,gd⟩ ts h=
 bnd (qab x ts) fun a=>bnd (qab y ts) fun b=>valO (maxA [a,b]):=by
 simp only[opA,qao]
 cases hc:qab x ts<;>cases hc':qab y ts<;>simp only[bnd]<;>rfl
theorem op_min (x y:Operand) (t t':TypeId):opA P cmp call ⟨dst,.call { callee:= .builtin .min,args:= #[x,y],argTypes:= #[t,t'] },ty,pos,after,gd⟩ ts h=
 bnd (qab x ts) fun a=>bnd (qab y ts) fun b=>valO (minA [a,b]):=by
 simp only[opA,qao]
 cases hc:qab x ts<;>cases hc':qab y ts<;>simp only[bnd]<;>rfl
end
end Go.Ab
namespace Go.Ab
theorem qcx (v:AVal) (h:qaa) (d:List Nat) (hr:refs (strip3 v)=[]):qaq 0 v h d=(strip3 v,.same):=by
 have hd:d.filter (· <0)=[]:=by simp
 have ht:qdi 0 v h []=some (strip3 v,.same):=by
  unfold qdi
  simp only
  rw[if_pos (by unfold lowA;rw[hr];rfl)]
 simp only[qaq,hd,qdf,ht]
theorem qsr {call:Call} {g:FuncId} {args:List AVal} {v:AVal} (h:qaa) (ha:qag args=[]) (hv:refs v=[]) (e:call g args []=some (.ret v .same)):
 qa7 call h g args=some (.ret v .same):=by
 unfold qa7
 simp only[ha]
 have h1:qa2 h 256 [] []=[]:=rfl
 simp only[h1]
 have h2:qdc h [] args=true:=by unfold qdc;rw[ha];rfl
 rw[if_pos h2]
 have h3:renL (fun x=>List.idxOf x []) args=args:=qas args (by rw[ha];simp)
 rw[h3]
 have h4:subH h []=[]:=rfl
 rw[h4,e]
 simp only[qdd]
 rw[qcj v (by rw[hv];simp)]
end Go.Ab
namespace Go.Ab
abbrev Str:=List UInt8
inductive PExpr where
 |mk (op:Int) (name:Str) (n:Int) (cons:List Str) (kids:List PExpr)
def PExpr.op:PExpr→Int| .mk op _ _ _ _=>op
def PExpr.name:PExpr→Str| .mk _ name _ _ _=>name
def PExpr.n:PExpr→Int| .mk _ _ n _ _=>n
def PExpr.cons:PExpr→List Str| .mk _ _ _ cons _=>cons
def PExpr.kids:PExpr→List PExpr| .mk _ _ _ _ kids=>kids
def qah (l:List Str):AVal:= .slice (l.map fun s=>[.str s]) .free
mutual
def PExpr.cells:PExpr→List AVal
 | .mk op name n cons kids=>[.int .i64 op,.str name,.int .i64 n,qah cons,.slice (PExpr.cellsL kids) .free]
def PExpr.cellsL:List PExpr→List (List AVal)
 |[]=>[]
 |e::r=>e.cells::PExpr.cellsL r
end
theorem qss (l:List PExpr):PExpr.cellsL l=l.map PExpr.cells:=by
 induction l with
 |nil=>rfl
 |cons e r ih=>simp[PExpr.cellsL,ih]
theorem PExpr.cells_eq (e:PExpr):e.cells=[.int .i64 e.op,.str e.name,.int .i64 e.n,qah e.cons,.slice (e.kids.map PExpr.cells) .free]:=by
 cases e;simp[PExpr.cells,PExpr.op,PExpr.name,PExpr.n,PExpr.cons,PExpr.kids,qss]
structure CellsOk (n:Nat) (cs:List AVal):Prop where
 len:cs.length=n
 refs:qag cs=[]
 strip:cs.map qav=cs
 one:cs.all oneA=true
 pure:cs.all qax=true
theorem CellsOk.strip3 {n:Nat} {cs:List AVal} (h:CellsOk n cs):strip3 (.agg cs)= .agg cs:=by simp only[Go.Ab.strip3,Go.Ab.strip2,h.strip]
theorem qqf {vs cs:List AVal} (h:vs.length=cs.length):qaj cs 0 vs=some vs:=by
 cases cs with
 |nil=>cases vs with
  |nil=>rfl
  |cons=>simp at h
 |cons c cs=>
  simp only[qaj]
  rw[if_pos (by omega),h,wa,wc]
theorem CellsOk.append {n m:Nat} {a b:List AVal} (h:CellsOk n a) (k:CellsOk m b):CellsOk (n+m) (a++b):=by
 refine⟨by simp[h.len,k.len],?_,by simp[h.strip,k.strip],by simp[h.one,k.one],by simp[h.pure,k.pure]⟩
 have:∀l r:List AVal,qag (l++r)=qag l++qag r:=by
  intro l r
  induction l with
  |nil=>rfl
  |cons x l ih=>simp[qag,ih]
 rw[this,h.refs,k.refs];rfl
theorem PExpr.ok (e:PExpr):CellsOk 5 e.cells:=by
 rw[e.cells_eq]
 exact⟨rfl,rfl,rfl,rfl,rfl⟩
theorem qi1 {n:Nat} {cs:List AVal} (h:CellsOk n cs):refs (.agg cs)=[]:=by simp only[refs,h.refs]
end Go.Ab
namespace Go.Ab
theorem qn8 {α R:Type} {f:St→Option (AEx×St)} (μ:α→Nat) (den:α→R) (Inv:α→St→Prop) (Post:R→AEx→St→Prop)
 (hs:∀a s,Inv a s→(∃a' s',f s=some (.normal,s')∧Inv a' s'∧μ a'<μ a∧den a'=den a)∨(∃ex s',f s=some (ex,s')∧(∀s1:St,(ex,s')≠(AEx.normal,s1))∧Post (den a) ex s')):
 ∀(n:Nat) (a:α) (s:St),μ a≤n→Inv a s→∃ex s',lpC f s=some (ex,s')∧Post (den a) ex s':=by
 intro n
 induction n with
 |zero=>
  intro a s hn hi
  rcases hs a s hi with⟨a',s',_,_,h,_⟩|⟨ex,s',h1,hx,h2⟩
  ·omega
  ·refine⟨ex,s',?_,h2⟩
   rw[lpC_eq,h1]
   split
   ·rename_i s2 hh
    simp only[Option.some.injEq]at hh
    exact absurd hh (hx s2)
   ·rfl
 |succ n ih=>
  intro a s hn hi
  rcases hs a s hi with⟨a',s1,h1,hi1,hm,hd⟩|⟨ex,s',h1,hx,h2⟩
  ·obtain⟨ex,s',h3,h4⟩:=ih a' s1 (by omega) hi1
   refine⟨ex,s',?_,hd▸h4⟩
   rw[lpC_eq,h1];exact h3
  ·refine⟨ex,s',?_,h2⟩
   rw[lpC_eq,h1]
   split
   ·rename_i s2 hh
    simp only[Option.some.injEq]at hh
    exact absurd hh (hx s2)
   ·rfl
def upd:List (Nat×AVal)→List AVal→List AVal
 |[],ts=>ts
 |(k,v)::r,ts=>(upd r ts).set k v
theorem upd_nil (ts:List AVal):upd [] ts=ts:=rfl
theorem qqg (k:Nat) (v:AVal) (r:List (Nat×AVal)) (ts:List AVal):upd ((k,v)::r) ts=(upd r ts).set k v:=rfl
def At (junk:List Nat) (ts0:List AVal) (H0:qaa) (w:List (Nat×AVal)) (s:St):Prop:=
 s=⟨upd (w++junk.map fun k=>(k,s.tmps.getD k .undef)) ts0,H0++s.heap.drop H0.length,s.dirty⟩
theorem At.elim {junk:List Nat} {ts0:List AVal} {H0:qaa} {w:List (Nat×AVal)} {s:St} (h:At junk ts0 H0 w s):
 ∃(j:Nat→AVal) (H:qaa) (d:List Nat),s=⟨upd (w++junk.map fun k=>(k,j k)) ts0,H0++H,d⟩:=⟨_,_,_,h⟩
def Round {α R:Type} (junk:List Nat) (ts0:List AVal) (H0:qaa) (w:α→List (Nat×AVal)) (I:α→Prop) (μ:α→Nat) (den:α→R) (Post:R→AEx→St→Prop) (a:α) (r:Option (AEx×St)):Prop:=
 (∃a' s',r=some (.normal,s')∧I a'∧At junk ts0 H0 (w a') s'∧μ a'<μ a∧den a'=den a)∨
 (∃ex s',r=some (ex,s')∧(∀s1:St,(ex,s')≠(AEx.normal,s1))∧Post (den a) ex s')
theorem qgz {α R:Type} {f:St→Option (AEx×St)} {ts0:List AVal} {H0:qaa} {d0:List Nat} {r:Option (AEx×St)} (hl:lpC f ⟨ts0,H0,d0⟩=r)
 (junk:List Nat) (w:α→List (Nat×AVal)) (I:α→Prop) (μ:α→Nat) (den:α→R) (Post:List AVal→qaa→R→AEx→St→Prop) (a0:α) (h0:I a0)
 (hw:At junk ts0 H0 (w a0) ⟨ts0,H0,d0⟩)
 (hs:∀a (j:Nat→AVal) H d,I a→Round junk ts0 H0 w I μ den (Post ts0 H0) a (f ⟨upd (w a++junk.map fun k=>(k,j k)) ts0,H0++H,d⟩)):
 ∃ex s',r=some (ex,s')∧Post ts0 H0 (den a0) ex s':=by
 subst hl
 refine qn8 μ den (fun a s=>I a∧At junk ts0 H0 (w a) s) (Post ts0 H0) ?_ (μ a0) a0 _ (wd _) ⟨h0,hw⟩
 rintro a s ⟨hi,ha⟩
 obtain⟨j,H,d,rfl⟩:=ha.elim
 rcases hs a j H d hi with⟨a',s',h1,h2,h3,h4,h5⟩|h
 ·exact .inl ⟨a',s',h1,⟨h2,h3⟩,h4,h5⟩
 ·exact .inr h
theorem PExpr.len (e:PExpr):e.cells.length=5:=e.ok.len
theorem PExpr.ones (e:PExpr):e.cells.all oneA=true:=e.ok.one
theorem PExpr.strip (e:PExpr):e.cells.map qav=e.cells:=e.ok.strip
theorem PExpr.norefs (e:PExpr):qag e.cells=[]:=e.ok.refs
theorem PExpr.get0 (e:PExpr):e.cells[0]? =some (.int .i64 e.op):=by rw[e.cells_eq];rfl
theorem PExpr.get1 (e:PExpr):e.cells[1]? =some (.str e.name):=by rw[e.cells_eq];rfl
theorem PExpr.get2 (e:PExpr):e.cells[2]? =some (.int .i64 e.n):=by rw[e.cells_eq];rfl
theorem PExpr.get3 (e:PExpr):e.cells[3]? =some (qah e.cons):=by rw[e.cells_eq];rfl
theorem PExpr.get4 (e:PExpr):e.cells[4]? =some (.slice (e.kids.map PExpr.cells) .free):=by rw[e.cells_eq];rfl
theorem PExpr.take (e:PExpr):List.take 5 e.cells=e.cells:=by rw[List.take_of_length_le];rw[e.len];exact wd _
theorem PExpr.set4 (e:PExpr) (v:AVal):qaj e.cells 4 [v]=some [.int .i64 e.op,.str e.name,.int .i64 e.n,qah e.cons,v]:=by rw[e.cells_eq];rfl
theorem qrk (l:List Str):argA (qah l)=qah l:=rfl
theorem qpi (l:List Str):(qah l).cells=[qah l]:=rfl
theorem qrl (l:List Str):oneA (qah l)=true:=rfl
theorem qqh (l:List Str):qax (qah l)=true:=rfl
theorem qqi (l:List Str):refs (qah l)=[]:=rfl
theorem qn9 (l:List Str):strip3 (qah l)=qah l:=rfl
theorem qpj (l:List Str):qav (qah l)=qah l:=rfl
theorem PExpr.takeA (e:PExpr) (r:List AVal):List.take 5 (e.cells++r)=e.cells:=by rw[←e.len,List.take_left]
theorem PExpr.dropA (e:PExpr) (r:List AVal):List.drop 5 (e.cells++r)=r:=by rw[←e.len,List.drop_left]
theorem PExpr.drop (e:PExpr):List.drop 5 e.cells=[]:=by rw[←e.len,wa]
theorem PExpr.pures (e:PExpr):e.cells.all qax=true:=e.ok.pure
theorem PExpr.induct {p:PExpr→Prop} (h:∀op name n cons kids,(∀k∈kids,p k)→p (.mk op name n cons kids)) (e:PExpr):p e:=by
 refine PExpr.rec (motive_1:=p) (motive_2:=fun l=>∀k∈l,p k) ?_ ?_ ?_ e
 ·intro op name n cons kids ih;exact h op name n cons kids ih
 ·intro k hk;cases hk
 ·intro a r ha hr k hk
  rcases List.mem_cons.1 hk with rfl|hk
  ·exact ha
  ·exact hr k hk
def qae:Nat:=1099511627776
def qcy (l:List Str):Prop:=l.length≤qae∧∀s∈l,s.length≤qae
inductive PExpr.Small:PExpr→Prop where
 |mk (op:Int) (name:Str) (n:Int) (cons:List Str) (kids:List PExpr):name.length≤qae→qcy cons→kids.length≤qae→(∀k∈kids,k.Small)→PExpr.Small (.mk op name n cons kids)
theorem PExpr.Small.kids {e:PExpr} (h:e.Small):e.kids.length≤qae∧∀k∈e.kids,k.Small:=by cases h;exact⟨‹_›,‹_›⟩
theorem PExpr.Small.name {e:PExpr} (h:e.Small):e.name.length≤qae:=by cases h;assumption
theorem PExpr.Small.cons {e:PExpr} (h:e.Small):qcy e.cons:=by cases h;assumption
theorem qst {n:Int} (h1: -9223372036854775808≤n) (h2:n≤9223372036854775807):qcs .i64 n=n:=by
 unfold qcs;simp[h1,h2]
theorem qb2 {n:Nat} (h:n≤qae):qcs .i64 ((n:Int)+1)=((n+1:Nat):Int):=by
 rw[qst (by omega) (by unfold qae at h;omega)];rfl
def wadd (a b:Int):Int:=qcs .i64 (a+b)
def Ret (c:Call) (f:FuncId) (args:List AVal) (v:AVal):Prop:=∀h,qa7 c h f args=some (.ret v .same)
theorem Ret.mk {c:Call} {f:FuncId} {args:List AVal} {v:AVal} (ha:qag args=[]) (hv:refs v=[]) (e:c f args []=some (.ret v .same)):Ret c f args v:=fun h=>qsr h ha hv e
end Go.Ab
namespace Go.Ab
section
variable (P:Program) (cmp:List TypeId) (call:Call) (lp:Lp)
def wantV (w:Bool):AVal→Option Bool
 | .bool b=>some (b==w)
 | .undef=>some false
 |_=>none
def qkc (ops:List Oper) (j:Nat) (w:Bool) (ts:List AVal):Option Bool:=bnd ops[j]? fun oj=>bnd oj.dst fun d=>bnd ts[d]? (wantV w)
def qci (dr:Bool) (pk:Bool) (ask:Eff→Bool) (r:Option OR) (dst:Option Tmp) (s:St) (k:St→Option (AEx×St)):Option (AEx×St):=match r with
 |some (.val v f)=>if !dr||ask f then k ⟨setT s.tmps dst v,f.of s.heap,f.dirt++s.dirty⟩else none
 |some (.pan v f)=>if dr then(if pk then some (.pan v,⟨[],f.of s.heap,f.dirt++s.dirty⟩)else none)else some (.pan v,⟨s.tmps,f.of s.heap,f.dirt++s.dirty⟩)
 |none=>none
def opsB (dr:Bool) (lim:Nat) (ops:List Oper):Nat→List Oper→St→Option (AEx×St)
 |_,[],s=>some (.normal,s)
 |j,o::r,s=>match qap ops o s.tmps with
  |some true=>qci dr (qf4 ops j) (fun f=>askD lim ops j o s f) (opA P cmp call o s.tmps s.heap) o.dst s (opsB dr lim ops (j+1) r)
  |some false=>opsB dr lim ops (j+1) r ⟨setT s.tmps o.dst .undef,s.heap,s.dirty⟩
  |none=>none
def qar:Code→St→Option (AEx×St)
 | .skip,s=>some (.normal,s)
 | .region _ ops dr,s=>opsB P cmp call dr s.heap.length ops.toList 0 ops.toList s
 | .seq a b,s=>qiz (qar a s) (qar b)
 | .cond c a b,s=>condS (qab c s.tmps) (qar a) (qar b) s
 | .block id b,s=>qed id (qar b s)
 | .loop b,s=>lp (qar b) s
 | .exit id,s=>some (.exit id,s)
 | .ret,s=>some (.ret,s)
 |_,_=>none
def qb9:Code→Bool
 | .region _ ops true=>qcp ops.toList && qcq ops.toList
 | .seq a b=>qb9 a && qb9 b
 | .cond _ a b=>qb9 a && qb9 b
 | .block _ b=>qb9 b
 | .loop b=>qb9 b
 |_=>true
def fin (n:Nat) (rs:List ResultVar):Option (AEx×St)→Option CR
 |some (.normal,s)|some (.ret,s)=>match resA P rs s with
  |some vs=>some (.ret (qaq n (qb0 vs) s.heap s.dirty).1 (qaq n (qb0 vs) s.heap s.dirty).2)
  |none=>none
 |some (.pan v,s)=>some (.pan (qaq n v s.heap s.dirty).1 (qaq n v s.heap s.dirty).2)
 |_=>none
end
section
variable {P:Program} {cmp:List TypeId} {call:Call} {lp:Lp}
theorem qf8 {lim:Nat} {ops:List Oper}:∀(l:List Oper) (j:Nat) (s:St),opsB P cmp call false lim ops j l s=opsA P cmp call ops l s
 |[],_,_=>rfl
 |o::r,j,s=>by
  unfold opsB opsA
  cases qap ops o s.tmps with
  |none=>rfl
  |some b=>
   cases b with
   |false=>simp only[qf8 r]
   |true=>
    simp only
    cases hop:opA P cmp call o s.tmps s.heap with
    |none=>rfl
    |some q=>cases q with
     |val v f=>simp only[qci,Bool.not_false,Bool.true_or,if_true,qf8 r]
     |pan v f=>rfl
theorem qkd {lim:Nat} {ops:List Oper}:∀(l:List Oper) (j:Nat) (s:St),ops.drop j=l→opsB P cmp call true lim ops j l s=opsX P cmp call lim ops (List.range' j l.length) s
 |[],j,s,_=>by simp[opsB,opsX]
 |o::r,j,s,h=>by
  have hj:ops[j]? =some o:=by
   have:=congrArg (fun q=>q[0]?) h
   simpa using this
  have hr:ops.drop (j+1)=r:=by rw[←List.drop_drop,h];rfl
  unfold opsB
  simp only[List.length_cons,List.range'_succ,opsX,qay,panD,hj]
  cases qap ops o s.tmps with
  |none=>rfl
  |some b=>
   cases b with
   |false=>simp only[qkd r (j+1) _ hr]
   |true=>
    simp only
    cases hop:opA P cmp call o s.tmps s.heap with
    |none=>rfl
    |some q=>cases q with
     |val v f=>
      simp only[qci,Bool.not_true,Bool.false_or,qkd r (j+1) _ hr]
      split<;>rfl
     |pan v f=>rfl
theorem qmm:∀(c:Code) (s:St),qb9 c=true→qak P cmp call lp c s=qar P cmp call lp c s:=by
 intro c
 induction c with
 |skip=>intro s _;rfl
 |region id ops dr=>
  intro s h
  cases dr with
  |false=>simp only[qak,qar,qf8]
  |true=>
   simp only[qak,qar]
   simp only[qb9]at h
   rw[if_pos h,qkd ops.toList 0 s List.drop_zero,List.range_eq_range']
   rfl
 |seq a b iha ihb=>
  intro s h
  simp only[qb9,wb]at h
  have hb:qak P cmp call lp b=qar P cmp call lp b:=funext fun s=>ihb s h.2
  rw[sim_seq,iha s h.1,hb];rfl
 |cond c a b iha ihb=>
  intro s h
  simp only[qb9,wb]at h
  have ha:qak P cmp call lp a=qar P cmp call lp a:=funext fun s=>iha s h.1
  have hb:qak P cmp call lp b=qar P cmp call lp b:=funext fun s=>ihb s h.2
  rw[sim_cond,ha,hb];rfl
 |block id b ih=>intro s h;rw[sim_block,ih s h];rfl
 |loop b ih=>
  intro s h
  have hb:qak P cmp call lp b=qar P cmp call lp b:=funext fun s=>ih s h
  rw[sim_loop,hb];rfl
 |rangeFunc=>intro s _;rfl
 |exit id=>intro s _;rfl
 |scope=>intro s _;rfl
 |label=>intro s _;rfl
 |goto=>intro s _;rfl
 |ret=>intro s _;rfl
 |refuse=>intro s _;rfl
theorem evC_fn {ext:Ext} {f:FuncId} {fn:Func} {c:Code} (hx:ext f=none) (hf:P.funcs[f]? =some fn) (hb:fn.body=some c) (hd:qb9 c=true) (a:List AVal) (h:qaa):
 evC P cmp ext f a h=fin P h.length fn.results.toList (qar P cmp (evC P cmp ext) lpC c ⟨a++List.replicate (fn.ntmps-a.length) .undef,h,[]⟩):=by
 rw[evC_eq hx]
 unfold fnA
 simp only[hf,hb]
 rw[qmm c _ hd]
 cases qar P cmp (evC P cmp ext) lpC c ⟨a++List.replicate (fn.ntmps-a.length) .undef,h,[]⟩with
 |none=>rfl
 |some x=>obtain⟨ex,s⟩:=x;cases ex<;>rfl
theorem b_skip (s:St):qar P cmp call lp .skip s=some (.normal,s):=rfl
theorem b_exit (id:Nat) (s:St):qar P cmp call lp (.exit id) s=some (.exit id,s):=rfl
theorem b_ret (s:St):qar P cmp call lp .ret s=some (.ret,s):=rfl
theorem b_region (id:Nat) (ops:Array Oper) (s:St):qar P cmp call lp (.region id ops false) s=opsB P cmp call false 0 ops.toList 0 ops.toList s:=by simp only[qar,qf8]
theorem b_drawn (id:Nat) (ops:Array Oper) (s:St):qar P cmp call lp (.region id ops true) s=opsB P cmp call true s.heap.length ops.toList 0 ops.toList s:=rfl
theorem b_seq (a b:Code) (s:St):qar P cmp call lp (.seq a b) s=qiz (qar P cmp call lp a s) (qar P cmp call lp b):=rfl
theorem b_cond (c:Operand) (a b:Code) (s:St):qar P cmp call lp (.cond c a b) s=condS (qab c s.tmps) (qar P cmp call lp a) (qar P cmp call lp b) s:=rfl
theorem b_block (id:Nat) (b:Code) (s:St):qar P cmp call lp (.block id b) s=qed id (qar P cmp call lp b s):=rfl
theorem b_loop (b:Code) (s:St):qar P cmp call lp (.loop b) s=lp (qar P cmp call lp b) s:=rfl
theorem b_nil (dr:Bool) (lim j:Nat) (ops:List Oper) (s:St):opsB P cmp call dr lim ops j [] s=some (.normal,s):=rfl
theorem b_cons (dr:Bool) (lim j:Nat) (ops:List Oper) (dst:Option Tmp) (op:Op) (t:TypeId) (pos:String) (after:Array Edge) (r:List Oper) (s:St):
 opsB P cmp call dr lim ops j ({ dst,op,type:=t,pos,after,guard:=none }::r) s=
  qci dr (qf4 ops j) (fun f=>askD lim ops j { dst,op,type:=t,pos,after,guard:=none } s f) (opA P cmp call { dst,op,type:=t,pos,after,guard:=none } s.tmps s.heap) dst s (opsB P cmp call dr lim ops (j+1) r):=by
 rw[opsB];rfl
def wantB (w:Option Bool) (a b:St→Option (AEx×St)) (s:St):Option (AEx×St):=match w with
 |some true=>a s
 |some false=>b s
 |none=>none
theorem qsu (a b:St→Option (AEx×St)) (s:St):wantB (some true) a b s=a s:=rfl
theorem qrm (a b:St→Option (AEx×St)) (s:St):wantB (some false) a b s=b s:=rfl
def goB (P:Program) (cmp:List TypeId) (call:Call) (dr:Bool) (lim j:Nat) (ops:List Oper) (o:Oper) (r:List Oper) (s:St):Option (AEx×St):=
 qci dr (qf4 ops j) (fun f=>askD lim ops j o s f) (opA P cmp call o s.tmps s.heap) o.dst s (opsB P cmp call dr lim ops (j+1) r)
def skB (P:Program) (cmp:List TypeId) (call:Call) (dr:Bool) (lim j:Nat) (ops:List Oper) (dst:Option Tmp) (r:List Oper) (s:St):Option (AEx×St):=
 opsB P cmp call dr lim ops (j+1) r ⟨setT s.tmps dst .undef,s.heap,s.dirty⟩
theorem b_go (dr:Bool) (lim j:Nat) (ops r:List Oper) (o:Oper) (s:St):goB P cmp call dr lim j ops o r s=qci dr (qf4 ops j) (fun f=>askD lim ops j o s f) (opA P cmp call o s.tmps s.heap) o.dst s (opsB P cmp call dr lim ops (j+1) r):=rfl
theorem b_sk (dr:Bool) (lim j:Nat) (ops r:List Oper) (dst:Option Tmp) (s:St):skB P cmp call dr lim j ops dst r s=opsB P cmp call dr lim ops (j+1) r ⟨setT s.tmps dst .undef,s.heap,s.dirty⟩:=rfl
theorem b_consG (dr:Bool) (lim j:Nat) (ops:List Oper) (dst:Option Tmp) (op:Op) (t:TypeId) (pos:String) (after:Array Edge) (g:Nat) (w:Bool) (r:List Oper) (s:St):
 opsB P cmp call dr lim ops j ({ dst,op,type:=t,pos,after,guard:=some (g,w) }::r) s=
  wantB (qkc ops g w s.tmps) (goB P cmp call dr lim j ops { dst,op,type:=t,pos,after,guard:=some (g,w) } r) (skB P cmp call dr lim j ops dst r) s:=by
 rw[opsB]
 have:qap ops { dst,op,type:=t,pos,after,guard:=some (g,w) } s.tmps=qkc ops g w s.tmps:=by
  simp only[qap,qkc]
  cases ops[g]? with
  |none=>rfl
  |some oj=>simp only[bnd];cases oj.dst with
   |none=>rfl
   |some d=>simp only;cases s.tmps[d]? with
    |none=>rfl
    |some v=>cases v<;>rfl
 rw[this]
 cases qkc ops g w s.tmps with
 |none=>rfl
 |some b=>cases b<;>rfl
theorem stepB_val (pk:Bool) (ask:Eff→Bool) (v:AVal) (d:Tmp) (ts:List AVal) (h:qaa) (dd:List Nat) (k:St→Option (AEx×St)):qci false pk ask (some (.val v .same)) (some d) ⟨ts,h,dd⟩ k=k ⟨ts.set d v,h,dd⟩:=rfl
theorem qsv (pk:Bool) (ask:Eff→Bool) (v:AVal) (ts:List AVal) (h:qaa) (dd:List Nat) (k:St→Option (AEx×St)):qci false pk ask (some (.val v .same)) none ⟨ts,h,dd⟩ k=k ⟨ts,h,dd⟩:=rfl
theorem qsw (pk:Bool) (ask:Eff→Bool) (v:AVal) (d:Tmp) (ts:List AVal) (h h':qaa) (dd d':List Nat) (k:St→Option (AEx×St)):qci false pk ask (some (.val v (.heap h' d'))) (some d) ⟨ts,h,dd⟩ k=k ⟨ts.set d v,h',d'++dd⟩:=rfl
theorem qrn (pk:Bool) (ask:Eff→Bool) (v:AVal) (ts:List AVal) (h h':qaa) (dd d':List Nat) (k:St→Option (AEx×St)):qci false pk ask (some (.val v (.heap h' d'))) none ⟨ts,h,dd⟩ k=k ⟨ts,h',d'++dd⟩:=rfl
theorem stepB_pan (pk:Bool) (ask:Eff→Bool) (v:AVal) (d:Option Tmp) (ts:List AVal) (h:qaa) (dd:List Nat) (k:St→Option (AEx×St)):qci false pk ask (some (.pan v .same)) d ⟨ts,h,dd⟩ k=some (.pan v,⟨ts,h,dd⟩):=rfl
def ifB (b:Bool) (x:Option (AEx×St)):Option (AEx×St):=if b then x else none
theorem ifB_true (x:Option (AEx×St)):ifB true x=x:=rfl
theorem stepD_val (pk:Bool) (ask:Eff→Bool) (v:AVal) (d:Tmp) (ts:List AVal) (h:qaa) (dd:List Nat) (k:St→Option (AEx×St)):qci true pk ask (some (.val v .same)) (some d) ⟨ts,h,dd⟩ k=ifB (ask .same) (k ⟨ts.set d v,h,dd⟩):=rfl
theorem qsx (pk:Bool) (ask:Eff→Bool) (v:AVal) (ts:List AVal) (h:qaa) (dd:List Nat) (k:St→Option (AEx×St)):qci true pk ask (some (.val v .same)) none ⟨ts,h,dd⟩ k=ifB (ask .same) (k ⟨ts,h,dd⟩):=rfl
theorem qsy (pk:Bool) (ask:Eff→Bool) (v:AVal) (d:Tmp) (ts:List AVal) (h h':qaa) (dd d':List Nat) (k:St→Option (AEx×St)):qci true pk ask (some (.val v (.heap h' d'))) (some d) ⟨ts,h,dd⟩ k=ifB (ask (.heap h' d')) (k ⟨ts.set d v,h',d'++dd⟩):=rfl
theorem qro (pk:Bool) (ask:Eff→Bool) (v:AVal) (ts:List AVal) (h h':qaa) (dd d':List Nat) (k:St→Option (AEx×St)):qci true pk ask (some (.val v (.heap h' d'))) none ⟨ts,h,dd⟩ k=ifB (ask (.heap h' d')) (k ⟨ts,h',d'++dd⟩):=rfl
theorem fin_ret (n:Nat) (rs:List ResultVar) (s:St):fin P n rs (some (.ret,s))=bnd (resA P rs s) fun vs=>some (.ret (qaq n (qb0 vs) s.heap s.dirty).1 (qaq n (qb0 vs) s.heap s.dirty).2):=by
 simp only[fin];cases resA P rs s<;>rfl
theorem qsz (n:Nat) (rs:List ResultVar) (s:St):fin P n rs (some (.normal,s))=bnd (resA P rs s) fun vs=>some (.ret (qaq n (qb0 vs) s.heap s.dirty).1 (qaq n (qb0 vs) s.heap s.dirty).2):=by
 simp only[fin];cases resA P rs s<;>rfl
theorem fin_pan (n:Nat) (rs:List ResultVar) (v:AVal) (s:St):fin P n rs (some (.pan v,s))=some (.pan (qaq n v s.heap s.dirty).1 (qaq n v s.heap s.dirty).2):=rfl
theorem res_nil (s:St):resA P [] s=some []:=rfl
theorem res_tmp (t:Tmp) (r:List ResultVar) (s:St):resA P (.tmp t::r) s=bnd s.tmps[t]? fun a=>bnd (resA P r s) fun l=>some (a::l):=by
 simp only[resA]
 cases s.tmps[t]? with
 |none=>rfl
 |some a=>cases resA P r s<;>rfl
theorem res_cell (a:Tmp) (t:TypeId) (r:List ResultVar) (s:St):resA P (.cell a t::r) s=bnd s.tmps[a]? fun p=>bnd (qck P s.heap t p) fun a=>bnd (resA P r s) fun l=>some (a::l):=by
 simp only[resA]
 cases s.tmps[a]? with
 |none=>rfl
 |some p=>simp only[bnd];cases qck P s.heap t p with
  |none=>rfl
  |some v=>cases resA P r s<;>rfl
theorem qbr (v:AVal) (h:qaa) (d:List Nat) (hr:refs (strip3 v)=[]):(qaq 0 v h d).1=strip3 v:=by rw[qcx v h d hr]
theorem qbs (v:AVal) (h:qaa) (d:List Nat) (hr:refs (strip3 v)=[]):(qaq 0 v h d).2= .same:=by rw[qcx v h d hr]
end
end Go.Ab
