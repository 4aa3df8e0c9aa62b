/- Code without the checks of the order (they are made once, for the whole text). -/
import Derived.Test.YtlfollkhlephmaaGreatDoorAbLim
set_option linter.unusedSimpArgs false
set_option linter.unusedVariables false
set_option maxRecDepth 100000
set_option maxHeartbeats 4000000
open Bool renaming false_eq_true→wa,and_eq_true→wb
namespace Go.Ab
section
variable {P:Program} {cmp:List TypeId} {call:Call} {lp:Lp}
def qhr (r:Option (AEx×St)) (k:St→Option (AEx×St)):Option (AEx×St):=match r with
 |some (.normal,s')=>k s'
 |r=>r
def qdz (id:Nat) (r:Option (AEx×St)):Option (AEx×St):=match r with
 |some (.exit j,s')=>if j=id then some (.normal,s')else some (.exit j,s')
 |r=>r
def condS (r:Option AVal) (a b:St→Option (AEx×St)) (s:St):Option (AEx×St):=match r with
 |some (.bool true)=>a s
 |some (.bool false)=>b s
 |_=>none
theorem sim_seq (a b:Code) (s:St):qag P cmp call lp (.seq a b) s=qhr (qag P cmp call lp a s) (qag P cmp call lp b):=rfl
theorem sim_cond (c:Operand) (a b:Code) (s:St):qag P cmp call lp (.cond c a b) s=condS (qab c s.tmps) (qag P cmp call lp a) (qag P cmp call lp b) s:=rfl
theorem sim_block (id:Nat) (b:Code) (s:St):qag P cmp call lp (.block id b) s=qdz id (qag P cmp call lp b s):=rfl
theorem sim_loop (b:Code) (s:St):qag P cmp call lp (.loop b) s=lp (qag P cmp call lp b) s:=rfl
theorem qnr (s:St) (k:St→Option (AEx×St)):qhr (some (.normal,s)) k=k s:=rfl
theorem bindS_ret (s:St) (k:St→Option (AEx×St)):qhr (some (.ret,s)) k=some (.ret,s):=rfl
theorem qpv (i:Nat) (s:St) (k:St→Option (AEx×St)):qhr (some (.exit i,s)) k=some (.exit i,s):=rfl
theorem bindS_pan (v:AVal) (s:St) (k:St→Option (AEx×St)):qhr (some (.pan v,s)) k=some (.pan v,s):=rfl
theorem qmv (i:Nat) (s:St):qdz i (some (.normal,s))=some (.normal,s):=rfl
theorem qpw (i:Nat) (s:St):qdz i (some (.ret,s))=some (.ret,s):=rfl
theorem qor (i:Nat) (s:St):qdz i (some (.exit i,s))=some (.normal,s):=by simp[qdz]
theorem qns (i j:Nat) (s:St) (h:(j==i)=false):qdz i (some (.exit j,s))=some (.exit j,s):=by simp at h;simp[qdz,h]
theorem qpx (i:Nat) (v:AVal) (s:St):qdz i (some (.pan v,s))=some (.pan v,s):=rfl
theorem qpy (a b:St→Option (AEx×St)) (s:St):condS (some (.bool true)) a b s=a s:=rfl
theorem qos (a b:St→Option (AEx×St)) (s:St):condS (some (.bool false)) a b s=b s:=rfl
end
def valO (x:Option AVal):Option OR:=match x with|some a=>some (.val a .same)|none=>none
theorem valO_some (a:AVal):valO (some a)=some (.val a .same):=rfl
def bnd {α β:Type} (x:Option α) (k:α→Option β):Option β:=match x with|some a=>k a|none=>none
theorem bnd_some {α β:Type} (a:α) (k:α→Option β):bnd (some a) k=k a:=rfl
theorem bnd_none {α β:Type} (k:α→Option β):bnd none k=none:=rfl
def retO (r:Option CR):Option OR:=match r with|some r=>some (qg1 r)|none=>none
theorem retO_ret (v:AVal) (e:Eff):retO (some (.ret v e))=some (.val v e):=rfl
def qfd (P:Program) (t:TypeId) (i:Nat):Option (Nat×Nat):=match P.underlying t with
 |some (.struct fs)=>(match fs[i]? with|some f=>(qah P f.type).map fun s=>(f.offset,s)|none=>none)
 |some (.array _ e)=>(match qah P e with|some s=>some (i*s,s)|none=>none)
 |_=>none
def bok (P:Program) (t:TypeId):Bool:=match P.underlying t with
 |some (.struct fs)=>fs.all fun f=>(P.info? f.type).isSome
 |some (.array _ e)=>(qah P e).isSome
 |_=>false
def qhs (P:Program) (u:Option TypeDesc) (a b:AVal):Option OR:=match u,a,b with
 |some (.slice e),.slice es _,.int _ n=>(match es[n.toNat]?,qah P e with
  |some cs,some s=>if 0≤n && cs.length==s then some (.val (.eptr cs 0) .same)else none
  |_,_=>none)
 |some (.slice e),.ms es b k m,.int _ n=>(match qah P e with
  |some s=>if 0≤n && n<m then(match es[n.toNat]? with
   |some cs=>if cs.length==s then some (.val (.eptr cs 0) .same)else none
   |none=>some (.val (.mptr b (n.toNat*s) k) .same))else none
  |none=>none)
 |some (.array len e),.ptr b o,.int _ n=>(match qah P e with
  |some s=>if 0≤n && n<len then some (.val (.ptr b (o+n.toNat*s)) .same)else none
  |none=>none)
 |_,_,_=>none
def indexA (P:Program) (u:Option TypeDesc) (a b:AVal):Option OR:=match u,a,b with
 |some .string,.str s,.int _ n=>(match s[n.toNat]? with
  |some b=>if 0≤n then some (.val (.int .u8 b.toNat) .same)else none
  |none=>none)
 |some (.array len e),.agg cs,.int _ n=>(match qah P e with
  |some s=>if 0≤n && n<len then valO (qbp P e cs (n.toNat*s))else none
  |none=>none)
 |_,_,_=>none
def lenA (u:Option TypeDesc) (a:AVal):Option OR:=match a,u with
 | .str s,some .string=>if s.length≤qfq then some (.val (.int .i64 s.length) .same)else none
 | .slice es _,some (.slice _)=>some (.val (.int .i64 es.length) .same)
 | .ms _ _ _ m,some (.slice _)=>some (.val (.int .i64 m) .same)
 |_,_=>none
section
variable (P:Program) (cmp:List TypeId) (call:Call) (dst:Option Tmp) (ty:TypeId) (pos:String) (after:Array Edge) (gd:Option (Nat×Bool)) (ts:List AVal) (h:qaa)
theorem op_move (x:Operand):opA P cmp call ⟨dst,.move x,ty,pos,after,gd⟩ ts h=valO (qab x ts):=rfl
theorem op_assign (x:Operand):opA P cmp call ⟨dst,.assign x,ty,pos,after,gd⟩ ts h=valO (qab x ts):=rfl
theorem op_alloc (t:TypeId):opA P cmp call ⟨dst,.alloc t,ty,pos,after,gd⟩ ts h=bnd (qap P t) fun z=>some (.val (.ptr h.length 0) (.heap (h++[.box z.cells]) [])):=by
 simp only[opA];cases qap P t<;>rfl
theorem op_box (t:TypeId) (x:Operand):opA P cmp call ⟨dst,.box t x,ty,pos,after,gd⟩ ts h=bnd (qab x ts) fun a=>some (.val (.ptr h.length 0) (.heap (h++[.box a.cells]) [])):=by
 simp only[opA];cases qab x ts<;>rfl
theorem op_load (t:TypeId) (x:Operand):opA P cmp call ⟨dst,.load t x,ty,pos,after,gd⟩ ts h=bnd (qab x ts) fun a=>valO (qb9 P h t a):=by
 simp only[opA]
 cases hc:qab x ts with
 |none=>rfl
 |some a=>simp only[bnd];cases qb9 P h t a<;>rfl
theorem op_store (t:TypeId) (a x:Operand):opA P cmp call ⟨dst,.store t a x,ty,pos,after,gd⟩ ts h=
 bnd (qab a ts) fun p=>bnd (qab x ts) fun v=>bnd (qbk P h t p v) fun q=>some (.val .undef (.heap q.1 [q.2])):=by
 simp only[opA]
 cases ha:qab a ts with
 |none=>rfl
 |some p=>cases hx:qab x ts with
  |none=>rfl
  |some v=>simp only[bnd];cases qbk P h t p v<;>rfl
theorem qot (x:Operand):opA P cmp call ⟨dst,.nilCheck x,ty,pos,after,gd⟩ ts h=bnd (qab x ts) fun a=>match a with
 | .ptr b o=>some (.val (.ptr b o) .same)| .eptr cs o=>some (.val (.eptr cs o) .same)| .mptr b o n=>some (.val (.mptr b o n) .same)| .func f p q=>some (.val (.func f p q) .same)|_=>none:=by
 simp only[opA]
 cases hc:qab x ts with
 |none=>rfl
 |some a=>cases a<;>rfl
theorem op_binOp (op:BinOp) (t t2:TypeId) (x y:Operand):opA P cmp call ⟨dst,.binOp op t x y t2,ty,pos,after,gd⟩ ts h=
 bnd (qab x ts) fun a=>bnd (qab y ts) fun b=>valO (binA P cmp op t (qbl x||qbl y) a b):=by
 simp only[opA]
 cases ha:qab x ts with
 |none=>rfl
 |some a=>cases hy:qab y ts with
  |none=>rfl
  |some b=>simp only[bnd];cases binA P cmp op t (qbl x||qbl y) a b<;>rfl
theorem op_unOp (op:UnOp) (t:TypeId) (x:Operand):opA P cmp call ⟨dst,.unOp op t x,ty,pos,after,gd⟩ ts h=bnd (qab x ts) fun a=>valO (unA op a):=by
 simp only[opA]
 cases hc:qab x ts with
 |none=>rfl
 |some a=>simp only[bnd];cases unA op a<;>rfl
theorem qpz (s d:TypeId) (x:Operand):opA P cmp call ⟨dst,.convert s d x,ty,pos,after,gd⟩ ts h=bnd (qab x ts) fun a=>valO (qi6 P s d a):=by
 simp only[opA]
 cases hc:qab x ts with
 |none=>rfl
 |some a=>simp only[bnd];cases qi6 P s d a<;>rfl
theorem op_pick (c x y:Operand):opA P cmp call ⟨dst,.pick c x y,ty,pos,after,gd⟩ ts h=bnd (qab c ts) fun b=>match b with
 | .bool true=>valO (qab x ts)| .bool false=>valO (qab y ts)|_=>none:=by
 simp only[opA]
 cases hc:qab c ts with
 |none=>rfl
 |some a=>
  cases a<;>try rfl
  rename_i b;cases b<;>rfl
theorem qnt (t:TypeId) (x:Operand) (f:Nat):opA P cmp call ⟨dst,.fieldAddr t x f,ty,pos,after,gd⟩ ts h=
 bnd (qa4 P t f) fun p=>bnd (qab x ts) fun a=>match a with
  | .ptr b o=>some (.val (.ptr b (o+p.1)) .same)| .eptr cs o=>some (.val (.eptr cs (o+p.1)) .same)| .mptr b o n=>some (.val (.mptr b (o+p.1) n) .same)|_=>none:=by
 simp only[opA]
 cases hf:qa4 P t f with
 |none=>rfl
 |some p=>
  obtain⟨a,b⟩:=p
  cases hc:qab x ts with
  |none=>rfl
  |some v=>cases v<;>rfl
theorem op_field (t:TypeId) (x:Operand) (f:Nat):opA P cmp call ⟨dst,.field t x f,ty,pos,after,gd⟩ ts h=
 bnd (qa4 P t f) fun p=>bnd (qab x ts) fun a=>match a with| .agg cs=>valO (qbp P p.2 cs p.1)|_=>none:=by
 simp only[opA]
 cases hf:qa4 P t f with
 |none=>rfl
 |some p=>
  obtain⟨a,b⟩:=p
  cases hc:qab x ts with
  |none=>rfl
  |some v=>cases v<;>rfl
theorem op_callF (f:FuncId) (args:Array Operand) (ats:Array TypeId):opA P cmp call ⟨dst,.call { callee:= .value (.func f),args,argTypes:=ats },ty,pos,after,gd⟩ ts h=
 bnd (qal ts args.toList) fun as=>retO (qba call h f (as.map argA)):=by
 simp only[opA,qab]
 cases qal ts args.toList with
 |none=>rfl
 |some as=>simp only[List.nil_append,List.append_nil];rfl
theorem op_callV (t:Tmp) (args:Array Operand) (ats:Array TypeId):opA P cmp call ⟨dst,.call { callee:= .value (.tmp t),args,argTypes:=ats },ty,pos,after,gd⟩ ts h=
 bnd (ts[t]?) fun f=>bnd (qal ts args.toList) fun as=>match f with| .func g first cap=>retO (qba call h g (first++as.map argA++cap))|_=>none:=by
 simp only[opA,qab]
 cases hc:ts[t]? with
 |none=>rfl
 |some v=>
  cases qal ts args.toList with
  |none=>cases v<;>rfl
  |some as=>cases v<;>rfl
def lenH (h:qaa):Option TypeDesc→AVal→Option OR
 |some (.map ..),.mref b=>(match qfr h b with|some a=>some (.val a .same)|none=>none)
 |some (.map ..),.nilm=>some (.val (.int .i64 0) .same)
 |u,a=>lenA u a
theorem op_len (x:Operand) (t:TypeId):opA P cmp call ⟨dst,.call { callee:= .builtin .len,args:= #[x],argTypes:= #[t] },ty,pos,after,gd⟩ ts h=
 bnd (qab x ts) fun a=>lenH h (P.underlying t) a:=by
 simp only[opA,qal]
 have h0:(#[t]:Array TypeId)[0]? =some t:=rfl
 simp only[h0]
 cases hc:qab x ts with
 |none=>rfl
 |some v=>
  simp only[bnd]
  cases hu:P.underlying t with
  |none=>cases v<;>rfl
  |some d=>cases d<;>cases v<;>rfl
theorem op_append (x y:Operand) (t:TypeId):opA P cmp call ⟨dst,.call { callee:= .builtin .append,args:= #[x,y],argTypes:= #[t,t] },ty,pos,after,gd⟩ ts h=
 bnd (qab x ts) fun a=>bnd (qab y ts) fun b=>bnd (qbf P (bigM cmp) h t a b) fun q=>some (.val q.1 q.2):=by
 simp only[opA,qal]
 have h0:(#[t,t]:Array TypeId)[0]? =some t:=rfl
 have h1:(#[t,t]:Array TypeId)[1]? =some t:=rfl
 simp only[h0,h1]
 cases hc:qab x ts with
 |none=>rfl
 |some a=>cases hy:qab y ts with
  |none=>rfl
  |some b=>
   simp only[bnd]
   cases ha:qbf P (bigM cmp) h t a b with
   |none=>simp
   |some q=>simp
theorem qnu (t:TypeId) (ps:Array (Nat×Operand)) (z:List AVal) (hz:qap P t=some (.agg z)) (hb:bok P t=true):opA P cmp call ⟨dst,.build t ps,ty,pos,after,gd⟩ ts h=
 bnd (qar ts ps.toList) fun us=>valO ((qa2 (qfd P t) z us).map .agg):=by
 simp only[opA,hz]
 unfold bok at hb
 cases hu:P.underlying t with
 |none=>rw[hu]at hb;cases hb
 |some d=>
  rw[hu]at hb
  cases hp:qar ts ps.toList with
  |none=>cases d<;>rfl
  |some us=>
   cases d<;>first|(cases hb;done)|skip
   ·rename_i n e
    obtain⟨s,hs⟩:=Option.isSome_iff_exists.1 hb
    have:qfd P t=fun i=>some (i*s,s):=by funext i;simp[qfd,hu,hs]
    simp only[bnd,this,hs];rfl
   ·rename_i fs
    have:qfd P t=fun i=>match fs[i]? with|some f=>(qah P f.type).map fun s=>(f.offset,s)|none=>none:=by funext i;simp[qfd,hu]
    simp only[bnd,this,hb,if_true];rfl
theorem qnv (t:TypeId) (x i:Operand):opA P cmp call ⟨dst,.indexAddr t x i,ty,pos,after,gd⟩ ts h=
 bnd (qab x ts) fun a=>bnd (qab i ts) fun b=>qhs P (P.underlying t) a b:=by
 simp only[opA]
 cases hx:qab x ts with
 |none=>cases P.underlying t with
  |none=>rfl
  |some d=>cases d<;>rfl
 |some a=>cases hi:qab i ts with
  |none=>cases P.underlying t with
   |none=>rfl
   |some d=>cases d<;>cases a<;>rfl
  |some b=>cases hu:P.underlying t with
   |none=>rfl
   |some d=>cases d<;>cases a<;>cases b<;>rfl
theorem op_index (t:TypeId) (x i:Operand):opA P cmp call ⟨dst,.index t x i,ty,pos,after,gd⟩ ts h=
 bnd (qab x ts) fun a=>bnd (qab i ts) fun b=>indexA P (P.underlying t) a b:=by
 simp only[opA]
 cases hx:qab x ts with
 |none=>cases P.underlying t with
  |none=>rfl
  |some d=>cases d<;>rfl
 |some a=>cases hi:qab i ts with
  |none=>cases P.underlying t with
   |none=>rfl
   |some d=>cases d<;>cases a<;>rfl
  |some b=>cases hu:P.underlying t with
   |none=>rfl
   |some d=>
    cases d<;>cases a<;>cases b<;>rfl
theorem op_slice (t:TypeId) (x:Operand) (lo hi mx:Option Operand):opA P cmp call ⟨dst,.slice t x lo hi mx,ty,pos,after,gd⟩ ts h=
 bnd (qab x ts) fun a=>bnd (optA ts lo) fun l=>bnd (optA ts hi) fun u=>bnd (optA ts mx) fun m=>valO (qgm P t a l u m):=by
 simp only[opA]
 cases qab x ts with
 |none=>rfl
 |some a=>cases optA ts lo with
  |none=>rfl
  |some l=>cases optA ts hi with
   |none=>rfl
   |some u=>cases optA ts mx with
    |none=>rfl
    |some m=>simp only[bnd];cases qgm P t a l u m<;>rfl
theorem qmw (t:TypeId) (n:Nat) (ps:Array (Nat×Operand)) (e s:Nat) (z:AVal) (he:qc2 P t=some e) (hs:qah P e=some (s+1)) (hz:qap P e=some z)
 (hn:(n*(s+1)≤65536 && z.cells.length==s+1)=true) (hna:(decide (0<s) && ps.toList.any (fun x=>isAgg0 x.2))=false):opA P cmp call ⟨dst,.buildSlice t n ps,ty,pos,after,gd⟩ ts h=
 bnd (qar ts ps.toList) fun us=>bnd (qa2 (fun i=>some (i*(s+1),s+1)) (List.replicate n z.cells).flatten us) fun cs=>bnd (qbz (chop (s+1) n cs)) fun es=>some (.val (.slice es .full) .same):=by
 simp only[opA,he,hs,hz]
 cases qar ts ps.toList with
 |none=>rfl
 |some us=>
  simp only[bnd]
  rw[if_pos hn]
  cases qa2 (fun i=>some (i*(s+1),s+1)) (List.replicate n z.cells).flatten us with
  |none=>rfl
  |some cs=>simp only[hna,Bool.and_false,wa,if_false];cases qbz (chop (s+1) n cs)<;>rfl
theorem qnw (t:TypeId) (x y:Operand):opA P cmp call ⟨dst,.makeSlice t x y,ty,pos,after,gd⟩ ts h=
 bnd (qab x ts) fun a=>bnd (qab y ts) fun b=>bnd (qc3 P h t a b) fun q=>some (.val q.1 q.2):=by
 simp only[opA]
 cases qab x ts with
 |none=>rfl
 |some a=>cases qab y ts with
  |none=>rfl
  |some b=>simp only[bnd];cases qc3 P h t a b<;>rfl
theorem qp0 (t:TypeId):opA P cmp call ⟨dst,.makeMap t none,ty,pos,after,gd⟩ ts h=some (.val (.mref h.length) (.heap (h++[.map [] []]) [])):=rfl
theorem op_lookup (t:TypeId) (x y:Operand) (ok:Bool):opA P cmp call ⟨dst,.lookup t x y ok,ty,pos,after,gd⟩ ts h=
 bnd (qab x ts) fun a=>bnd (qab y ts) fun b=>valO (qcw P h t a b ok):=by
 simp only[opA]
 cases qab x ts with
 |none=>rfl
 |some a=>cases qab y ts with
  |none=>rfl
  |some b=>simp only[bnd];cases qcw P h t a b ok<;>rfl
theorem qnx (t:TypeId) (m x y:Operand):opA P cmp call ⟨dst,.mapUpdate t m x y,ty,pos,after,gd⟩ ts h=
 bnd (qab m ts) fun p=>bnd (qab x ts) fun a=>bnd (qab y ts) fun b=>bnd (qdd P h t p a b) fun q=>some (.val .undef (.heap q.1 [q.2])):=by
 simp only[opA]
 cases qab m ts with
 |none=>rfl
 |some p=>cases qab x ts with
  |none=>rfl
  |some a=>cases qab y ts with
   |none=>rfl
   |some b=>simp only[bnd];cases qdd P h t p a b<;>rfl
theorem op_insert (t:TypeId) (m x y:Operand):opA P cmp call ⟨dst,.insert t m x y,ty,pos,after,gd⟩ ts h=
 bnd (qab m ts) fun p=>bnd (qab x ts) fun a=>bnd (qab y ts) fun b=>bnd (qdd P h t p a b) fun q=>some (.val .undef (.heap q.1 [q.2])):=by
 simp only[opA]
 cases qab m ts with
 |none=>rfl
 |some p=>cases qab x ts with
  |none=>rfl
  |some a=>cases qab y ts with
   |none=>rfl
   |some b=>simp only[bnd];cases qdd P h t p a b<;>rfl
theorem apX_one (t:TypeId):bigM [t]=false:=rfl
theorem apX_full (es fs:List (List AVal)) (tk:Tk) (t:TypeId):qlo P h t (.slice es tk) (.slice fs .full)=qbu P h t (.slice es tk) (.slice fs .full):=rfl
theorem apX_free (es fs:List (List AVal)) (tk:Tk) (t:TypeId):qlo P h t (.slice es tk) (.slice fs .free)=qbu P h t (.slice es tk) (.slice fs .free):=rfl
theorem apX_own (es fs:List (List AVal)) (tk:Tk) (t:TypeId) (b:Nat):qlo P h t (.slice es tk) (.slice fs (.own b))=qbu P h t (.slice es tk) (.slice fs (.own b)):=rfl
theorem qou (f:FuncId) (a c:Array Operand):opA P cmp call ⟨dst,.makeFunc (.func f) a c,ty,pos,after,gd⟩ ts h=
 bnd (qal ts a.toList) fun u=>bnd (qal ts c.toList) fun v=>some (.val (.func f u v) .same):=by
 simp only[opA]
 cases qal ts a.toList with
 |none=>rfl
 |some u=>cases qal ts c.toList<;>rfl
theorem qp1 (x:Operand) (i:Nat):opA P cmp call ⟨dst,.extract x i,ty,pos,after,gd⟩ ts h=
 bnd (qab x ts) fun a=>match a with| .tuple vs=>valO vs[i]? |_=>none:=by
 simp only[opA]
 cases qab x ts with
 |none=>rfl
 |some a=>cases a<;>rfl
theorem op_max (x y:Operand) (t t':TypeId):opA P cmp call ⟨dst,.call { callee:= .builtin .max,args:= #[x,y],argTypes:= #[t,t'] },ty,pos,after,gd⟩ ts h=
 bnd (qab x ts) fun a=>bnd (qab y ts) fun b=>valO (maxA [a,b]):=by
 simp only[opA,qal]
 cases hc:qab x ts<;>cases hc':qab y ts<;>simp only[bnd]<;>rfl
theorem op_min (x y:Operand) (t t':TypeId):opA P cmp call ⟨dst,.call { callee:= .builtin .min,args:= #[x,y],argTypes:= #[t,t'] },ty,pos,after,gd⟩ ts h=
 bnd (qab x ts) fun a=>bnd (qab y ts) fun b=>valO (minA [a,b]):=by
 simp only[opA,qal]
 cases hc:qab x ts<;>cases hc':qab y ts<;>simp only[bnd]<;>rfl
end
end Go.Ab
namespace Go.Ab
theorem qlk (v:AVal) (h:qaa) (d:List Nat) (hr:refs (strip3 v)=[]):qav 0 v h d=(strip3 v,.same):=by
 have hd:d.filter (· <0)=[]:=by simp
 have ht:qe9 0 v h []=some (strip3 v,.same):=by
  unfold qe9
  simp only
  rw[if_pos (by unfold lowA;rw[hr];rfl)]
 simp only[qav,hd,qcu,ht]
theorem qp2 {call:Call} {g:FuncId} {args:List AVal} {v:AVal} (h:qaa) (ha:qaf args=[]) (hv:refs v=[]) (e:call g args []=some (.ret v .same)):
 qba call h g args=some (.ret v .same):=by
 unfold qba
 simp only[ha]
 have h1:qaw h 256 [] []=[]:=rfl
 simp only[h1]
 have h2:qcs h [] args=true:=by unfold qcs;rw[ha];rfl
 rw[if_pos h2]
 have h3:renL (fun x=>List.idxOf x []) args=args:=qam args (by rw[ha];simp)
 rw[h3]
 have h4:subH h []=[]:=rfl
 rw[h4,e]
 simp only[qct]
 rw[qc5 v (by rw[hv];simp)]
end Go.Ab
namespace Go.Ab
abbrev Str:=List UInt8
inductive PExpr where
 |mk (op:Int) (name:Str) (n:Int) (cons:List Str) (kids:List PExpr)
def PExpr.op:PExpr→Int| .mk op _ _ _ _=>op
def PExpr.name:PExpr→Str| .mk _ name _ _ _=>name
def PExpr.n:PExpr→Int| .mk _ _ n _ _=>n
def PExpr.cons:PExpr→List Str| .mk _ _ _ cons _=>cons
def PExpr.kids:PExpr→List PExpr| .mk _ _ _ _ kids=>kids
def qao (l:List Str):AVal:= .slice (l.map fun s=>[.str s]) .free
mutual
def PExpr.cells:PExpr→List AVal
 | .mk op name n cons kids=>[.int .i64 op,.str name,.int .i64 n,qao cons,.slice (PExpr.cellsL kids) .free]
def PExpr.cellsL:List PExpr→List (List AVal)
 |[]=>[]
 |e::r=>e.cells::PExpr.cellsL r
end
theorem qp3 (l:List PExpr):PExpr.cellsL l=l.map PExpr.cells:=by
 induction l with
 |nil=>rfl
 |cons e r ih=>simp[PExpr.cellsL,ih]
theorem PExpr.cells_eq (e:PExpr):e.cells=[.int .i64 e.op,.str e.name,.int .i64 e.n,qao e.cons,.slice (e.kids.map PExpr.cells) .free]:=by
 cases e;simp[PExpr.cells,PExpr.op,PExpr.name,PExpr.n,PExpr.cons,PExpr.kids,qp3]
structure CellsOk (n:Nat) (cs:List AVal):Prop where
 len:cs.length=n
 refs:qaf cs=[]
 strip:cs.map qas=cs
 one:cs.all oneA=true
 pure:cs.all qaq=true
theorem CellsOk.strip3 {n:Nat} {cs:List AVal} (h:CellsOk n cs):strip3 (.agg cs)= .agg cs:=by simp only[Go.Ab.strip3,Go.Ab.strip2,h.strip]
theorem CellsOk.append {n m:Nat} {a b:List AVal} (h:CellsOk n a) (k:CellsOk m b):CellsOk (n+m) (a++b):=by
 refine⟨by simp[h.len,k.len],?_,by simp[h.strip,k.strip],by simp[h.one,k.one],by simp[h.pure,k.pure]⟩
 have:∀l r:List AVal,qaf (l++r)=qaf l++qaf r:=by
  intro l r
  induction l with
  |nil=>rfl
  |cons x l ih=>simp[qaf,ih]
 rw[this,h.refs,k.refs];rfl
theorem PExpr.ok (e:PExpr):CellsOk 5 e.cells:=by
 rw[e.cells_eq]
 exact⟨rfl,rfl,rfl,rfl,rfl⟩
theorem refs_agg {n:Nat} {cs:List AVal} (h:CellsOk n cs):refs (.agg cs)=[]:=by simp only[refs,h.refs]
end Go.Ab
namespace Go.Ab
def upd:List (Nat×AVal)→List AVal→List AVal
 |[],ts=>ts
 |(k,v)::r,ts=>(upd r ts).set k v
theorem upd_nil (ts:List AVal):upd [] ts=ts:=rfl
theorem qny (k:Nat) (v:AVal) (r:List (Nat×AVal)) (ts:List AVal):upd ((k,v)::r) ts=(upd r ts).set k v:=rfl
def At (junk:List Nat) (ts0:List AVal) (H0:qaa) (w:List (Nat×AVal)) (s:St):Prop:=
 s=⟨upd (w++junk.map fun k=>(k,s.tmps.getD k .undef)) ts0,H0++s.heap.drop H0.length,s.dirty⟩
theorem At.elim {junk:List Nat} {ts0:List AVal} {H0:qaa} {w:List (Nat×AVal)} {s:St} (h:At junk ts0 H0 w s):
 ∃(j:Nat→AVal) (H:qaa) (d:List Nat),s=⟨upd (w++junk.map fun k=>(k,j k)) ts0,H0++H,d⟩:=⟨_,_,_,h⟩
theorem PExpr.len (e:PExpr):e.cells.length=5:=e.ok.len
theorem PExpr.ones (e:PExpr):e.cells.all oneA=true:=e.ok.one
theorem PExpr.strip (e:PExpr):e.cells.map qas=e.cells:=e.ok.strip
theorem PExpr.norefs (e:PExpr):qaf e.cells=[]:=e.ok.refs
theorem PExpr.get0 (e:PExpr):e.cells[0]? =some (.int .i64 e.op):=by rw[e.cells_eq];rfl
theorem PExpr.get1 (e:PExpr):e.cells[1]? =some (.str e.name):=by rw[e.cells_eq];rfl
theorem PExpr.get2 (e:PExpr):e.cells[2]? =some (.int .i64 e.n):=by rw[e.cells_eq];rfl
theorem PExpr.get3 (e:PExpr):e.cells[3]? =some (qao e.cons):=by rw[e.cells_eq];rfl
theorem PExpr.get4 (e:PExpr):e.cells[4]? =some (.slice (e.kids.map PExpr.cells) .free):=by rw[e.cells_eq];rfl
theorem PExpr.take (e:PExpr):List.take 5 e.cells=e.cells:=by rw[List.take_of_length_le];rw[e.len];exact Nat.le_refl _
theorem PExpr.set4 (e:PExpr) (v:AVal):qai e.cells 4 [v]=some [.int .i64 e.op,.str e.name,.int .i64 e.n,qao e.cons,v]:=by rw[e.cells_eq];rfl
theorem qov (l:List Str):argA (qao l)=qao l:=rfl
theorem qmx (l:List Str):(qao l).cells=[qao l]:=rfl
theorem qow (l:List Str):oneA (qao l)=true:=rfl
theorem qnz (l:List Str):qaq (qao l)=true:=rfl
theorem qn0 (l:List Str):refs (qao l)=[]:=rfl
theorem qlv (l:List Str):strip3 (qao l)=qao l:=rfl
theorem qmy (l:List Str):qas (qao l)=qao l:=rfl
theorem PExpr.takeA (e:PExpr) (r:List AVal):List.take 5 (e.cells++r)=e.cells:=by rw[←e.len,List.take_left]
theorem PExpr.dropA (e:PExpr) (r:List AVal):List.drop 5 (e.cells++r)=r:=by rw[←e.len,List.drop_left]
theorem PExpr.drop (e:PExpr):List.drop 5 e.cells=[]:=by rw[←e.len,List.drop_length]
theorem PExpr.pures (e:PExpr):e.cells.all qaq=true:=e.ok.pure
def qa9:Nat:=1099511627776
def qdp (l:List Str):Prop:=l.length≤qa9∧∀s∈l,s.length≤qa9
inductive PExpr.Small:PExpr→Prop where
 |mk (op:Int) (name:Str) (n:Int) (cons:List Str) (kids:List PExpr):name.length≤qa9→qdp cons→kids.length≤qa9→(∀k∈kids,k.Small)→PExpr.Small (.mk op name n cons kids)
theorem PExpr.Small.kids {e:PExpr} (h:e.Small):e.kids.length≤qa9∧∀k∈e.kids,k.Small:=by cases h;exact⟨‹_›,‹_›⟩
theorem PExpr.Small.name {e:PExpr} (h:e.Small):e.name.length≤qa9:=by cases h;assumption
theorem PExpr.Small.cons {e:PExpr} (h:e.Small):qdp e.cons:=by cases h;assumption
def Ret (c:Call) (f:FuncId) (args:List AVal) (v:AVal):Prop:=∀h,qba c h f args=some (.ret v .same)
theorem Ret.mk {c:Call} {f:FuncId} {args:List AVal} {v:AVal} (ha:qaf args=[]) (hv:refs v=[]) (e:c f args []=some (.ret v .same)):Ret c f args v:=fun h=>qp2 h ha hv e
end Go.Ab
namespace Go.Ab
section
variable (P:Program) (cmp:List TypeId) (call:Call) (lp:Lp)
def wantV (w:Bool):AVal→Option Bool
 | .bool b=>some (b==w)
 | .undef=>some false
 |_=>none
def qit (ops:List Oper) (j:Nat) (w:Bool) (ts:List AVal):Option Bool:=bnd ops[j]? fun oj=>bnd oj.dst fun d=>bnd ts[d]? (wantV w)
def qcb (dr:Bool) (pk:Bool) (ask:Eff→Bool) (r:Option OR) (dst:Option Tmp) (s:St) (k:St→Option (AEx×St)):Option (AEx×St):=match r with
 |some (.val v f)=>if !dr||ask f then k ⟨setT s.tmps dst v,f.of s.heap,f.dirt++s.dirty⟩else none
 |some (.pan v f)=>if dr then(if pk then some (.pan v,⟨[],f.of s.heap,f.dirt++s.dirty⟩)else none)else some (.pan v,⟨s.tmps,f.of s.heap,f.dirt++s.dirty⟩)
 |none=>none
def orD (P:Program) (dr:Bool) (o:Oper) (ts:List AVal) (h:qaa) (r:Option OR):Option OR:=match r with
 |some r=>some r
 |none=>if dr then none else exH P o ts h
def opsB (dr:Bool) (lim:Nat) (ops:List Oper):Nat→List Oper→St→Option (AEx×St)
 |_,[],s=>some (.normal,s)
 |j,o::r,s=>match qak ops o s.tmps with
  |some true=>qcb dr (qe4 ops j) (fun f=>askD lim ops j o s f) (orD P dr o s.tmps s.heap (opA P cmp call o s.tmps s.heap)) o.dst s (opsB dr lim ops (j+1) r)
  |some false=>opsB dr lim ops (j+1) r ⟨setT s.tmps o.dst .undef,s.heap,s.dirty⟩
  |none=>none
def qaz:Code→St→Option (AEx×St)
 | .skip,s=>some (.normal,s)
 | .region _ ops true,s=>addD s.dirty (opsB P cmp call true s.heap.length ops.toList 0 ops.toList ⟨s.tmps,s.heap,[]⟩)
 | .region _ ops false,s=>opsB P cmp call false s.heap.length ops.toList 0 ops.toList s
 | .seq a b,s=>qhr (qaz a s) (qaz b)
 | .cond c a b,s=>condS (qab c s.tmps) (qaz a) (qaz b) s
 | .block id b,s=>qdz id (qaz b s)
 | .loop b,s=>lp (qaz b) s
 | .exit id,s=>some (.exit id,s)
 | .ret,s=>some (.ret,s)
 |_,_=>none
def qck:Code→Bool
 | .region _ ops true=>qci ops.toList && qcj ops.toList
 | .seq a b=>qck a && qck b
 | .cond _ a b=>qck a && qck b
 | .block _ b=>qck b
 | .loop b=>qck b
 |_=>true
def fin (n:Nat) (rs:List ResultVar):Option (AEx×St)→Option CR
 |some (.normal,s)|some (.ret,s)=>match resA P rs s with
  |some vs=>some (.ret (qav n (qb8 vs) s.heap s.dirty).1 (qav n (qb8 vs) s.heap s.dirty).2)
  |none=>none
 |some (.pan v,s)=>some (.pan (qav n v s.heap s.dirty).1 (qav n v s.heap s.dirty).2)
 |_=>none
end
section
variable {P:Program} {cmp:List TypeId} {call:Call} {lp:Lp}
theorem qfn {lim:Nat} {ops:List Oper}:∀(l:List Oper) (j:Nat) (s:St),opsB P cmp call false lim ops j l s=opsA P cmp call ops l s
 |[],_,_=>rfl
 |o::r,j,s=>by
  unfold opsB opsA
  cases qak ops o s.tmps with
  |none=>rfl
  |some b=>
   cases b with
   |false=>simp only[qfn r]
   |true=>
    have h0:orD P false o s.tmps s.heap (opA P cmp call o s.tmps s.heap)=orH P o s.tmps s.heap (opA P cmp call o s.tmps s.heap):=by
     unfold orD orH;cases opA P cmp call o s.tmps s.heap<;>rfl
    simp only[h0]
    cases hop:orH P o s.tmps s.heap (opA P cmp call o s.tmps s.heap)with
    |none=>rfl
    |some q=>cases q with
     |val v f=>simp only[qcb,Bool.not_false,Bool.true_or,if_true,qfn r]
     |pan v f=>rfl
theorem qiu {lim:Nat} {ops:List Oper}:∀(l:List Oper) (j:Nat) (s:St),ops.drop j=l→opsB P cmp call true lim ops j l s=opsX P cmp call lim ops (List.range' j l.length) s
 |[],j,s,_=>by simp[opsB,opsX]
 |o::r,j,s,h=>by
  have hj:ops[j]? =some o:=by
   have:=congrArg (fun q=>q[0]?) h
   simpa using this
  have hr:ops.drop (j+1)=r:=by rw[←List.drop_drop,h];rfl
  unfold opsB
  simp only[List.length_cons,List.range'_succ,opsX,qat,panD,hj]
  cases qak ops o s.tmps with
  |none=>rfl
  |some b=>
   cases b with
   |false=>simp only[qiu r (j+1) _ hr]
   |true=>
    have h0:orD P true o s.tmps s.heap (opA P cmp call o s.tmps s.heap)=opA P cmp call o s.tmps s.heap:=by
     unfold orD;cases opA P cmp call o s.tmps s.heap<;>rfl
    simp only[h0]
    cases hop:opA P cmp call o s.tmps s.heap with
    |none=>rfl
    |some q=>cases q with
     |val v f=>
      simp only[qcb,Bool.not_true,Bool.false_or,qiu r (j+1) _ hr]
      split<;>rfl
     |pan v f=>rfl
theorem codeB_eq:∀(c:Code) (s:St),qck c=true→qag P cmp call lp c s=qaz P cmp call lp c s:=by
 intro c
 induction c with
 |skip=>intro s _;rfl
 |region id ops dr=>
  intro s h
  cases dr with
  |false=>simp only[qag,qaz,qfn]
  |true=>
   simp only[qag,qaz]
   simp only[qck]at h
   rw[if_pos h,qiu ops.toList 0 ⟨s.tmps,s.heap,[]⟩ List.drop_zero,List.range_eq_range']
   rfl
 |seq a b iha ihb=>
  intro s h
  simp only[qck,wb]at h
  have hb:qag P cmp call lp b=qaz P cmp call lp b:=funext fun s=>ihb s h.2
  rw[sim_seq,iha s h.1,hb];rfl
 |cond c a b iha ihb=>
  intro s h
  simp only[qck,wb]at h
  have ha:qag P cmp call lp a=qaz P cmp call lp a:=funext fun s=>iha s h.1
  have hb:qag P cmp call lp b=qaz P cmp call lp b:=funext fun s=>ihb s h.2
  rw[sim_cond,ha,hb];rfl
 |block id b ih=>intro s h;rw[sim_block,ih s h];rfl
 |loop b ih=>
  intro s h
  have hb:qag P cmp call lp b=qaz P cmp call lp b:=funext fun s=>ih s h
  rw[sim_loop,hb];rfl
 |rangeFunc=>intro s _;rfl
 |exit id=>intro s _;rfl
 |scope=>intro s _;rfl
 |label=>intro s _;rfl
 |goto=>intro s _;rfl
 |ret=>intro s _;rfl
 |refuse=>intro s _;rfl
class Small (cmp:List TypeId):Prop where
 s:bigM cmp=false
instance {t:TypeId}:Small [t]:=⟨rfl⟩
theorem evC_fn [Small cmp] {ext:Ext} {f:FuncId} {fn:Func} {c:Code} (hx:ext f=none) (hf:P.funcs[f]? =some fn) (hb:fn.body=some c) (hd:qck c=true) (a:List AVal) (h:qaa):
 evC P cmp ext f a h=fin P h.length fn.results.toList (qaz P cmp (evC P cmp ext) lpC c ⟨a++List.replicate (fn.ntmps-a.length) .undef,h,[]⟩):=by
 rw[evC_eq hx]
 unfold fnA
 simp only[hf,hb,Small.s,qb1,wa,if_false]
 rw[codeB_eq c _ hd]
 cases qaz P cmp (evC P cmp ext) lpC c ⟨a++List.replicate (fn.ntmps-a.length) .undef,h,[]⟩with
 |none=>rfl
 |some x=>obtain⟨ex,s⟩:=x;cases ex<;>rfl
theorem b_skip (s:St):qaz P cmp call lp .skip s=some (.normal,s):=rfl
theorem b_exit (id:Nat) (s:St):qaz P cmp call lp (.exit id) s=some (.exit id,s):=rfl
theorem b_ret (s:St):qaz P cmp call lp .ret s=some (.ret,s):=rfl
theorem b_region (id:Nat) (ops:Array Oper) (s:St):qaz P cmp call lp (.region id ops false) s=opsB P cmp call false 0 ops.toList 0 ops.toList s:=by simp only[qaz,qfn]
theorem b_drawn (id:Nat) (ops:Array Oper) (s:St):qaz P cmp call lp (.region id ops true) s=addD s.dirty (opsB P cmp call true s.heap.length ops.toList 0 ops.toList ⟨s.tmps,s.heap,[]⟩):=rfl
theorem b_addD (d:List Nat) (x:AEx) (s:St):addD d (some (x,s))=some (x,⟨s.tmps,s.heap,s.dirty++d⟩):=rfl
theorem b_seq (a b:Code) (s:St):qaz P cmp call lp (.seq a b) s=qhr (qaz P cmp call lp a s) (qaz P cmp call lp b):=rfl
theorem b_cond (c:Operand) (a b:Code) (s:St):qaz P cmp call lp (.cond c a b) s=condS (qab c s.tmps) (qaz P cmp call lp a) (qaz P cmp call lp b) s:=rfl
theorem b_block (id:Nat) (b:Code) (s:St):qaz P cmp call lp (.block id b) s=qdz id (qaz P cmp call lp b s):=rfl
theorem b_loop (b:Code) (s:St):qaz P cmp call lp (.loop b) s=lp (qaz P cmp call lp b) s:=rfl
theorem b_or (dr:Bool) (o:Oper) (ts:List AVal) (h:qaa) (r:OR):orD P dr o ts h (some r)=some r:=rfl
theorem b_or0 (o:Oper) (ts:List AVal) (h:qaa):orD P false o ts h none=exH P o ts h:=rfl
theorem b_nil (dr:Bool) (lim j:Nat) (ops:List Oper) (s:St):opsB P cmp call dr lim ops j [] s=some (.normal,s):=rfl
theorem b_cons (dr:Bool) (lim j:Nat) (ops:List Oper) (dst:Option Tmp) (op:Op) (t:TypeId) (pos:String) (after:Array Edge) (r:List Oper) (s:St):
 opsB P cmp call dr lim ops j ({ dst,op,type:=t,pos,after,guard:=none }::r) s=
  qcb dr (qe4 ops j) (fun f=>askD lim ops j { dst,op,type:=t,pos,after,guard:=none } s f) (orD P dr { dst,op,type:=t,pos,after,guard:=none } s.tmps s.heap (opA P cmp call { dst,op,type:=t,pos,after,guard:=none } s.tmps s.heap)) dst s (opsB P cmp call dr lim ops (j+1) r):=by
 rw[opsB];rfl
def wantB (w:Option Bool) (a b:St→Option (AEx×St)) (s:St):Option (AEx×St):=match w with
 |some true=>a s
 |some false=>b s
 |none=>none
theorem qp4 (a b:St→Option (AEx×St)) (s:St):wantB (some true) a b s=a s:=rfl
theorem qox (a b:St→Option (AEx×St)) (s:St):wantB (some false) a b s=b s:=rfl
def goB (P:Program) (cmp:List TypeId) (call:Call) (dr:Bool) (lim j:Nat) (ops:List Oper) (o:Oper) (r:List Oper) (s:St):Option (AEx×St):=
 qcb dr (qe4 ops j) (fun f=>askD lim ops j o s f) (orD P dr o s.tmps s.heap (opA P cmp call o s.tmps s.heap)) o.dst s (opsB P cmp call dr lim ops (j+1) r)
def skB (P:Program) (cmp:List TypeId) (call:Call) (dr:Bool) (lim j:Nat) (ops:List Oper) (dst:Option Tmp) (r:List Oper) (s:St):Option (AEx×St):=
 opsB P cmp call dr lim ops (j+1) r ⟨setT s.tmps dst .undef,s.heap,s.dirty⟩
theorem b_go (dr:Bool) (lim j:Nat) (ops r:List Oper) (o:Oper) (s:St):goB P cmp call dr lim j ops o r s=qcb dr (qe4 ops j) (fun f=>askD lim ops j o s f) (orD P dr o s.tmps s.heap (opA P cmp call o s.tmps s.heap)) o.dst s (opsB P cmp call dr lim ops (j+1) r):=rfl
theorem b_sk (dr:Bool) (lim j:Nat) (ops r:List Oper) (dst:Option Tmp) (s:St):skB P cmp call dr lim j ops dst r s=opsB P cmp call dr lim ops (j+1) r ⟨setT s.tmps dst .undef,s.heap,s.dirty⟩:=rfl
theorem b_consG (dr:Bool) (lim j:Nat) (ops:List Oper) (dst:Option Tmp) (op:Op) (t:TypeId) (pos:String) (after:Array Edge) (g:Nat) (w:Bool) (r:List Oper) (s:St):
 opsB P cmp call dr lim ops j ({ dst,op,type:=t,pos,after,guard:=some (g,w) }::r) s=
  wantB (qit ops g w s.tmps) (goB P cmp call dr lim j ops { dst,op,type:=t,pos,after,guard:=some (g,w) } r) (skB P cmp call dr lim j ops dst r) s:=by
 rw[opsB]
 have:qak ops { dst,op,type:=t,pos,after,guard:=some (g,w) } s.tmps=qit ops g w s.tmps:=by
  simp only[qak,qit]
  cases ops[g]? with
  |none=>rfl
  |some oj=>simp only[bnd];cases oj.dst with
   |none=>rfl
   |some d=>simp only;cases s.tmps[d]? with
    |none=>rfl
    |some v=>cases v<;>rfl
 rw[this]
 cases qit ops g w s.tmps with
 |none=>rfl
 |some b=>cases b<;>rfl
theorem stepB_val (pk:Bool) (ask:Eff→Bool) (v:AVal) (d:Tmp) (ts:List AVal) (h:qaa) (dd:List Nat) (k:St→Option (AEx×St)):qcb false pk ask (some (.val v .same)) (some d) ⟨ts,h,dd⟩ k=k ⟨ts.set d v,h,dd⟩:=rfl
theorem qp5 (pk:Bool) (ask:Eff→Bool) (v:AVal) (ts:List AVal) (h:qaa) (dd:List Nat) (k:St→Option (AEx×St)):qcb false pk ask (some (.val v .same)) none ⟨ts,h,dd⟩ k=k ⟨ts,h,dd⟩:=rfl
theorem qp6 (pk:Bool) (ask:Eff→Bool) (v:AVal) (d:Tmp) (ts:List AVal) (h h':qaa) (dd d':List Nat) (k:St→Option (AEx×St)):qcb false pk ask (some (.val v (.heap h' d'))) (some d) ⟨ts,h,dd⟩ k=k ⟨ts.set d v,h',d'++dd⟩:=rfl
theorem qoy (pk:Bool) (ask:Eff→Bool) (v:AVal) (ts:List AVal) (h h':qaa) (dd d':List Nat) (k:St→Option (AEx×St)):qcb false pk ask (some (.val v (.heap h' d'))) none ⟨ts,h,dd⟩ k=k ⟨ts,h',d'++dd⟩:=rfl
theorem stepB_pan (pk:Bool) (ask:Eff→Bool) (v:AVal) (d:Option Tmp) (ts:List AVal) (h:qaa) (dd:List Nat) (k:St→Option (AEx×St)):qcb false pk ask (some (.pan v .same)) d ⟨ts,h,dd⟩ k=some (.pan v,⟨ts,h,dd⟩):=rfl
def ifB (b:Bool) (x:Option (AEx×St)):Option (AEx×St):=if b then x else none
theorem ifB_true (x:Option (AEx×St)):ifB true x=x:=rfl
theorem stepD_val (pk:Bool) (ask:Eff→Bool) (v:AVal) (d:Tmp) (ts:List AVal) (h:qaa) (dd:List Nat) (k:St→Option (AEx×St)):qcb true pk ask (some (.val v .same)) (some d) ⟨ts,h,dd⟩ k=ifB (ask .same) (k ⟨ts.set d v,h,dd⟩):=rfl
theorem qp7 (pk:Bool) (ask:Eff→Bool) (v:AVal) (ts:List AVal) (h:qaa) (dd:List Nat) (k:St→Option (AEx×St)):qcb true pk ask (some (.val v .same)) none ⟨ts,h,dd⟩ k=ifB (ask .same) (k ⟨ts,h,dd⟩):=rfl
theorem qp8 (pk:Bool) (ask:Eff→Bool) (v:AVal) (d:Tmp) (ts:List AVal) (h h':qaa) (dd d':List Nat) (k:St→Option (AEx×St)):qcb true pk ask (some (.val v (.heap h' d'))) (some d) ⟨ts,h,dd⟩ k=ifB (ask (.heap h' d')) (k ⟨ts.set d v,h',d'++dd⟩):=rfl
theorem qoz (pk:Bool) (ask:Eff→Bool) (v:AVal) (ts:List AVal) (h h':qaa) (dd d':List Nat) (k:St→Option (AEx×St)):qcb true pk ask (some (.val v (.heap h' d'))) none ⟨ts,h,dd⟩ k=ifB (ask (.heap h' d')) (k ⟨ts,h',d'++dd⟩):=rfl
theorem fin_ret (n:Nat) (rs:List ResultVar) (s:St):fin P n rs (some (.ret,s))=bnd (resA P rs s) fun vs=>some (.ret (qav n (qb8 vs) s.heap s.dirty).1 (qav n (qb8 vs) s.heap s.dirty).2):=by
 simp only[fin];cases resA P rs s<;>rfl
theorem qp9 (n:Nat) (rs:List ResultVar) (s:St):fin P n rs (some (.normal,s))=bnd (resA P rs s) fun vs=>some (.ret (qav n (qb8 vs) s.heap s.dirty).1 (qav n (qb8 vs) s.heap s.dirty).2):=by
 simp only[fin];cases resA P rs s<;>rfl
theorem fin_pan (n:Nat) (rs:List ResultVar) (v:AVal) (s:St):fin P n rs (some (.pan v,s))=some (.pan (qav n v s.heap s.dirty).1 (qav n v s.heap s.dirty).2):=rfl
theorem res_nil (s:St):resA P [] s=some []:=rfl
theorem res_tmp (t:Tmp) (r:List ResultVar) (s:St):resA P (.tmp t::r) s=bnd s.tmps[t]? fun a=>bnd (resA P r s) fun l=>some (a::l):=by
 simp only[resA]
 cases s.tmps[t]? with
 |none=>rfl
 |some a=>cases resA P r s<;>rfl
theorem res_cell (a:Tmp) (t:TypeId) (r:List ResultVar) (s:St):resA P (.cell a t::r) s=bnd s.tmps[a]? fun p=>bnd (qb9 P s.heap t p) fun a=>bnd (resA P r s) fun l=>some (a::l):=by
 simp only[resA]
 cases s.tmps[a]? with
 |none=>rfl
 |some p=>simp only[bnd];cases qb9 P s.heap t p with
  |none=>rfl
  |some v=>cases resA P r s<;>rfl
theorem qo0 (v:AVal) (h:qaa) (d:List Nat) (hr:refs (strip3 v)=[]):(qav 0 v h d).1=strip3 v:=by rw[qlk v h d hr]
theorem qo1 (v:AVal) (h:qaa) (d:List Nat) (hr:refs (strip3 v)=[]):(qav 0 v h d).2= .same:=by rw[qlk v h d hr]
end
end Go.Ab
