/- The equations together. -/
import Derived.Test.YtlfollkhlephmaaGreatDoorAbSim
set_option linter.unusedSimpArgs false
set_option linter.unusedVariables false
set_option maxRecDepth 100000
set_option maxHeartbeats 4000000
open Bool renaming true_and→wa,not_false→wd,or_assoc→we,and_true→wg,or_true→wi,not_true→w4,or_false→w5
open List renaming getElem?_append_right→wb,set_append_right→wc,drop_succ_cons→wh,set_cons_zero→wj,set_cons_succ→wk,append_assoc→wl,length_cons→wq,cons_append→ws,length_nil→wt,nil_append→wu,append_nil→ww,drop_zero→wz,all_cons→w3,map_cons→w6,map_nil→w8
open Nat renaming le_refl→wm,le_add_right→wo
open BitVec renaming ofInt→w7
namespace Go.Ab
section
variable (P:Program) (cmp:List TypeId) (t:TypeId) (n:Bool) (k:IntKind) (a b:Int) (s u:List UInt8) (ts:List AVal) (h:qaa)
theorem guard_eq (ops:List Oper) (j:Nat) (w:Bool):qit ops j w ts=bnd ops[j]? fun oj=>bnd oj.dst fun d=>bnd ts[d]? (wantV w):=rfl
theorem qqa (w x:Bool):wantV w (.bool x)=some (x==w):=rfl
theorem qo2 (w:Bool):wantV w .undef=some false:=rfl
theorem c_tmp (i:Tmp):qab (.tmp i) ts=ts[i]? :=rfl
theorem c_bool (x:Bool):qab (.const (.bool x)) ts=some (.bool x):=rfl
theorem c_int (x:Int):qab (.const (.int k x)) ts=some (.int k x):=rfl
theorem c_str (x:ByteArray):qab (.const (.string x)) ts=some (.str x.data.toList):=rfl
theorem c_nilp:qab (.const (.pointer none)) ts=some .nilp:=rfl
theorem c_nils:qab (.const (.slice none 0 0)) ts=some (.slice [] .full):=rfl
theorem c_nilf:qab (.const .nilFunc) ts=some .nilf:=rfl
theorem c_nili:qab (.const .nilIface) ts=some .nili:=rfl
theorem c_func (f:FuncId):qab (.func f) ts=some (.func f [] []):=rfl
theorem c_agg (cs:Array Value):qab (.const (.agg cs)) ts=(ofVs cs.toList).map .agg:=rfl
theorem ofVs_nil:ofVs []=some []:=rfl
theorem ofVs_cons (v:Value) (r:List Value):ofVs (v::r)=bnd (ofV0 v) fun a=>bnd (ofVs r) fun l=>some (a::l):=by
 simp only[ofVs];cases ofV0 v with
 |none=>rfl
 |some a=>cases ofVs r<;>rfl
theorem ofV0_bool (x:Bool):ofV0 (.bool x)=some (.bool x):=rfl
theorem ofV0_int (x:Int):ofV0 (.int k x)=some (.int k x):=rfl
theorem ofV0_str (x:ByteArray):ofV0 (.string x)=some (.str x.data.toList):=rfl
theorem ofV0_nils:ofV0 (.slice none 0 0)=some (.slice [] .full):=rfl
theorem ofV0_nilp:ofV0 (.pointer none)=some .nilp:=rfl
theorem ofV0_nilf:ofV0 .nilFunc=some .nilf:=rfl
theorem ofV0_nili:ofV0 .nilIface=some .nili:=rfl
theorem args_nil:qal ts []=some []:=rfl
theorem args_cons (o:Operand) (r:List Operand):qal ts (o::r)=bnd (qab o ts) fun a=>bnd (qal ts r) fun l=>some (a::l):=by
 simp only[qal];cases qab o ts with
 |none=>rfl
 |some a=>cases qal ts r<;>rfl
theorem parts_nil:qar ts []=some []:=rfl
theorem qqb (i:Nat) (o:Operand) (r:List (Nat×Operand)):qar ts ((i,o)::r)=bnd (qab o ts) fun a=>bnd (qar ts r) fun l=>some ((i,a)::l):=by
 simp only[qar];cases qab o ts with
 |none=>rfl
 |some a=>cases qar ts r<;>rfl
theorem opt_none:optA ts none=some none:=rfl
theorem opt_some (o:Operand):optA ts (some o)=(qab o ts).map some:=rfl
theorem set_some (d:Tmp) (v:AVal):setT ts (some d) v=ts.set d v:=rfl
theorem set_none (v:AVal):setT ts none v=ts:=rfl
theorem cells_agg (cs:List AVal):(AVal.agg cs).cells=cs:=rfl
theorem cells_int:(AVal.int k a).cells=[.int k a]:=rfl
theorem qqc (x:Bool):(AVal.bool x).cells=[.bool x]:=rfl
theorem cells_str:(AVal.str s).cells=[.str s]:=rfl
theorem qo3 (es:List (List AVal)) (tk:Tk):(AVal.slice es tk).cells=[.slice es tk]:=rfl
theorem cells_ptr (p q:Nat):(AVal.ptr p q).cells=[.ptr p q]:=rfl
theorem qqd:AVal.nilp.cells=[.nilp]:=rfl
theorem qqe (f:FuncId) (p q:List AVal):(AVal.func f p q).cells=[.func f p q]:=rfl
theorem qqf:AVal.nilf.cells=[.nilf]:=rfl
theorem qo4 (ty:TypeId) (v:AVal):(AVal.iface ty v).cells=[.iface ty v]:=rfl
theorem qqg:AVal.nili.cells=[.nili]:=rfl
def inBox (x:Option Blk) (f:List AVal→Option AVal):Option AVal:=match x with|some (.box cs)=>f cs|_=>none
theorem inBox_box (cs:List AVal) (f:List AVal→Option AVal):inBox (some (.box cs)) f=f cs:=rfl
theorem load_ptr (p o:Nat):qb9 P h t (.ptr p o)=inBox h[p]? fun cs=>qbp P t cs o:=by
 simp only[qb9];cases h[p]? with
 |none=>rfl
 |some x=>cases x<;>rfl
theorem load_eptr (cs:List AVal) (o:Nat):qb9 P h t (.eptr cs o)=qbp P t cs o:=rfl
def partS (agg:Option Bool) (size:Option Nat) (cs:List AVal) (off:Nat):Option AVal:=match agg,size with
 |some true,some n=>if(List.take n (List.drop off cs)).length=n then some (.agg (List.take n (List.drop off cs)))else none
 |some false,some 1=>cs[off]?
 |_,_=>none
theorem part_eq (cs:List AVal) (off:Nat):qbp P t cs off=partS (aggA P t) (qah P t) cs off:=rfl
theorem partS_one (cs:List AVal) (off:Nat):partS (some false) (some 1) cs off=cs[off]? :=rfl
theorem partS_agg (m:Nat) (cs:List AVal) (off:Nat) (hl:off+m≤cs.length):partS (some true) (some m) cs off=some (.agg (List.take m (List.drop off cs))):=by
 simp only[partS]
 rw[if_pos (by rw[List.length_take,List.length_drop];omega)]
def qll (size:Option Nat) (p off:Nat) (cs:List AVal) (v:List AVal) (h:qaa):Option (qaa×Nat):=match size with
 |some m=>if v.length=m && v.all oneA then(qai cs off v).map fun cs=>(h.set p (.box cs),p)else none
 |none=>none
def inBoxS (x:Option Blk) (f:List AVal→Option (qaa×Nat)):Option (qaa×Nat):=match x with|some (.box cs)=>f cs|_=>none
theorem qqh (cs:List AVal) (f:List AVal→Option (qaa×Nat)):inBoxS (some (.box cs)) f=f cs:=rfl
theorem store_ptr (p o:Nat) (v:AVal):qbk P h t (.ptr p o) v=inBoxS h[p]? fun cs=>qll (qah P t) p o cs v.cells h:=by
 simp only[qbk,qll]
 cases h[p]? with
 |none=>rfl
 |some x=>cases x with
  |tok=>rfl
  |arr=>rfl
  |map=>rfl
  |box cs=>simp only[inBoxS];cases qah P t<;>rfl
theorem storeS_ok (m p off:Nat) (cs v:List AVal) (hl:v.length=m) (ho:v.all oneA=true):qll (some m) p off cs v h=(qai cs off v).map fun cs=>(h.set p (.box cs),p):=by
 simp only[qll];rw[if_pos (by simp[hl,ho])]
theorem len_str (hs:s.length≤qa9):lenA (some .string) (.str s)=some (.val (.int .i64 s.length) .same):=by
 simp only[lenA];rw[if_pos (by unfold qa9 at hs;unfold qfq;omega)]
theorem len_slice (es:List (List AVal)) (tk:Tk) (e:TypeId):lenA (some (.slice e)) (.slice es tk)=some (.val (.int .i64 es.length) .same):=rfl
theorem lenH_str (hp:qaa) (v:AVal):lenH hp (some .string) v=lenA (some .string) v:=by cases v<;>rfl
theorem qqi (e:TypeId) (hp:qaa) (v:AVal):lenH hp (some (.slice e)) v=lenA (some (.slice e)) v:=by cases v<;>rfl
theorem bin_add:binA P cmp .add t n (.int k a) (.int k b)=some (.int k (qb4 k (a+b))):=by simp[binA,qb7]
theorem bin_sub:binA P cmp .sub t n (.int k a) (.int k b)=some (.int k (qb4 k (a-b))):=by simp[binA,qb7]
theorem bin_mul:binA P cmp .mul t n (.int k a) (.int k b)=some (.int k (qb4 k (a*b))):=by simp[binA,qb7]
theorem bin_quo (hb:¬b=0):binA P cmp .quo t n (.int k a) (.int k b)=some (.int k (qb4 k (a.tdiv b))):=by simp[binA,qb7,hb]
theorem bin_rem (hb:¬b=0):binA P cmp .rem t n (.int k a) (.int k b)=some (.int k (a.tmod b)):=by simp[binA,qb7,hb]
theorem bin_eql:binA P cmp .eql t n (.int k a) (.int k b)=some (.bool (a==b)):=by simp[binA,qb7]
theorem bin_neq:binA P cmp .neq t n (.int k a) (.int k b)=some (.bool (a !=b)):=by simp[binA,qb7]
theorem bin_lss:binA P cmp .lss t n (.int k a) (.int k b)=some (.bool (decide (a<b))):=by simp[binA,qb7]
theorem bin_leq:binA P cmp .leq t n (.int k a) (.int k b)=some (.bool (decide (a≤b))):=by simp[binA,qb7]
theorem bin_gtr:binA P cmp .gtr t n (.int k a) (.int k b)=some (.bool (decide (b<a))):=by simp[binA,qb7]
theorem bin_geq:binA P cmp .geq t n (.int k a) (.int k b)=some (.bool (decide (b≤a))):=by simp[binA,qb7]
theorem bin_or:binA P cmp .or t n (.int k a) (.int k b)=some (.int k (k.wrap ((w7 k.bits a)|||(w7 k.bits b)).toNat)):=by simp[binA,qb7]
theorem bin_cat (hl:s.length+u.length≤qfq):binA P cmp .add t n (.str s) (.str u)=some (.str (s++u)):=by simp[binA,hl]
theorem bin_seql:binA P cmp .eql t n (.str s) (.str u)=some (.bool (s==u)):=rfl
theorem bin_sneq:binA P cmp .neq t n (.str s) (.str u)=some (.bool (!(s==u))):=rfl
theorem un_not (x:Bool):unA .not (.bool x)=some (.bool (!x)):=rfl
theorem un_neg:unA .neg (.int k a)=some (.int k (qb4 k (0-a))):=rfl
theorem max_int:maxA [.int k a,.int k b]=some (.int k (if a<b then b else a)):=by simp[maxA]
theorem min_int:minA [.int k a,.int k b]=some (.int k (if b<a then b else a)):=by simp[minA]
def idxS (b:Bool) (x:Option (List AVal)) (m:Option Nat):Option OR:=match x,m with
 |some cs,some m=>if b && cs.length==m then some (.val (.eptr cs 0) .same)else none
 |_,_=>none
theorem ia_slice (es:List (List AVal)) (tk:Tk) (e:TypeId):qhs P (some (.slice e)) (.slice es tk) (.int k a)=idxS (decide (0≤a)) es[a.toNat]? (qah P e):=by
 simp only[qhs,idxS]
 cases es[a.toNat]? with
 |none=>rfl
 |some cs=>cases qah P e<;>rfl
theorem idxS_ok (m:Nat) (cs:List AVal) (hm:cs.length=m):idxS true (some cs) (some m)=some (.val (.eptr cs 0) .same):=by simp[idxS,hm]
def ixS (b:Bool) (x:Option UInt8):Option OR:=match x with
 |some c=>if b then some (.val (.int .u8 c.toNat) .same)else none
 |none=>none
theorem ix_str:indexA P (some .string) (.str s) (.int k a)=ixS (decide (0≤a)) s[a.toNat]? :=by
 simp only[indexA,ixS]
 cases s[a.toNat]? with
 |none=>rfl
 |some c=>by_cases h:0≤a<;>simp[h]
theorem ixS_ok (c:UInt8):ixS true (some c)=some (.val (.int .u8 c.toNat) .same):=rfl
theorem arg_int:argA (.int k a)= .int k a:=rfl
theorem arg_bool (x:Bool):argA (.bool x)= .bool x:=rfl
theorem arg_str:argA (.str s)= .str s:=rfl
theorem arg_slice (es:List (List AVal)) (tk:Tk):argA (.slice es tk)= .slice es tk:=rfl
theorem arg_ptr (p q:Nat):argA (.ptr p q)= .ptr p q:=rfl
theorem arg_func (f:FuncId) (p q:List AVal):argA (.func f p q)= .func f p q:=rfl
theorem arg_agg (cs:List AVal):argA (.agg cs)= .agg (cs.map qas):=rfl
theorem strip_int:strip3 (.int k a)= .int k a:=rfl
theorem qqj (x:Bool):strip3 (.bool x)= .bool x:=rfl
theorem strip_str:strip3 (.str s)= .str s:=rfl
theorem qo5 (es:List (List AVal)) (tk:Tk):strip3 (.slice es tk)= .slice es .free:=rfl
theorem strip_agg (cs:List AVal):strip3 (.agg cs)= .agg (cs.map qas):=rfl
theorem qo6 (vs:List AVal):strip3 (.tuple vs)= .tuple (vs.map strip2):=rfl
theorem qqk:strip2 (.int k a)= .int k a:=rfl
theorem qo7 (x:Bool):strip2 (.bool x)= .bool x:=rfl
theorem qql:strip2 (.str s)= .str s:=rfl
theorem qn1 (es:List (List AVal)) (tk:Tk):strip2 (.slice es tk)= .slice es .free:=rfl
theorem qqm (cs:List AVal):strip2 (.agg cs)= .agg (cs.map qas):=rfl
theorem refs_int:refs (.int k a)=[]:=rfl
theorem refs_bool (x:Bool):refs (.bool x)=[]:=rfl
theorem refs_str:refs (.str s)=[]:=rfl
theorem refs_free (es:List (List AVal)):refs (.slice es .free)=[]:=rfl
theorem refs_full (es:List (List AVal)):refs (.slice es .full)=[]:=rfl
theorem qqn (cs:List AVal):refs (.tuple cs)=qaf cs:=rfl
theorem refsL_nil:qaf []=[]:=rfl
theorem qqo (v:AVal) (r:List AVal):qaf (v::r)=refs v++qaf r:=rfl
theorem tuple_one (v:AVal):qb8 [v]=v:=rfl
theorem tuple_nil:qb8 []= .tuple []:=rfl
theorem tuple_two (v w:AVal) (r:List AVal):qb8 (v::w::r)= .tuple (v::w::r):=rfl
theorem of_same:Eff.of h .same=h:=rfl
theorem of_heap (h':qaa) (d:List Nat):Eff.of h (.heap h' d)=h':=rfl
theorem qo8:Eff.isSame .same=true:=rfl
theorem pure_int:qaq (.int k a)=true:=rfl
theorem pure_bool (x:Bool):qaq (.bool x)=true:=rfl
theorem pure_str:qaq (.str s)=true:=rfl
theorem pure_free (es:List (List AVal)):qaq (.slice es .free)=true:=rfl
theorem one_int:oneA (.int k a)=true:=rfl
theorem one_bool (x:Bool):oneA (.bool x)=true:=rfl
theorem one_str:oneA (.str s)=true:=rfl
theorem one_slice (es:List (List AVal)) (tk:Tk):oneA (.slice es tk)=true:=rfl
theorem one_ptr (p q:Nat):oneA (.ptr p q)=true:=rfl
theorem one_func (f:FuncId) (p q:List AVal):oneA (.func f p q)=true:=rfl
theorem heap_at0 (H L:qaa):(H++L)[H.length]? =L[0]? :=by
 rw[wb (wm _)];simp
theorem heap_at (H L:qaa) (n:Nat):(H++L)[H.length+n]? =L[n]? :=by
 rw[wb (wo _ _)];simp
theorem set_at0 (H L:qaa) (x:Blk):(H++L).set H.length x=H++L.set 0 x:=by
 rw[wc _ _ (wm _)];simp
theorem set_at (H L:qaa) (n:Nat) (x:Blk):(H++L).set (H.length+n) x=H++L.set n x:=by
 rw[wc _ _ (wo _ _)];simp
theorem n_lt0 (n:Nat):(0<n+1)=True:=by simp
theorem n_lts (m n:Nat):(m+1<n+1)=(m<n):=by simp
theorem n_le0 (n:Nat):(0≤n)=True:=by simp
theorem n_les (m n:Nat):(m+1≤n+1)=(m≤n):=by simp
theorem n_lea (m n:Nat):(m≤m+n)=True:=by simp
theorem n_lta (m n:Nat):(m<m+(n+1))=True:=by simp
section
variable (lim:Nat) (ops:List Oper) (j:Nat) (dst:Option Tmp) (ty:TypeId) (pos:String) (after:Array Edge) (gd:Option (Nat×Bool)) (s:St) (f:Eff)
theorem ask_move (x:Operand):askD lim ops j ⟨dst,.move x,ty,pos,after,gd⟩ s f=true:=rfl
theorem qqp (x:Operand):askD lim ops j ⟨dst,.assign x,ty,pos,after,gd⟩ s f=true:=rfl
theorem ask_pick (x y z:Operand):askD lim ops j ⟨dst,.pick x y z,ty,pos,after,gd⟩ s f=true:=rfl
theorem ask_build (t:TypeId) (ps:Array (Nat×Operand)):askD lim ops j ⟨dst,.build t ps,ty,pos,after,gd⟩ s f=true:=rfl
theorem qlw (t:TypeId) (m:Nat) (ps:Array (Nat×Operand)):askD lim ops j ⟨dst,.buildSlice t m ps,ty,pos,after,gd⟩ s f=true:=rfl
theorem qn2 (x:Operand):askD lim ops j ⟨dst,.nilCheck x,ty,pos,after,gd⟩ s f=true:=rfl
theorem ask_binOp (o:BinOp) (t t2:TypeId) (x y:Operand):askD lim ops j ⟨dst,.binOp o t x y t2,ty,pos,after,gd⟩ s f=true:=rfl
theorem ask_unOp (o:UnOp) (t:TypeId) (x:Operand):askD lim ops j ⟨dst,.unOp o t x,ty,pos,after,gd⟩ s f=true:=rfl
theorem qo9 (t t2:TypeId) (x:Operand):askD lim ops j ⟨dst,.convert t t2 x,ty,pos,after,gd⟩ s f=true:=rfl
theorem qjs (t:TypeId) (x:Operand):askD lim ops j ⟨dst,.makeInterface t x,ty,pos,after,gd⟩ s f=true:=rfl
theorem qn3 (x:Fn) (p q:Array Operand):askD lim ops j ⟨dst,.makeFunc x p q,ty,pos,after,gd⟩ s f=true:=rfl
theorem ask_slice (t:TypeId) (x:Operand) (p q r:Option Operand):askD lim ops j ⟨dst,.slice t x p q r,ty,pos,after,gd⟩ s f=true:=rfl
theorem qmz (t:TypeId) (x:Operand) (m:Nat):askD lim ops j ⟨dst,.fieldAddr t x m,ty,pos,after,gd⟩ s f=true:=rfl
theorem ask_field (t:TypeId) (x:Operand) (m:Nat):askD lim ops j ⟨dst,.field t x m,ty,pos,after,gd⟩ s f=true:=rfl
theorem qm0 (t:TypeId) (x y:Operand):askD lim ops j ⟨dst,.indexAddr t x y,ty,pos,after,gd⟩ s f=true:=rfl
theorem ask_index (t:TypeId) (x y:Operand):askD lim ops j ⟨dst,.index t x y,ty,pos,after,gd⟩ s f=true:=rfl
theorem qpa (x:Operand) (m:Nat):askD lim ops j ⟨dst,.extract x m,ty,pos,after,gd⟩ s f=true:=rfl
def askW (b:Bool) (k:Unit→Bool):Bool:=b||k ()
theorem askW_true (k:Unit→Bool):askW true k=true:=rfl
theorem qqq (k:Unit→Bool):askW false k=k ():=rfl
def farU (p:Oper→Bool) (ops:List Oper) (j:Nat) (_:Unit):Bool:=qce p ops j
theorem farU_eq (p:Oper→Bool):farU p ops j ()=qce p ops j:=rfl
def farF (p:Oper→Bool) (ops:List Oper) (j:Nat):Bool:=qce p ops j
theorem rd_ptr (d:List Nat) (b o:Nat):qbh lim ops j d (some (.ptr b o))=(decide (b<lim) && askW (!d.contains b) (farU qcx ops j)):=rfl
theorem rd_mref (d:List Nat) (b:Nat):qbh lim ops j d (some (.mref b))=(decide (b<lim) && askW (!d.contains b) (farU qcx ops j)):=rfl
theorem rd_mptr (d:List Nat) (b o n:Nat):qbh lim ops j d (some (.mptr b o n))=(decide (b<lim) && askW (!d.contains b) (farU qcx ops j) && farF qed ops j):=rfl
theorem rd_eptr (d:List Nat) (cs:List AVal) (o:Nat):qbh lim ops j d (some (.eptr cs o))=true:=rfl
theorem rk_slice (d:List Nat) (es:List (List AVal)) (tk:Tk):qbh lim ops j d (some (.slice es tk))=true:=rfl
theorem rk_ms (d:List Nat) (es:List (List AVal)) (b n m:Nat):qbh lim ops j d (some (.ms es b n m))=true:=rfl
theorem rk_str (d:List Nat) (x:List UInt8):qbh lim ops j d (some (.str x))=true:=rfl
theorem ao_slice (d:List Nat) (es:List (List AVal)) (tk:Tk):qb0 d (some (.slice es tk))=true:=rfl
theorem ao_ms (d:List Nat) (es:List (List AVal)) (b n m:Nat):qb0 d (some (.ms es b n m))=true:=rfl
theorem ao_str (d:List Nat) (x:List UInt8):qb0 d (some (.str x))=true:=rfl
theorem rd_nilm (d:List Nat):qbh lim ops j d (some .nilm)=true:=rfl
theorem ask_load (t:TypeId) (x:Operand):askD lim ops j ⟨dst,.load t x,ty,pos,after,gd⟩ s f=qbh lim ops j s.dirty (qab x s.tmps):=rfl
theorem qqr (t:TypeId) (x k:Operand) (ok:Bool):askD lim ops j ⟨dst,.lookup t x k ok,ty,pos,after,gd⟩ s f=qbh lim ops j s.dirty (qab x s.tmps):=rfl
theorem qpb (t:TypeId) (x:Option Operand):askD lim ops j ⟨dst,.makeMap t x,ty,pos,after,gd⟩ s f=decide (lim≤s.heap.length):=rfl
def qbc:List Edge→Bool
 |[]=>true
 |e::r=>Go.Region.binds .any e && qbc r
theorem qn4:qbc []=true:=rfl
theorem ba_data (n:Nat) (r:List Edge):qbc (⟨n,.data⟩::r)=qbc r:=rfl
theorem ba_chain (n:Nat) (r:List Edge):qbc (⟨n,.chain⟩::r)=qbc r:=rfl
theorem ba_guard (n:Nat) (r:List Edge):qbc (⟨n,.guard⟩::r)=qbc r:=rfl
theorem ba_phase (n:Nat) (r:List Edge):qbc (⟨n,.phase⟩::r)=qbc r:=rfl
theorem ba_text (n:Nat) (d:Departure) (r:List Edge):qbc (⟨n,.textOnly d⟩::r)=false:=rfl
theorem ba_gc (n:Nat) (d:Departure) (r:List Edge):qbc (⟨n,.gcOnly d⟩::r)=false:=rfl
theorem qpc (l:List Edge):l.all (Go.Region.binds .any)=qbc l:=by
 induction l with
 |nil=>rfl
 |cons e r ih=>simp only[w3,qbc,ih]
theorem pb_nil (q:Nat):qbb q []=false:=rfl
theorem pb_data (q n:Nat) (r:List Edge):qbb q (⟨n,.data⟩::r)=((n==q)||qbb q r):=rfl
theorem pb_chain (q n:Nat) (r:List Edge):qbb q (⟨n,.chain⟩::r)=((n==q)||qbb q r):=rfl
theorem pb_guard (q n:Nat) (r:List Edge):qbb q (⟨n,.guard⟩::r)=((n==q)||qbb q r):=rfl
theorem pb_phase (q n:Nat) (r:List Edge):qbb q (⟨n,.phase⟩::r)=((n==q)||qbb q r):=rfl
theorem pb_text (q n:Nat) (d:Departure) (r:List Edge):qbb q (⟨n,.textOnly d⟩::r)=qbb q r:=rfl
theorem pb_gc (q n:Nat) (d:Departure) (r:List Edge):qbb q (⟨n,.gcOnly d⟩::r)=qbb q r:=rfl
def apartU (af:List Edge) (ts:List AVal) (d:List Nat) (j:Nat) (ops:List Oper) (_:Unit):Bool:=qad af ts d 0 j ops
theorem apartU_eq (af:List Edge) (ts:List AVal) (d:List Nat):apartU af ts d j ops ()=qad af ts d 0 j ops:=rfl
def stU (ops:List Oper) (j:Nat) (o:Oper) (ts:List AVal) (_:Unit):Bool:=stOk ops j o ts
theorem stU_eq (o:Oper) (ts:List AVal):stU ops j o ts ()=stOk ops j o ts:=rfl
def qjj (af:List Edge) (ts:List AVal) (d:List Nat) (j:Nat) (ops:List Oper) (_:Unit):Bool:=qda ops j||(qe8 ops j && qad af ts d 0 j ops)
def askC (b:Bool) (k:Unit→Bool):Bool:=b||k ()
theorem askC_true (k:Unit→Bool):askC true k=true:=rfl
theorem ao_ptr (d:List Nat) (b o:Nat):qb0 d (some (.ptr b o))= !d.contains b:=rfl
theorem ao_mref (d:List Nat) (b:Nat):qb0 d (some (.mref b))= !d.contains b:=rfl
theorem ao_mptr (d:List Nat) (b o n:Nat):qb0 d (some (.mptr b o n))= !d.contains b:=rfl
theorem ao_eptr (d:List Nat) (cs:List AVal) (o:Nat):qb0 d (some (.eptr cs o))=true:=rfl
theorem ct_nil (b:Nat):([]:List Nat).contains b=false:=rfl
theorem ct_cons (a b:Nat) (r:List Nat):(a::r).contains b=((b==a)||r.contains b):=by rw[List.contains_cons]
theorem af_zero (af:List Edge) (ts:List AVal) (d:List Nat) (q:Nat) (l:List Oper):qad af ts d q 0 l=true:=by unfold qad;rfl
theorem af_load (af:List Edge) (ts:List AVal) (d:List Nat) (q m:Nat) (r:List Oper) (t:TypeId) (a:Operand):qad af ts d q (m+1) (⟨dst,.load t a,ty,pos,after,gd⟩::r)=((qbb q af||qb0 d (qab a ts)) && qad af ts d (q+1) m r):=rfl
theorem af_lookup (af:List Edge) (ts:List AVal) (d:List Nat) (q m:Nat) (r:List Oper) (t:TypeId) (a k:Operand) (ok:Bool):qad af ts d q (m+1) (⟨dst,.lookup t a k ok,ty,pos,after,gd⟩::r)=((qbb q af||qb0 d (qab a ts)) && qad af ts d (q+1) m r):=rfl
theorem qqs (af:List Edge) (ts:List AVal) (d:List Nat) (q m:Nat) (r:List Oper) (t:TypeId) (x:Option Operand):qad af ts d q (m+1) (⟨dst,.makeMap t x,ty,pos,after,gd⟩::r)=qad af ts d (q+1) m r:=by simp only[qad,rdOp,wa]
theorem af_move (af:List Edge) (ts:List AVal) (d:List Nat) (q m:Nat) (r:List Oper) (x:Operand):qad af ts d q (m+1) (⟨dst,.move x,ty,pos,after,gd⟩::r)=qad af ts d (q+1) m r:=by simp only[qad,rdOp,wa]
theorem af_assign (af:List Edge) (ts:List AVal) (d:List Nat) (q m:Nat) (r:List Oper) (x:Operand):qad af ts d q (m+1) (⟨dst,.assign x,ty,pos,after,gd⟩::r)=qad af ts d (q+1) m r:=by simp only[qad,rdOp,wa]
theorem af_pick (af:List Edge) (ts:List AVal) (d:List Nat) (q m:Nat) (r:List Oper) (x y z:Operand):qad af ts d q (m+1) (⟨dst,.pick x y z,ty,pos,after,gd⟩::r)=qad af ts d (q+1) m r:=by simp only[qad,rdOp,wa]
theorem af_build (af:List Edge) (ts:List AVal) (d:List Nat) (q m:Nat) (r:List Oper) (t:TypeId) (ps:Array (Nat×Operand)):qad af ts d q (m+1) (⟨dst,.build t ps,ty,pos,after,gd⟩::r)=qad af ts d (q+1) m r:=by simp only[qad,rdOp,wa]
theorem qm1 (af:List Edge) (ts:List AVal) (d:List Nat) (q m:Nat) (r:List Oper) (t:TypeId) (m2:Nat) (ps:Array (Nat×Operand)):qad af ts d q (m+1) (⟨dst,.buildSlice t m2 ps,ty,pos,after,gd⟩::r)=qad af ts d (q+1) m r:=by simp only[qad,rdOp,wa]
theorem af_store (af:List Edge) (ts:List AVal) (d:List Nat) (q m:Nat) (r:List Oper) (t:TypeId) (x y:Operand):qad af ts d q (m+1) (⟨dst,.store t x y,ty,pos,after,gd⟩::r)=qad af ts d (q+1) m r:=by simp only[qad,rdOp,wa]
theorem qpd (af:List Edge) (ts:List AVal) (d:List Nat) (q m:Nat) (r:List Oper) (x:Operand):qad af ts d q (m+1) (⟨dst,.nilCheck x,ty,pos,after,gd⟩::r)=qad af ts d (q+1) m r:=by simp only[qad,rdOp,wa]
theorem af_binOp (af:List Edge) (ts:List AVal) (d:List Nat) (q m:Nat) (r:List Oper) (o:BinOp) (t t2:TypeId) (x y:Operand):qad af ts d q (m+1) (⟨dst,.binOp o t x y t2,ty,pos,after,gd⟩::r)=qad af ts d (q+1) m r:=by simp only[qad,rdOp,wa]
theorem af_unOp (af:List Edge) (ts:List AVal) (d:List Nat) (q m:Nat) (r:List Oper) (o:UnOp) (t:TypeId) (x:Operand):qad af ts d q (m+1) (⟨dst,.unOp o t x,ty,pos,after,gd⟩::r)=qad af ts d (q+1) m r:=by simp only[qad,rdOp,wa]
theorem qqt (af:List Edge) (ts:List AVal) (d:List Nat) (q m:Nat) (r:List Oper) (t t2:TypeId) (x:Operand):qad af ts d q (m+1) (⟨dst,.convert t t2 x,ty,pos,after,gd⟩::r)=qad af ts d (q+1) m r:=by simp only[qad,rdOp,wa]
theorem qkk (af:List Edge) (ts:List AVal) (d:List Nat) (q m:Nat) (r:List Oper) (t:TypeId) (x:Operand):qad af ts d q (m+1) (⟨dst,.makeInterface t x,ty,pos,after,gd⟩::r)=qad af ts d (q+1) m r:=by simp only[qad,rdOp,wa]
theorem qpe (af:List Edge) (ts:List AVal) (d:List Nat) (q m:Nat) (r:List Oper) (x:Fn) (p2 q2:Array Operand):qad af ts d q (m+1) (⟨dst,.makeFunc x p2 q2,ty,pos,after,gd⟩::r)=qad af ts d (q+1) m r:=by simp only[qad,rdOp,wa]
theorem af_slice (af:List Edge) (ts:List AVal) (d:List Nat) (q m:Nat) (r:List Oper) (t:TypeId) (x:Operand) (p2 q2 r2:Option Operand):qad af ts d q (m+1) (⟨dst,.slice t x p2 q2 r2,ty,pos,after,gd⟩::r)=qad af ts d (q+1) m r:=by simp only[qad,rdOp,wa]
theorem qn5 (af:List Edge) (ts:List AVal) (d:List Nat) (q m:Nat) (r:List Oper) (t:TypeId) (x:Operand) (m2:Nat):qad af ts d q (m+1) (⟨dst,.fieldAddr t x m2,ty,pos,after,gd⟩::r)=qad af ts d (q+1) m r:=by simp only[qad,rdOp,wa]
theorem af_field (af:List Edge) (ts:List AVal) (d:List Nat) (q m:Nat) (r:List Oper) (t:TypeId) (x:Operand) (m2:Nat):qad af ts d q (m+1) (⟨dst,.field t x m2,ty,pos,after,gd⟩::r)=qad af ts d (q+1) m r:=by simp only[qad,rdOp,wa]
theorem qn6 (af:List Edge) (ts:List AVal) (d:List Nat) (q m:Nat) (r:List Oper) (t:TypeId) (x y:Operand):qad af ts d q (m+1) (⟨dst,.indexAddr t x y,ty,pos,after,gd⟩::r)=qad af ts d (q+1) m r:=by simp only[qad,rdOp,wa]
theorem af_index (af:List Edge) (ts:List AVal) (d:List Nat) (q m:Nat) (r:List Oper) (t:TypeId) (x y:Operand):qad af ts d q (m+1) (⟨dst,.index t x y,ty,pos,after,gd⟩::r)=qad af ts d (q+1) m r:=by simp only[qad,rdOp,wa]
theorem qqu (af:List Edge) (ts:List AVal) (d:List Nat) (q m:Nat) (r:List Oper) (x:Operand) (m2:Nat):qad af ts d q (m+1) (⟨dst,.extract x m2,ty,pos,after,gd⟩::r)=qad af ts d (q+1) m r:=by simp only[qad,rdOp,wa]
theorem af_alloc (af:List Edge) (ts:List AVal) (d:List Nat) (q m:Nat) (r:List Oper) (t:TypeId):qad af ts d q (m+1) (⟨dst,.alloc t,ty,pos,after,gd⟩::r)=qad af ts d (q+1) m r:=by simp only[qad,rdOp,wa]
theorem af_box (af:List Edge) (ts:List AVal) (d:List Nat) (q m:Nat) (r:List Oper) (t:TypeId) (x:Operand):qad af ts d q (m+1) (⟨dst,.box t x,ty,pos,after,gd⟩::r)=qad af ts d (q+1) m r:=by simp only[qad,rdOp,wa]
theorem af_call (af:List Edge) (ts:List AVal) (d:List Nat) (q m:Nat) (r:List Oper) (x:Operand) (a:Array Operand) (t:Array TypeId):qad af ts d q (m+1) (⟨dst,.call { callee:= .value x,args:=a,argTypes:=t },ty,pos,after,gd⟩::r)=qad af ts d (q+1) m r:=by simp only[qad,rdOp,wa]
theorem af_append (af:List Edge) (ts:List AVal) (d:List Nat) (q m:Nat) (r:List Oper) (a:Array Operand) (t:Array TypeId):qad af ts d q (m+1) (⟨dst,.call { callee:= .builtin .append,args:=a,argTypes:=t },ty,pos,after,gd⟩::r)=qad af ts d (q+1) m r:=by simp only[qad,rdOp,wa]
theorem af_max (af:List Edge) (ts:List AVal) (d:List Nat) (q m:Nat) (r:List Oper) (a:Array Operand) (t:Array TypeId):qad af ts d q (m+1) (⟨dst,.call { callee:= .builtin .max,args:=a,argTypes:=t },ty,pos,after,gd⟩::r)=qad af ts d (q+1) m r:=by simp only[qad,rdOp,wa]
theorem af_min (af:List Edge) (ts:List AVal) (d:List Nat) (q m:Nat) (r:List Oper) (a:Array Operand) (t:Array TypeId):qad af ts d q (m+1) (⟨dst,.call { callee:= .builtin .min,args:=a,argTypes:=t },ty,pos,after,gd⟩::r)=qad af ts d (q+1) m r:=by simp only[qad,rdOp,wa]
theorem af_len (af:List Edge) (ts:List AVal) (d:List Nat) (q m:Nat) (r:List Oper) (x:Operand) (t:Array TypeId):qad af ts d q (m+1) (⟨dst,.call { callee:= .builtin .len,args:= #[x],argTypes:=t },ty,pos,after,gd⟩::r)=((qbb q af||qb0 d (qab x ts)) && qad af ts d (q+1) m r):=rfl
theorem ask_store (t:TypeId) (x y:Operand):askD lim ops j ⟨dst,.store t x y,ty,pos,after,gd⟩ s f=(askW (qbc after.toList) (apartU after.toList s.tmps f.dirt j ops) && askW (qbc after.toList) (stU ops j ⟨dst,.store t x y,ty,pos,after,gd⟩ s.tmps)):=by
 simp only[askD,cls,askW,apartU,stU,qdj,Bool.not_not,qpc]
theorem ask_alloc (t:TypeId):askD lim ops j ⟨dst,.alloc t,ty,pos,after,gd⟩ s f=decide (lim≤s.heap.length):=rfl
theorem ask_box (t:TypeId) (x:Operand):askD lim ops j ⟨dst,.box t x,ty,pos,after,gd⟩ s f=decide (lim≤s.heap.length):=rfl
theorem qqv (a:Array Operand) (t:TypeId):askD lim ops j ⟨dst,.call { callee:= .builtin .append,args:=a,argTypes:= #[t,t] },ty,pos,after,gd⟩ s f=decide (lim≤s.heap.length):=by
 have h0:cls ⟨dst,.call { callee:= .builtin .append,args:=a,argTypes:= #[t,t] },ty,pos,after,gd⟩=2:=cls_app (by simp)
 unfold askD;rw[h0];rfl
theorem ask_len (x:Operand) (ts:Array TypeId):askD lim ops j ⟨dst,.call { callee:= .builtin .len,args:= #[x],argTypes:=ts },ty,pos,after,gd⟩ s f=qbh lim ops j s.dirty (qab x s.tmps):=rfl
theorem ask_max (a:Array Operand) (ts:Array TypeId):askD lim ops j ⟨dst,.call { callee:= .builtin .max,args:=a,argTypes:=ts },ty,pos,after,gd⟩ s f=true:=rfl
theorem ask_min (a:Array Operand) (ts:Array TypeId):askD lim ops j ⟨dst,.call { callee:= .builtin .min,args:=a,argTypes:=ts },ty,pos,after,gd⟩ s f=true:=rfl
theorem ask_call (x y:Operand) (r:List Operand) (ts:Array TypeId):askD lim ops j ⟨dst,.call { callee:= .value x,args:=⟨y::r⟩,argTypes:=ts },ty,pos,after,gd⟩ s f=askC f.isSame (qjj after.toList s.tmps f.dirt j ops):=by
 have:isCt ⟨dst,.call { callee:= .value x,args:=⟨y::r⟩,argTypes:=ts },ty,pos,after,gd⟩=false:=by cases x<;>rfl
 simp only[askD,cls,askC,qjj,we,this,wd,wi,wg]
theorem ask_callV (x:Tmp) (a:Array Operand) (ts:Array TypeId):askD lim ops j ⟨dst,.call { callee:= .value (.tmp x),args:=a,argTypes:=ts },ty,pos,after,gd⟩ s f=askC f.isSame (qjj after.toList s.tmps f.dirt j ops):=by
 have:isCt ⟨dst,.call { callee:= .value (.tmp x),args:=a,argTypes:=ts },ty,pos,after,gd⟩=false:=rfl
 simp only[askD,cls,askC,qjj,we,this,wd,wi,wg]
theorem ask_call0 (x:FuncId) (ts:Array TypeId):askD lim ops j ⟨dst,.call { callee:= .value (.func x),args:=⟨[]⟩,argTypes:=ts },ty,pos,after,none⟩ s f=(askC f.isSame (qjj after.toList s.tmps f.dirt j ops) && f.dirt.isEmpty):=by
 have:isCt ⟨dst,.call { callee:= .value (.func x),args:=⟨[]⟩,argTypes:=ts },ty,pos,after,none⟩=true:=rfl
 simp only[askD,cls,askC,qjj,we,this,w4,w5]
end
structure AppOk (P:Program) (t e sz:Nat):Prop where
 el:qc2 P t=some e
 si:qah P e=some sz
 re:∃n by_ z,sz=n+1∧qbj P e=some by_∧qap P e=some z∧(0<by_ && by_≤128 && z.cells.length==n+1)=true
variable {P t}
def zc (z:Option AVal):List AVal:=match z with|some z=>z.cells|none=>[]
theorem zc_some (z:AVal):zc (some z)=z.cells:=rfl
theorem bs_ok {e sz:Nat} (ok:AppOk P t e sz) (cmp:List TypeId) (call:Call) (dst:Option Tmp) (ty:TypeId) (pos:String) (after:Array Edge) (gd:Option (Nat×Bool)) (ts:List AVal) (h:qaa) (n:Nat) (ps:Array (Nat×Operand)) (hn:n*sz≤65536) (hna:(decide (1<sz) && ps.toList.any (fun x=>isAgg0 x.2))=false):
 opA P cmp call ⟨dst,.buildSlice t n ps,ty,pos,after,gd⟩ ts h=
 bnd (qar ts ps.toList) fun us=>bnd (qa2 (fun i=>some (i*sz,sz)) (List.replicate n (zc (qap P e))).flatten us) fun cs=>bnd (qbz (chop sz n cs)) fun es=>some (.val (.slice es .full) .same):=by
 obtain⟨he,hs,m,by_,z,rfl,hb,hz,hc⟩:=ok
 simp only[Bool.and_eq_true,decide_eq_true_eq]at hc
 rw[qmw (he:=he) (hs:=hs) (hz:=hz) (hn:=by simp[hn,hc.2]) (hna:=by simpa using hna),hz]
 rfl
end
section
def fillS (b:Bool) (x:Option (List AVal)) (k:List AVal→Option (List AVal)):Option (List AVal):=if b then bnd x k else none
theorem qqw (x:Option (List AVal)) (k:List AVal→Option (List AVal)):fillS true x k=bnd x k:=rfl
theorem fill_nil (p:Nat→Option (Nat×Nat)) (cs:List AVal):qa2 p cs []=some cs:=rfl
theorem fill_cons (p:Nat→Option (Nat×Nat)) (cs:List AVal) (i:Nat) (v:AVal) (r:List (Nat×AVal)):
 qa2 p cs ((i,v)::r)=bnd (p i) fun q=>fillS (v.cells.length==q.2) (qai cs q.1 v.cells) fun cs=>qa2 p cs r:=by
 simp only[qa2]
 cases p i with
 |none=>rfl
 |some q=>
  obtain⟨a,b⟩:=q
  simp only[bnd,fillS,beq_iff_eq]
  split
  ·cases qai cs a v.cells<;>rfl
  ·rfl
theorem setc_zero (cs vs:List AVal) (h:vs.length≤cs.length):qai cs 0 vs=some (vs++cs.drop vs.length):=by
 cases cs<;>simp only[qai]<;>rw[if_pos h]
theorem setc_succ (c:AVal) (cs vs:List AVal) (n:Nat):qai (c::cs) (n+1) vs=(qai cs n vs).map (c:: ·):=rfl
theorem chop_zero (s:Nat) (cs:List AVal):chop s 0 cs=[]:=rfl
theorem chop_succ (s n:Nat) (cs:List AVal):chop s (n+1) cs=cs.take s::chop s n (cs.drop s):=rfl
theorem elems_nil:qbz []=some []:=rfl
theorem qqx (c:List AVal) (r:List (List AVal)):qbz (c::r)=bnd (qc0 c) fun c=>bnd (qbz r) fun r=>some (c::r):=by
 simp only[qbz];cases qc0 c with
 |none=>rfl
 |some c=>cases qbz r<;>rfl
def elemS (b:Bool) (cs:List AVal):Option (List AVal):=if b then some cs else none
theorem qqy (cs:List AVal):elemS true cs=some cs:=rfl
theorem elem_eq (cs:List AVal):qc0 cs=elemS ((cs.map qas).all qaq) (cs.map qas):=rfl
theorem head_nil (s:Nat):qcl s []=true:=rfl
theorem head_cons (s:Nat) (c:List AVal) (r:List (List AVal)):qcl s (c::r)=(c.length==s):=rfl
theorem tk_full (p:Nat):(Tk.full==Tk.own p)=false:=rfl
theorem tk_free (p:Nat):(Tk.free==Tk.own p)=false:=rfl
theorem s0_int (k:IntKind) (a:Int):qas (.int k a)= .int k a:=rfl
theorem s0_bool (x:Bool):qas (.bool x)= .bool x:=rfl
theorem s0_str (s:List UInt8):qas (.str s)= .str s:=rfl
theorem s0_slice (es:List (List AVal)) (tk:Tk):qas (.slice es tk)= .slice es .free:=rfl
theorem s0_ptr (p q:Nat):qas (.ptr p q)= .ptr p q:=rfl
theorem s0_func (f:FuncId) (p q:List AVal):qas (.func f p q)= .func f p q:=rfl
theorem s0_nilf:qas .nilf= .nilf:=rfl
end
theorem lit_le:((0:Int)≤0)=True∧((0:Int)≤1)=True∧((0:Int)≤2)=True∧((0:Int)≤3)=True∧((0:Int)≤4)=True∧((0:Int)≤5)=True∧((0:Int)≤6)=True∧((0:Int)≤7)=True∧((0:Int)≤8)=True∧((0:Int)≤9)=True∧((0:Int)≤10)=True∧((0:Int)≤11)=True:=by simp
theorem lit_nat:Int.toNat (0:Int)=0∧Int.toNat (1:Int)=1∧Int.toNat (2:Int)=2∧Int.toNat (3:Int)=3∧Int.toNat (4:Int)=4∧Int.toNat (5:Int)=5∧Int.toNat (6:Int)=6∧Int.toNat (7:Int)=7∧Int.toNat (8:Int)=8∧Int.toNat (9:Int)=9∧Int.toNat (10:Int)=10∧Int.toNat (11:Int)=11:=by simp
end Go.Ab
namespace Go.Ab
def rowS:List AVal→Option (List (List AVal))
 |[]=>some []
 |v::r=>if v.cells.length=1 then bnd (qc0 v.cells) fun c=>bnd (rowS r) fun l=>some (c::l)else none
theorem rowS_nil:rowS []=some []:=rfl
theorem rowS_str (s:List UInt8) (r:List AVal):rowS (.str s::r)=bnd (rowS r) fun l=>some ([.str s]::l):=rfl
theorem rowS_int (k:IntKind) (n:Int) (r:List AVal):rowS (.int k n::r)=bnd (rowS r) fun l=>some ([.int k n]::l):=rfl
def rowV (us:List AVal):Option OR:=bnd (rowS us) fun es=>some (.val (.slice es .full) .same)
theorem rowV_eq (us:List AVal):rowV us=bnd (rowS us) fun es=>some (.val (.slice es .full) .same):=rfl
section
variable (P:Program) (cmp:List TypeId) (t:TypeId) (n:Bool)
theorem one_nilf:oneA .nilf=true:=rfl
theorem one_nilp:oneA .nilp=true:=rfl
theorem one_nili:oneA .nili=true:=rfl
theorem one_eptr (cs:List AVal) (o:Nat):oneA (.eptr cs o)=true:=rfl
theorem one_iface (t:TypeId) (v:AVal):oneA (.iface t v)=true:=rfl
theorem pure_nilf:qaq .nilf=true:=rfl
theorem pure_nilp:qaq .nilp=true:=rfl
theorem pure_nili:qaq .nili=true:=rfl
theorem refs_nilf:refs .nilf=[]:=rfl
theorem refs_nilp:refs .nilp=[]:=rfl
theorem refs_nili:refs .nili=[]:=rfl
theorem refs_ptr (b o:Nat):refs (.ptr b o)=[b]:=rfl
theorem refs_func (f:FuncId) (p q:List AVal):refs (.func f p q)=qaf p++qaf q:=rfl
theorem s0_nilp:qas .nilp= .nilp:=rfl
theorem s0_nili:qas .nili= .nili:=rfl
theorem s0_iface (t:TypeId) (v:AVal):qas (.iface t v)= .iface t v:=rfl
theorem s2_nilf:strip2 .nilf= .nilf:=rfl
theorem s2_nilp:strip2 .nilp= .nilp:=rfl
theorem s2_nili:strip2 .nili= .nili:=rfl
theorem s2_ptr (b o:Nat):strip2 (.ptr b o)= .ptr b o:=rfl
theorem s2_func (f:FuncId) (p q:List AVal):strip2 (.func f p q)= .func f p q:=rfl
theorem s3_nilf:strip3 .nilf= .nilf:=rfl
theorem s3_nilp:strip3 .nilp= .nilp:=rfl
theorem s3_nili:strip3 .nili= .nili:=rfl
theorem s3_ptr (b o:Nat):strip3 (.ptr b o)= .ptr b o:=rfl
theorem s3_func (f:FuncId) (p q:List AVal):strip3 (.func f p q)= .func f p q:=rfl
theorem arg_nilf:argA .nilf= .nilf:=rfl
theorem arg_nilp:argA .nilp= .nilp:=rfl
theorem arg_nili:argA .nili= .nili:=rfl
theorem qpf (e:TypeId) (l:List (List UInt8)):lenA (some (.slice e)) (qao l)=some (.val (.int .i64 l.length) .same):=by simp[qao,lenA]
def eqF (d:Option TypeDesc) (b:Bool):Option AVal:=match d with
 |some (.func ..)=>some (.bool b)
 |_=>none
theorem eqF_func (a c:Array TypeId) (v b:Bool):eqF (some (.func a c v)) b=some (.bool b):=rfl
theorem bin_enn:binA P cmp .eql t n .nilf .nilf=eqF (P.underlying t) true:=by
 simp only[binA,eqT,eqF]
 cases P.underlying t with
 |none=>rfl
 |some d=>cases d<;>rfl
theorem bin_enf (f:FuncId) (p q:List AVal):binA P cmp .eql t n .nilf (.func f p q)=eqF (P.underlying t) false:=by
 simp only[binA,eqT,eqF]
 cases P.underlying t with
 |none=>rfl
 |some d=>cases d<;>rfl
theorem bin_efn (f:FuncId) (p q:List AVal):binA P cmp .eql t n (.func f p q) .nilf=eqF (P.underlying t) false:=by
 simp only[binA,eqT,eqF]
 cases P.underlying t with
 |none=>rfl
 |some d=>cases d<;>rfl
theorem bin_nnn:binA P cmp .neq t n .nilf .nilf=eqF (P.underlying t) false:=by
 simp only[binA,eqT,eqF]
 cases P.underlying t with
 |none=>rfl
 |some d=>cases d<;>rfl
theorem bin_nnf (f:FuncId) (p q:List AVal):binA P cmp .neq t n .nilf (.func f p q)=eqF (P.underlying t) true:=by
 simp only[binA,eqT,eqF]
 cases P.underlying t with
 |none=>rfl
 |some d=>cases d<;>rfl
theorem bin_nfn (f:FuncId) (p q:List AVal):binA P cmp .neq t n (.func f p q) .nilf=eqF (P.underlying t) true:=by
 simp only[binA,eqT,eqF]
 cases P.underlying t with
 |none=>rfl
 |some d=>cases d<;>rfl
def eqBd (d:Option TypeDesc) (b:Bool):Option AVal:=match d with
 |some .bool=>some (.bool b)
 |_=>none
theorem eqBd_bool (b:Bool):eqBd (some .bool) b=some (.bool b):=rfl
theorem bin_beq (a b:Bool):binA P cmp .eql t n (.bool a) (.bool b)=eqBd (P.underlying t) (a==b):=by
 simp only[binA,eqT,eqBd]
 cases P.underlying t with
 |none=>rfl
 |some d=>cases d<;>rfl
theorem bin_bne (a b:Bool):binA P cmp .neq t n (.bool a) (.bool b)=eqBd (P.underlying t) (!(a==b)):=by
 simp only[binA,eqT,eqBd]
 cases P.underlying t with
 |none=>rfl
 |some d=>cases d<;>rfl
end
def row1 (sz:Nat) (z:List AVal) (v:AVal):Option OR:=bnd (qa2 (fun i=>some (i*sz,sz)) z [(0,v)]) fun cs=>bnd (qbz (chop sz 1 cs)) fun es=>some (.val (.slice es .full) .same)
theorem bs_one {P:Program} {t e sz:Nat} (ok:AppOk P t e sz) (hn:1*sz≤65536) {cmp:List TypeId} {call:Call} {dst:Option Tmp} {ty:TypeId} {pos:String} {after:Array Edge} {gd:Option (Nat×Bool)} {ts:List AVal} {h:qaa} (o:Operand) (ho:isAgg0 o=false):
 opA P cmp call ⟨dst,.buildSlice t 1 #[(0,o)],ty,pos,after,gd⟩ ts h=bnd (qab o ts) (row1 sz (zc (qap P e))):=by
 rw[bs_ok ok cmp call dst ty pos after gd ts h 1 _ hn (by simp[ho])]
 simp only[qar]
 cases qab o ts with
 |none=>rfl
 |some v=>simp[bnd,row1,List.replicate]
end Go.Ab
namespace Go.Ab
abbrev sims:=Ji (Ji (Ji (Ji (Ji (Ji (Ji (Ji @b_skip @b_exit) (Ji @b_ret (Ji @b_region @b_drawn))) (Ji (Ji @b_addD (Ji @b_seq @b_cond)) (Ji @b_block (Ji @b_loop @b_or)))) (Ji (Ji (Ji @b_or0 (Ji @b_nil @b_cons)) (Ji @qp4 (Ji @qox @b_go))) (Ji (Ji @b_sk (Ji @b_consG @stepB_val)) (Ji @qp5 (Ji @qp6 @qoy))))) (Ji (Ji (Ji (Ji @stepB_pan (Ji @ifB_true @stepD_val)) (Ji @qp7 (Ji @qp8 @qoz))) (Ji (Ji @fin_ret (Ji @qp9 @fin_pan)) (Ji @res_nil (Ji @res_tmp @res_cell)))) (Ji (Ji (Ji @qo0 (Ji @qo1 @qnr)) (Ji @bindS_ret (Ji @qpv @bindS_pan))) (Ji (Ji @qmv (Ji @qpw @qor)) (Ji @qns (Ji @qpx @qpy)))))) (Ji (Ji (Ji (Ji (Ji @qos (Ji @valO_some @bnd_some)) (Ji @bnd_none (Ji @retO_ret @op_move))) (Ji (Ji @op_assign (Ji @op_alloc @op_box)) (Ji @op_load (Ji @op_store @qot)))) (Ji (Ji (Ji @op_binOp (Ji @op_unOp @qpz)) (Ji @op_pick (Ji @qnt @op_field))) (Ji (Ji @op_callF (Ji @op_callV @op_len)) (Ji @op_append (Ji @qnv @op_index))))) (Ji (Ji (Ji (Ji @op_slice (Ji @qnw @qp0)) (Ji @op_lookup (Ji @qnx @op_insert))) (Ji (Ji @apX_one (Ji @apX_full @apX_free)) (Ji @apX_own (Ji @qou @qp1)))) (Ji (Ji (Ji @op_max (Ji @op_min @upd_nil)) (Ji @qny (Ji @lit_le @lit_nat))) (Ji (Ji @guard_eq (Ji @qqa @qo2)) (Ji @c_tmp (Ji @c_bool @c_int))))))) (Ji (Ji (Ji (Ji (Ji (Ji @c_str (Ji @c_nilp @c_nils)) (Ji @c_nilf (Ji @c_nili @c_func))) (Ji (Ji @c_agg (Ji @ofVs_nil @ofVs_cons)) (Ji @ofV0_bool (Ji @ofV0_int @ofV0_str)))) (Ji (Ji (Ji @ofV0_nils (Ji @ofV0_nilp @ofV0_nilf)) (Ji @ofV0_nili (Ji @args_nil @args_cons))) (Ji (Ji @parts_nil (Ji @qqb @opt_none)) (Ji @opt_some (Ji @set_some @set_none))))) (Ji (Ji (Ji (Ji @cells_agg (Ji @cells_int @qqc)) (Ji @cells_str (Ji @qo3 @cells_ptr))) (Ji (Ji @qqd (Ji @qqe @qqf)) (Ji @qo4 (Ji @qqg @inBox_box)))) (Ji (Ji (Ji @load_ptr (Ji @load_eptr @partS_one)) (Ji @partS_agg (Ji @qqh @store_ptr))) (Ji (Ji @storeS_ok (Ji @len_str @len_slice)) (Ji @lenH_str (Ji @qqi @bin_add)))))) (Ji (Ji (Ji (Ji (Ji @bin_sub (Ji @bin_mul @bin_quo)) (Ji @bin_rem (Ji @bin_eql @bin_neq))) (Ji (Ji @bin_lss (Ji @bin_leq @bin_gtr)) (Ji @bin_geq (Ji @bin_or @bin_cat)))) (Ji (Ji (Ji @bin_seql (Ji @bin_sneq @un_not)) (Ji @un_neg (Ji @max_int @min_int))) (Ji (Ji @ia_slice (Ji @idxS_ok @ix_str)) (Ji @ixS_ok (Ji @arg_int @arg_bool))))) (Ji (Ji (Ji (Ji @arg_str (Ji @arg_slice @arg_ptr)) (Ji @arg_func (Ji @arg_agg @strip_int))) (Ji (Ji @qqj (Ji @strip_str @qo5)) (Ji @strip_agg (Ji @qo6 @qqk)))) (Ji (Ji (Ji @qo7 (Ji @qql @qn1)) (Ji @qqm (Ji @refs_int @refs_bool))) (Ji (Ji @refs_str (Ji @refs_free @refs_full)) (Ji @refs_agg (Ji @qqn @refsL_nil)))))))) (Ji (Ji (Ji (Ji (Ji (Ji (Ji @qqo (Ji @tuple_one @tuple_nil)) (Ji @tuple_two (Ji @of_same @of_heap))) (Ji (Ji @qo8 (Ji @pure_int @pure_bool)) (Ji @pure_str (Ji @pure_free @one_int)))) (Ji (Ji (Ji @one_bool (Ji @one_str @one_slice)) (Ji @one_ptr (Ji @one_func @heap_at0))) (Ji (Ji @heap_at (Ji @set_at0 @set_at)) (Ji @n_lt0 (Ji @n_lts @n_le0))))) (Ji (Ji (Ji (Ji @n_les (Ji @n_lea @n_lta)) (Ji @ask_move (Ji @qqp @ask_pick))) (Ji (Ji @ask_build (Ji @qlw @qn2)) (Ji @ask_binOp (Ji @ask_unOp @qo9)))) (Ji (Ji (Ji @qjs (Ji @qn3 @ask_slice)) (Ji @qmz (Ji @ask_field @qm0))) (Ji (Ji @ask_index (Ji @qpa @askW_true)) (Ji @qqq (Ji @farU_eq @rd_ptr)))))) (Ji (Ji (Ji (Ji (Ji @rd_mref (Ji @rd_mptr @rd_eptr)) (Ji @rk_slice (Ji @rk_ms @rk_str))) (Ji (Ji @ao_slice (Ji @ao_ms @ao_str)) (Ji @rd_nilm (Ji @ask_load @qqr)))) (Ji (Ji (Ji @qpb (Ji @qn4 @ba_data)) (Ji @ba_chain (Ji @ba_guard @ba_phase))) (Ji (Ji @ba_text (Ji @ba_gc @pb_nil)) (Ji @pb_data (Ji @pb_chain @pb_guard))))) (Ji (Ji (Ji (Ji @pb_phase (Ji @pb_text @pb_gc)) (Ji @apartU_eq (Ji @stU_eq @askC_true))) (Ji (Ji @ao_ptr (Ji @ao_mref @ao_mptr)) (Ji @ao_eptr (Ji @ct_nil @ct_cons)))) (Ji (Ji (Ji @af_zero (Ji @af_load @af_lookup)) (Ji @qqs (Ji @af_move @af_assign))) (Ji (Ji @af_pick (Ji @af_build @qm1)) (Ji @af_store (Ji @qpd @af_binOp))))))) (Ji (Ji (Ji (Ji (Ji (Ji @af_unOp (Ji @qqt @qkk)) (Ji @qpe (Ji @af_slice @qn5))) (Ji (Ji @af_field (Ji @qn6 @af_index)) (Ji @qqu (Ji @af_alloc @af_box)))) (Ji (Ji (Ji @af_call (Ji @af_append @af_max)) (Ji @af_min (Ji @af_len @ask_store))) (Ji (Ji @ask_alloc (Ji @ask_box @qqv)) (Ji @ask_len (Ji @ask_max @ask_min))))) (Ji (Ji (Ji (Ji @ask_call (Ji @ask_callV @ask_call0)) (Ji @zc_some (Ji @qqw @fill_nil))) (Ji (Ji @fill_cons (Ji @setc_zero @setc_succ)) (Ji @chop_zero (Ji @chop_succ @elems_nil)))) (Ji (Ji (Ji @qqx (Ji @qqy @elem_eq)) (Ji @head_nil (Ji @head_cons @tk_full))) (Ji (Ji @tk_free (Ji @s0_int @s0_bool)) (Ji @s0_str (Ji @s0_slice @s0_ptr)))))) (Ji (Ji (Ji (Ji (Ji @s0_func (Ji @s0_nilf @part_eq)) (Ji @rowS_nil (Ji @rowS_str @rowS_int))) (Ji (Ji @rowV_eq (Ji @one_nilf @one_nilp)) (Ji @one_nili (Ji @one_eptr @one_iface)))) (Ji (Ji (Ji @pure_nilf (Ji @pure_nilp @pure_nili)) (Ji @refs_nilf (Ji @refs_nilp @refs_nili))) (Ji (Ji @refs_ptr (Ji @refs_func @s0_nilp)) (Ji @s0_nili (Ji @s0_iface @s2_nilf))))) (Ji (Ji (Ji (Ji @s2_nilp (Ji @s2_nili @s2_ptr)) (Ji @s2_func (Ji @s3_nilf @s3_nilp))) (Ji (Ji @s3_nili (Ji @s3_ptr @s3_func)) (Ji @arg_nilf (Ji @arg_nilp @arg_nili)))) (Ji (Ji (Ji @qpf (Ji @eqF_func @bin_enn)) (Ji @bin_enf (Ji @bin_efn @bin_nnn))) (Ji (Ji @bin_nnf (Ji @bin_nfn @eqBd_bool)) (Ji @bin_beq (Ji @bin_bne @bs_one))))))))
abbrev core:=Ji (Ji (Ji (Ji (Ji (@w6.{0,0}) (Ji (@w8.{0,0}) (@wq.{0}))) (Ji (Ji (@wt.{0}) (@List.length_append.{0})) (Ji (@List.replicate_succ.{0}) (@List.replicate_zero.{0})))) (Ji (Ji (@ws.{0}) (Ji (@wu.{0}) (@ww.{0}))) (Ji (Ji (@List.getElem?_cons_zero.{0}) (@List.getElem?_cons_succ.{0})) (Ji (@wj.{0}) (@wk.{0}))))) (Ji (Ji (Ji @Nat.zero_add (Ji (@Option.map_some.{0,0}) @Int.toNat_natCast)) (Ji (Ji @decide_true @decide_false) (Ji (@wz.{0}) (@beq_self_eq_true.{0})))) (Ji (Ji @Bool.and_self (Ji (@List.length_map.{0,0}) (@w3.{0}))) (Ji (Ji (@List.all_nil.{0}) (@wl.{0})) (Ji @w4 @wd))))) (Ji (Ji (Ji (Ji @Bool.or_self (Ji @Bool.true_or @wi)) (Ji (Ji @wa @wg) (Ji @Bool.false_and @Bool.and_false))) (Ji (Ji @Bool.false_or (Ji @w5 @Int.natCast_nonneg)) (Ji (Ji @wm (@List.take_succ_cons.{0})) (Ji (@List.take_zero.{0}) (@List.take_nil.{0}))))) (Ji (Ji (Ji (@wh.{0}) (Ji (@List.drop_nil.{0}) (@List.flatten_cons.{0}))) (Ji (Ji (@List.flatten_nil.{0}) (@List.cons_ne_nil.{0})) (Ji @Nat.one_mul @Nat.zero_mul))) (Ji (Ji @beq_true (Ji @beq_false @not_false_eq_true)) (Ji (Ji @Bool.not_eq_true (@if_true.{1})) (Ji (@if_false.{1}) @Bool.false_eq_true)))))
abbrev ats:=Ji (Ji (Ji (Ji @upd_nil @qny) (Ji (@w6.{0,0}) (@w8.{0,0}))) (Ji (Ji (@ws.{0}) (@wu.{0})) (Ji (@ww.{0}) (@List.getD_cons_succ.{0})))) (Ji (Ji (Ji (@List.getD_cons_zero.{0}) (@wk.{0})) (Ji (@wj.{0}) (@wh.{0}))) (Ji (Ji (@wz.{0}) (@wq.{0})) (Ji (@wt.{0}) (@wl.{0}))))
abbrev pe:=Ji (Ji (Ji (Ji @PExpr.len @PExpr.ones) (Ji @PExpr.strip (Ji @PExpr.norefs @PExpr.get0))) (Ji (Ji @PExpr.get1 (Ji @PExpr.get2 @PExpr.get3)) (Ji @PExpr.get4 (Ji @PExpr.take @PExpr.set4)))) (Ji (Ji (Ji @PExpr.takeA @PExpr.dropA) (Ji @PExpr.drop (Ji @PExpr.pures @qmy))) (Ji (Ji @qov (Ji @qmx @qow)) (Ji @qnz (Ji @qn0 @qlv))))
abbrev Z3:=Ji sims (Ji core pe)
end Go.Ab
