/- The equations together. -/
import Derived.Test.YtngklkmeknmloaaGreatDoorAbSim
set_option linter.unusedSimpArgs false
set_option linter.unusedVariables false
set_option maxRecDepth 100000
set_option maxHeartbeats 4000000
open Bool renaming true_and→wa,and_eq_true→wc
open List renaming length_cons→wb,length_nil→wd,length_eq_one_iff→we,drop_succ_cons→wg,length_append→wh,getElem?_append_right→wi,all_cons→wj,append_assoc→wk,cons_append→wl,nil_append→wm,set_append_right→wo,singleton_append→wq,drop_zero→wt,map_cons→wu,take_succ_cons→wv,replicate_succ→ww,set_cons_zero→wz,set_cons_succ→w5,flatMap_cons→w6,flatten_cons→w7,append_nil→wba,take_zero→wca,map_nil→wea
open Nat renaming le_refl→w8,le_add_right→w9
open Option renaming map_some→waa
open BitVec renaming ofInt→wda
namespace Go.Ab
section
variable (P:Program) (cmp:List TypeId) (t:TypeId) (n:Bool) (k:IntKind) (a b:Int) (s u:List UInt8) (ts:List AVal) (h:qaa)
theorem guard_eq (ops:List Oper) (j:Nat) (w:Bool):qkc ops j w ts=bnd ops[j]? fun oj=>bnd oj.dst fun d=>bnd ts[d]? (wantV w):=rfl
theorem qs0 (w x:Bool):wantV w (.bool x)=some (x==w):=rfl
theorem qrp (w:Bool):wantV w .undef=some false:=rfl
theorem c_tmp (i:Tmp):qab (.tmp i) ts=ts[i]? :=rfl
theorem c_bool (x:Bool):qab (.const (.bool x)) ts=some (.bool x):=rfl
theorem c_int (x:Int):qab (.const (.int k x)) ts=some (.int k x):=rfl
theorem c_str (x:ByteArray):qab (.const (.string x)) ts=some (.str x.data.toList):=rfl
theorem c_nilp:qab (.const (.pointer none)) ts=some .nilp:=rfl
theorem c_nils:qab (.const (.slice none 0 0)) ts=some (.slice [] .full):=rfl
theorem c_nilf:qab (.const .nilFunc) ts=some .nilf:=rfl
theorem c_nili:qab (.const .nilIface) ts=some .nili:=rfl
theorem c_func (f:FuncId):qab (.func f) ts=some (.func f [] []):=rfl
theorem c_agg (cs:Array Value):qab (.const (.agg cs)) ts=(ofVs cs.toList).map .agg:=rfl
theorem ofVs_nil:ofVs []=some []:=rfl
theorem ofVs_cons (v:Value) (r:List Value):ofVs (v::r)=bnd (ofV0 v) fun a=>bnd (ofVs r) fun l=>some (a::l):=by
 simp only[ofVs];cases ofV0 v with
 |none=>rfl
 |some a=>cases ofVs r<;>rfl
theorem ofV0_bool (x:Bool):ofV0 (.bool x)=some (.bool x):=rfl
theorem ofV0_int (x:Int):ofV0 (.int k x)=some (.int k x):=rfl
theorem ofV0_str (x:ByteArray):ofV0 (.string x)=some (.str x.data.toList):=rfl
theorem ofV0_nils:ofV0 (.slice none 0 0)=some (.slice [] .full):=rfl
theorem ofV0_nilp:ofV0 (.pointer none)=some .nilp:=rfl
theorem ofV0_nilf:ofV0 .nilFunc=some .nilf:=rfl
theorem ofV0_nili:ofV0 .nilIface=some .nili:=rfl
theorem args_nil:qao ts []=some []:=rfl
theorem args_cons (o:Operand) (r:List Operand):qao ts (o::r)=bnd (qab o ts) fun a=>bnd (qao ts r) fun l=>some (a::l):=by
 simp only[qao];cases qab o ts with
 |none=>rfl
 |some a=>cases qao ts r<;>rfl
theorem parts_nil:qau ts []=some []:=rfl
theorem qs1 (i:Nat) (o:Operand) (r:List (Nat×Operand)):qau ts ((i,o)::r)=bnd (qab o ts) fun a=>bnd (qau ts r) fun l=>some ((i,a)::l):=by
 simp only[qau];cases qab o ts with
 |none=>rfl
 |some a=>cases qau ts r<;>rfl
theorem opt_none:optA ts none=some none:=rfl
theorem opt_some (o:Operand):optA ts (some o)=(qab o ts).map some:=rfl
theorem set_some (d:Tmp) (v:AVal):setT ts (some d) v=ts.set d v:=rfl
theorem set_none (v:AVal):setT ts none v=ts:=rfl
theorem cells_agg (cs:List AVal):(AVal.agg cs).cells=cs:=rfl
theorem cells_int:(AVal.int k a).cells=[.int k a]:=rfl
theorem qs2 (x:Bool):(AVal.bool x).cells=[.bool x]:=rfl
theorem cells_str:(AVal.str s).cells=[.str s]:=rfl
theorem qrq (es:List (List AVal)) (tk:Tk):(AVal.slice es tk).cells=[.slice es tk]:=rfl
theorem cells_ptr (p q:Nat):(AVal.ptr p q).cells=[.ptr p q]:=rfl
theorem qs3:AVal.nilp.cells=[.nilp]:=rfl
theorem qs4 (f:FuncId) (p q:List AVal):(AVal.func f p q).cells=[.func f p q]:=rfl
theorem qs5:AVal.nilf.cells=[.nilf]:=rfl
theorem qrr (ty:TypeId) (v:AVal):(AVal.iface ty v).cells=[.iface ty v]:=rfl
theorem qs6:AVal.nili.cells=[.nili]:=rfl
def inBox (x:Option Blk) (f:List AVal→Option AVal):Option AVal:=match x with|some (.box cs)=>f cs|_=>none
theorem inBox_box (cs:List AVal) (f:List AVal→Option AVal):inBox (some (.box cs)) f=f cs:=rfl
theorem load_ptr (p o:Nat):qck P h t (.ptr p o)=inBox h[p]? fun cs=>qby P t cs o:=by
 simp only[qck];cases h[p]? with
 |none=>rfl
 |some x=>cases x<;>rfl
theorem load_eptr (cs:List AVal) (o:Nat):qck P h t (.eptr cs o)=qby P t cs o:=rfl
def partS (agg:Option Bool) (size:Option Nat) (cs:List AVal) (off:Nat):Option AVal:=match agg,size with
 |some true,some n=>if(List.take n (List.drop off cs)).length=n then some (.agg (List.take n (List.drop off cs)))else none
 |some false,some 1=>cs[off]?
 |_,_=>none
theorem part_eq (cs:List AVal) (off:Nat):qby P t cs off=partS (aggA P t) (qai P t) cs off:=rfl
theorem partS_one (cs:List AVal) (off:Nat):partS (some false) (some 1) cs off=cs[off]? :=rfl
theorem partS_agg (m:Nat) (cs:List AVal) (off:Nat) (hl:off+m≤cs.length):partS (some true) (some m) cs off=some (.agg (List.take m (List.drop off cs))):=by
 simp only[partS]
 rw[if_pos (by rw[List.length_take,List.length_drop];omega)]
def qnn (size:Option Nat) (p off:Nat) (cs:List AVal) (v:List AVal) (h:qaa):Option (qaa×Nat):=match size with
 |some m=>if v.length=m && v.all oneA then(qaj cs off v).map fun cs=>(h.set p (.box cs),p)else none
 |none=>none
def inBoxS (x:Option Blk) (f:List AVal→Option (qaa×Nat)):Option (qaa×Nat):=match x with|some (.box cs)=>f cs|_=>none
theorem qs7 (cs:List AVal) (f:List AVal→Option (qaa×Nat)):inBoxS (some (.box cs)) f=f cs:=rfl
theorem store_ptr (p o:Nat) (v:AVal):qbv P h t (.ptr p o) v=inBoxS h[p]? fun cs=>qnn (qai P t) p o cs v.cells h:=by
 simp only[qbv,qnn]
 cases h[p]? with
 |none=>rfl
 |some x=>cases x with
  |tok=>rfl
  |arr=>rfl
  |map=>rfl
  |box cs=>simp only[inBoxS];cases qai P t<;>rfl
theorem storeS_ok (m p off:Nat) (cs v:List AVal) (hl:v.length=m) (ho:v.all oneA=true):qnn (some m) p off cs v h=(qaj cs off v).map fun cs=>(h.set p (.box cs),p):=by
 simp only[qnn];rw[if_pos (by simp[hl,ho])]
theorem len_str (hs:s.length≤qae):lenA (some .string) (.str s)=some (.val (.int .i64 s.length) .same):=by
 simp only[lenA];rw[if_pos (by unfold qae at hs;unfold qgm;omega)]
theorem len_slice (es:List (List AVal)) (tk:Tk) (e:TypeId):lenA (some (.slice e)) (.slice es tk)=some (.val (.int .i64 es.length) .same):=rfl
theorem bin_add:binA P cmp .add t n (.int k a) (.int k b)=some (.int k (qcs k (a+b))):=by simp[binA,qch]
theorem bin_sub:binA P cmp .sub t n (.int k a) (.int k b)=some (.int k (qcs k (a-b))):=by simp[binA,qch]
theorem bin_mul:binA P cmp .mul t n (.int k a) (.int k b)=some (.int k (qcs k (a*b))):=by simp[binA,qch]
theorem bin_quo (hb:¬b=0):binA P cmp .quo t n (.int k a) (.int k b)=some (.int k (qcs k (a.tdiv b))):=by simp[binA,qch,hb]
theorem bin_rem (hb:¬b=0):binA P cmp .rem t n (.int k a) (.int k b)=some (.int k (a.tmod b)):=by simp[binA,qch,hb]
theorem bin_eql:binA P cmp .eql t n (.int k a) (.int k b)=some (.bool (a==b)):=by simp[binA,qch]
theorem bin_neq:binA P cmp .neq t n (.int k a) (.int k b)=some (.bool (a !=b)):=by simp[binA,qch]
theorem bin_lss:binA P cmp .lss t n (.int k a) (.int k b)=some (.bool (decide (a<b))):=by simp[binA,qch]
theorem bin_leq:binA P cmp .leq t n (.int k a) (.int k b)=some (.bool (decide (a≤b))):=by simp[binA,qch]
theorem bin_gtr:binA P cmp .gtr t n (.int k a) (.int k b)=some (.bool (decide (b<a))):=by simp[binA,qch]
theorem bin_geq:binA P cmp .geq t n (.int k a) (.int k b)=some (.bool (decide (b≤a))):=by simp[binA,qch]
theorem bin_or:binA P cmp .or t n (.int k a) (.int k b)=some (.int k (k.wrap ((wda k.bits a)|||(wda k.bits b)).toNat)):=by simp[binA,qch]
theorem bin_cat (hl:s.length+u.length≤qgm):binA P cmp .add t n (.str s) (.str u)=some (.str (s++u)):=by simp[binA,hl]
theorem bin_seql:binA P cmp .eql t n (.str s) (.str u)=some (.bool (s==u)):=rfl
theorem bin_sneq:binA P cmp .neq t n (.str s) (.str u)=some (.bool (!(s==u))):=rfl
theorem un_not (x:Bool):unA .not (.bool x)=some (.bool (!x)):=rfl
theorem un_neg:unA .neg (.int k a)=some (.int k (qcs k (0-a))):=rfl
theorem max_int:maxA [.int k a,.int k b]=some (.int k (if a<b then b else a)):=by simp[maxA]
theorem min_int:minA [.int k a,.int k b]=some (.int k (if b<a then b else a)):=by simp[minA]
def idxS (b:Bool) (x:Option (List AVal)) (m:Option Nat):Option OR:=match x,m with
 |some cs,some m=>if b && cs.length==m then some (.val (.eptr cs 0) .same)else none
 |_,_=>none
theorem ia_slice (es:List (List AVal)) (tk:Tk) (e:TypeId):qi0 P (some (.slice e)) (.slice es tk) (.int k a)=idxS (decide (0≤a)) es[a.toNat]? (qai P e):=by
 simp only[qi0,idxS]
 cases es[a.toNat]? with
 |none=>rfl
 |some cs=>cases qai P e<;>rfl
theorem idxS_ok (m:Nat) (cs:List AVal) (hm:cs.length=m):idxS true (some cs) (some m)=some (.val (.eptr cs 0) .same):=by simp[idxS,hm]
def ixS (b:Bool) (x:Option UInt8):Option OR:=match x with
 |some c=>if b then some (.val (.int .u8 c.toNat) .same)else none
 |none=>none
theorem ix_str:qkb P (some .string) (.str s) (.int k a)=ixS (decide (0≤a)) s[a.toNat]? :=by
 simp only[qkb,ixS]
 cases s[a.toNat]? with
 |none=>rfl
 |some c=>by_cases h:0≤a<;>simp[h]
theorem ixS_ok (c:UInt8):ixS true (some c)=some (.val (.int .u8 c.toNat) .same):=rfl
theorem arg_int:argA (.int k a)= .int k a:=rfl
theorem arg_bool (x:Bool):argA (.bool x)= .bool x:=rfl
theorem arg_str:argA (.str s)= .str s:=rfl
theorem arg_slice (es:List (List AVal)) (tk:Tk):argA (.slice es tk)= .slice es tk:=rfl
theorem arg_ptr (p q:Nat):argA (.ptr p q)= .ptr p q:=rfl
theorem arg_func (f:FuncId) (p q:List AVal):argA (.func f p q)= .func f p q:=rfl
theorem arg_agg (cs:List AVal):argA (.agg cs)= .agg (cs.map qav):=rfl
theorem strip_int:strip3 (.int k a)= .int k a:=rfl
theorem qs8 (x:Bool):strip3 (.bool x)= .bool x:=rfl
theorem strip_str:strip3 (.str s)= .str s:=rfl
theorem qrs (es:List (List AVal)) (tk:Tk):strip3 (.slice es tk)= .slice es .free:=rfl
theorem qbx (cs:List AVal):strip3 (.agg cs)= .agg (cs.map qav):=rfl
theorem qrt (vs:List AVal):strip3 (.tuple vs)= .tuple (vs.map strip2):=rfl
theorem qs9:strip2 (.int k a)= .int k a:=rfl
theorem qru (x:Bool):strip2 (.bool x)= .bool x:=rfl
theorem qta:strip2 (.str s)= .str s:=rfl
theorem qqj (es:List (List AVal)) (tk:Tk):strip2 (.slice es tk)= .slice es .free:=rfl
theorem qtb (cs:List AVal):strip2 (.agg cs)= .agg (cs.map qav):=rfl
theorem refs_int:refs (.int k a)=[]:=rfl
theorem refs_bool (x:Bool):refs (.bool x)=[]:=rfl
theorem refs_str:refs (.str s)=[]:=rfl
theorem refs_free (es:List (List AVal)):refs (.slice es .free)=[]:=rfl
theorem refs_full (es:List (List AVal)):refs (.slice es .full)=[]:=rfl
theorem qtc (cs:List AVal):refs (.tuple cs)=qag cs:=rfl
theorem refsL_nil:qag []=[]:=rfl
theorem qtd (v:AVal) (r:List AVal):qag (v::r)=refs v++qag r:=rfl
theorem tuple_one (v:AVal):qb0 [v]=v:=rfl
theorem tuple_nil:qb0 []= .tuple []:=rfl
theorem tuple_two (v w:AVal) (r:List AVal):qb0 (v::w::r)= .tuple (v::w::r):=rfl
theorem of_same:Eff.of h .same=h:=rfl
theorem of_heap (h':qaa) (d:List Nat):Eff.of h (.heap h' d)=h':=rfl
theorem qrv:Eff.isSame .same=true:=rfl
theorem pure_int:qax (.int k a)=true:=rfl
theorem pure_bool (x:Bool):qax (.bool x)=true:=rfl
theorem pure_str:qax (.str s)=true:=rfl
theorem pure_free (es:List (List AVal)):qax (.slice es .free)=true:=rfl
theorem one_int:oneA (.int k a)=true:=rfl
theorem one_bool (x:Bool):oneA (.bool x)=true:=rfl
theorem one_str:oneA (.str s)=true:=rfl
theorem one_slice (es:List (List AVal)) (tk:Tk):oneA (.slice es tk)=true:=rfl
theorem one_ptr (p q:Nat):oneA (.ptr p q)=true:=rfl
theorem one_func (f:FuncId) (p q:List AVal):oneA (.func f p q)=true:=rfl
theorem heap_at0 (H L:qaa):(H++L)[H.length]? =L[0]? :=by
 rw[wi (w8 _)];simp
theorem heap_at (H L:qaa) (n:Nat):(H++L)[H.length+n]? =L[n]? :=by
 rw[wi (w9 _ _)];simp
theorem set_at0 (H L:qaa) (x:Blk):(H++L).set H.length x=H++L.set 0 x:=by
 rw[wo _ _ (w8 _)];simp
theorem set_at (H L:qaa) (n:Nat) (x:Blk):(H++L).set (H.length+n) x=H++L.set n x:=by
 rw[wo _ _ (w9 _ _)];simp
theorem n_lt0 (n:Nat):(0<n+1)=True:=by simp
theorem n_lts (m n:Nat):(m+1<n+1)=(m<n):=by simp
theorem n_le0 (n:Nat):(0≤n)=True:=by simp
theorem n_les (m n:Nat):(m+1≤n+1)=(m≤n):=by simp
theorem n_lea (m n:Nat):(m≤m+n)=True:=by simp
theorem n_lta (m n:Nat):(m<m+(n+1))=True:=by simp
section
variable (lim:Nat) (ops:List Oper) (j:Nat) (dst:Option Tmp) (ty:TypeId) (pos:String) (after:Array Edge) (gd:Option (Nat×Bool)) (s:St) (f:Eff)
theorem ask_move (x:Operand):askD lim ops j ⟨dst,.move x,ty,pos,after,gd⟩ s f=true:=rfl
theorem qte (x:Operand):askD lim ops j ⟨dst,.assign x,ty,pos,after,gd⟩ s f=true:=rfl
theorem ask_pick (x y z:Operand):askD lim ops j ⟨dst,.pick x y z,ty,pos,after,gd⟩ s f=true:=rfl
theorem ask_build (t:TypeId) (ps:Array (Nat×Operand)):askD lim ops j ⟨dst,.build t ps,ty,pos,after,gd⟩ s f=true:=rfl
theorem qoa (t:TypeId) (m:Nat) (ps:Array (Nat×Operand)):askD lim ops j ⟨dst,.buildSlice t m ps,ty,pos,after,gd⟩ s f=true:=rfl
theorem qqk (x:Operand):askD lim ops j ⟨dst,.nilCheck x,ty,pos,after,gd⟩ s f=true:=rfl
theorem ask_binOp (o:BinOp) (t t2:TypeId) (x y:Operand):askD lim ops j ⟨dst,.binOp o t x y t2,ty,pos,after,gd⟩ s f=true:=rfl
theorem ask_unOp (o:UnOp) (t:TypeId) (x:Operand):askD lim ops j ⟨dst,.unOp o t x,ty,pos,after,gd⟩ s f=true:=rfl
theorem qrw (t t2:TypeId) (x:Operand):askD lim ops j ⟨dst,.convert t t2 x,ty,pos,after,gd⟩ s f=true:=rfl
theorem qlw (t:TypeId) (x:Operand):askD lim ops j ⟨dst,.makeInterface t x,ty,pos,after,gd⟩ s f=true:=rfl
theorem qql (x:Fn) (p q:Array Operand):askD lim ops j ⟨dst,.makeFunc x p q,ty,pos,after,gd⟩ s f=true:=rfl
theorem ask_slice (t:TypeId) (x:Operand) (p q r:Option Operand):askD lim ops j ⟨dst,.slice t x p q r,ty,pos,after,gd⟩ s f=true:=rfl
theorem qpk (t:TypeId) (x:Operand) (m:Nat):askD lim ops j ⟨dst,.fieldAddr t x m,ty,pos,after,gd⟩ s f=true:=rfl
theorem ask_field (t:TypeId) (x:Operand) (m:Nat):askD lim ops j ⟨dst,.field t x m,ty,pos,after,gd⟩ s f=true:=rfl
theorem qpl (t:TypeId) (x y:Operand):askD lim ops j ⟨dst,.indexAddr t x y,ty,pos,after,gd⟩ s f=true:=rfl
theorem ask_index (t:TypeId) (x y:Operand):askD lim ops j ⟨dst,.index t x y,ty,pos,after,gd⟩ s f=true:=rfl
theorem qrx (x:Operand) (m:Nat):askD lim ops j ⟨dst,.extract x m,ty,pos,after,gd⟩ s f=true:=rfl
def askL (lim:Nat):Option AVal→Bool
 |some (.ptr b _)=>b<lim
 |some (.mptr ..)=>false
 |_=>true
theorem askL_ptr (b o:Nat):askL lim (some (.ptr b o))=decide (b<lim):=rfl
theorem askL_eptr (cs:List AVal) (o:Nat):askL lim (some (.eptr cs o))=true:=rfl
theorem ask_load (t:TypeId) (x:Operand):askD lim ops j ⟨dst,.load t x,ty,pos,after,gd⟩ s f=askL lim (qab x s.tmps):=by
 simp only[askD,cls,askL]
 cases qab x s.tmps with
 |none=>rfl
 |some a=>cases a<;>rfl
def qbl:List Edge→Bool
 |[]=>true
 |e::r=>Go.Region.binds .any e && qbl r
theorem qqm:qbl []=true:=rfl
theorem ba_data (n:Nat) (r:List Edge):qbl (⟨n,.data⟩::r)=qbl r:=rfl
theorem ba_chain (n:Nat) (r:List Edge):qbl (⟨n,.chain⟩::r)=qbl r:=rfl
theorem ba_guard (n:Nat) (r:List Edge):qbl (⟨n,.guard⟩::r)=qbl r:=rfl
theorem ba_phase (n:Nat) (r:List Edge):qbl (⟨n,.phase⟩::r)=qbl r:=rfl
theorem ba_text (n:Nat) (d:Departure) (r:List Edge):qbl (⟨n,.textOnly d⟩::r)=false:=rfl
theorem ba_gc (n:Nat) (d:Departure) (r:List Edge):qbl (⟨n,.gcOnly d⟩::r)=false:=rfl
theorem qry (l:List Edge):l.all (Go.Region.binds .any)=qbl l:=by
 induction l with
 |nil=>rfl
 |cons e r ih=>simp only[wj,qbl,ih]
theorem pb_nil (q:Nat):qbt q []=false:=rfl
theorem pb_data (q n:Nat) (r:List Edge):qbt q (⟨n,.data⟩::r)=((n==q)||qbt q r):=rfl
theorem pb_chain (q n:Nat) (r:List Edge):qbt q (⟨n,.chain⟩::r)=((n==q)||qbt q r):=rfl
theorem pb_guard (q n:Nat) (r:List Edge):qbt q (⟨n,.guard⟩::r)=((n==q)||qbt q r):=rfl
theorem pb_phase (q n:Nat) (r:List Edge):qbt q (⟨n,.phase⟩::r)=((n==q)||qbt q r):=rfl
theorem pb_text (q n:Nat) (d:Departure) (r:List Edge):qbt q (⟨n,.textOnly d⟩::r)=qbt q r:=rfl
theorem pb_gc (q n:Nat) (d:Departure) (r:List Edge):qbt q (⟨n,.gcOnly d⟩::r)=qbt q r:=rfl
def apartU (af:List Edge) (ts:List AVal) (d:List Nat) (j:Nat) (ops:List Oper) (_:Unit):Bool:=qaf af ts d 0 j ops
theorem apartU_eq (af:List Edge) (ts:List AVal) (d:List Nat):apartU af ts d j ops ()=qaf af ts d 0 j ops:=rfl
def stU (ops:List Oper) (j:Nat) (o:Oper) (ts:List AVal) (_:Unit):Bool:=stOk ops j o ts
theorem stU_eq (o:Oper) (ts:List AVal):stU ops j o ts ()=stOk ops j o ts:=rfl
def callU (af:List Edge) (ts:List AVal) (d:List Nat) (j:Nat) (ops:List Oper) (_:Unit):Bool:=qdt ops j||(qex ops j && qaf af ts d 0 j ops)
def askW (b:Bool) (k:Unit→Bool):Bool:=b||k ()
theorem askW_true (k:Unit→Bool):askW true k=true:=rfl
theorem qtf (k:Unit→Bool):askW false k=k ():=rfl
def askC (b:Bool) (k:Unit→Bool):Bool:=b||k ()
theorem askC_true (k:Unit→Bool):askC true k=true:=rfl
theorem ao_ptr (d:List Nat) (b o:Nat):qfu d (some (.ptr b o))= !d.contains b:=rfl
theorem ao_eptr (d:List Nat) (cs:List AVal) (o:Nat):qfu d (some (.eptr cs o))=true:=rfl
theorem ct_nil (b:Nat):([]:List Nat).contains b=false:=rfl
theorem ct_cons (a b:Nat) (r:List Nat):(a::r).contains b=((b==a)||r.contains b):=by rw[List.contains_cons]
theorem af_zero (af:List Edge) (ts:List AVal) (d:List Nat) (q:Nat) (l:List Oper):qaf af ts d q 0 l=true:=by unfold qaf;rfl
theorem af_load (af:List Edge) (ts:List AVal) (d:List Nat) (q m:Nat) (r:List Oper) (t:TypeId) (a:Operand):qaf af ts d q (m+1) (⟨dst,.load t a,ty,pos,after,gd⟩::r)=((qbt q af||qfu d (qab a ts)) && qaf af ts d (q+1) m r):=rfl
theorem af_move (af:List Edge) (ts:List AVal) (d:List Nat) (q m:Nat) (r:List Oper) (x:Operand):qaf af ts d q (m+1) (⟨dst,.move x,ty,pos,after,gd⟩::r)=qaf af ts d (q+1) m r:=by simp only[qaf,wa]
theorem af_assign (af:List Edge) (ts:List AVal) (d:List Nat) (q m:Nat) (r:List Oper) (x:Operand):qaf af ts d q (m+1) (⟨dst,.assign x,ty,pos,after,gd⟩::r)=qaf af ts d (q+1) m r:=by simp only[qaf,wa]
theorem af_pick (af:List Edge) (ts:List AVal) (d:List Nat) (q m:Nat) (r:List Oper) (x y z:Operand):qaf af ts d q (m+1) (⟨dst,.pick x y z,ty,pos,after,gd⟩::r)=qaf af ts d (q+1) m r:=by simp only[qaf,wa]
theorem af_build (af:List Edge) (ts:List AVal) (d:List Nat) (q m:Nat) (r:List Oper) (t:TypeId) (ps:Array (Nat×Operand)):qaf af ts d q (m+1) (⟨dst,.build t ps,ty,pos,after,gd⟩::r)=qaf af ts d (q+1) m r:=by simp only[qaf,wa]
theorem qpm (af:List Edge) (ts:List AVal) (d:List Nat) (q m:Nat) (r:List Oper) (t:TypeId) (m2:Nat) (ps:Array (Nat×Operand)):qaf af ts d q (m+1) (⟨dst,.buildSlice t m2 ps,ty,pos,after,gd⟩::r)=qaf af ts d (q+1) m r:=by simp only[qaf,wa]
theorem af_store (af:List Edge) (ts:List AVal) (d:List Nat) (q m:Nat) (r:List Oper) (t:TypeId) (x y:Operand):qaf af ts d q (m+1) (⟨dst,.store t x y,ty,pos,after,gd⟩::r)=qaf af ts d (q+1) m r:=by simp only[qaf,wa]
theorem qrz (af:List Edge) (ts:List AVal) (d:List Nat) (q m:Nat) (r:List Oper) (x:Operand):qaf af ts d q (m+1) (⟨dst,.nilCheck x,ty,pos,after,gd⟩::r)=qaf af ts d (q+1) m r:=by simp only[qaf,wa]
theorem af_binOp (af:List Edge) (ts:List AVal) (d:List Nat) (q m:Nat) (r:List Oper) (o:BinOp) (t t2:TypeId) (x y:Operand):qaf af ts d q (m+1) (⟨dst,.binOp o t x y t2,ty,pos,after,gd⟩::r)=qaf af ts d (q+1) m r:=by simp only[qaf,wa]
theorem af_unOp (af:List Edge) (ts:List AVal) (d:List Nat) (q m:Nat) (r:List Oper) (o:UnOp) (t:TypeId) (x:Operand):qaf af ts d q (m+1) (⟨dst,.unOp o t x,ty,pos,after,gd⟩::r)=qaf af ts d (q+1) m r:=by simp only[qaf,wa]
theorem qtg (af:List Edge) (ts:List AVal) (d:List Nat) (q m:Nat) (r:List Oper) (t t2:TypeId) (x:Operand):qaf af ts d q (m+1) (⟨dst,.convert t t2 x,ty,pos,after,gd⟩::r)=qaf af ts d (q+1) m r:=by simp only[qaf,wa]
theorem qmn (af:List Edge) (ts:List AVal) (d:List Nat) (q m:Nat) (r:List Oper) (t:TypeId) (x:Operand):qaf af ts d q (m+1) (⟨dst,.makeInterface t x,ty,pos,after,gd⟩::r)=qaf af ts d (q+1) m r:=by simp only[qaf,wa]
theorem qr0 (af:List Edge) (ts:List AVal) (d:List Nat) (q m:Nat) (r:List Oper) (x:Fn) (p2 q2:Array Operand):qaf af ts d q (m+1) (⟨dst,.makeFunc x p2 q2,ty,pos,after,gd⟩::r)=qaf af ts d (q+1) m r:=by simp only[qaf,wa]
theorem af_slice (af:List Edge) (ts:List AVal) (d:List Nat) (q m:Nat) (r:List Oper) (t:TypeId) (x:Operand) (p2 q2 r2:Option Operand):qaf af ts d q (m+1) (⟨dst,.slice t x p2 q2 r2,ty,pos,after,gd⟩::r)=qaf af ts d (q+1) m r:=by simp only[qaf,wa]
theorem qqn (af:List Edge) (ts:List AVal) (d:List Nat) (q m:Nat) (r:List Oper) (t:TypeId) (x:Operand) (m2:Nat):qaf af ts d q (m+1) (⟨dst,.fieldAddr t x m2,ty,pos,after,gd⟩::r)=qaf af ts d (q+1) m r:=by simp only[qaf,wa]
theorem af_field (af:List Edge) (ts:List AVal) (d:List Nat) (q m:Nat) (r:List Oper) (t:TypeId) (x:Operand) (m2:Nat):qaf af ts d q (m+1) (⟨dst,.field t x m2,ty,pos,after,gd⟩::r)=qaf af ts d (q+1) m r:=by simp only[qaf,wa]
theorem qqo (af:List Edge) (ts:List AVal) (d:List Nat) (q m:Nat) (r:List Oper) (t:TypeId) (x y:Operand):qaf af ts d q (m+1) (⟨dst,.indexAddr t x y,ty,pos,after,gd⟩::r)=qaf af ts d (q+1) m r:=by simp only[qaf,wa]
theorem af_index (af:List Edge) (ts:List AVal) (d:List Nat) (q m:Nat) (r:List Oper) (t:TypeId) (x y:Operand):qaf af ts d q (m+1) (⟨dst,.index t x y,ty,pos,after,gd⟩::r)=qaf af ts d (q+1) m r:=by simp only[qaf,wa]
theorem qth (af:List Edge) (ts:List AVal) (d:List Nat) (q m:Nat) (r:List Oper) (x:Operand) (m2:Nat):qaf af ts d q (m+1) (⟨dst,.extract x m2,ty,pos,after,gd⟩::r)=qaf af ts d (q+1) m r:=by simp only[qaf,wa]
theorem af_alloc (af:List Edge) (ts:List AVal) (d:List Nat) (q m:Nat) (r:List Oper) (t:TypeId):qaf af ts d q (m+1) (⟨dst,.alloc t,ty,pos,after,gd⟩::r)=qaf af ts d (q+1) m r:=by simp only[qaf,wa]
theorem af_box (af:List Edge) (ts:List AVal) (d:List Nat) (q m:Nat) (r:List Oper) (t:TypeId) (x:Operand):qaf af ts d q (m+1) (⟨dst,.box t x,ty,pos,after,gd⟩::r)=qaf af ts d (q+1) m r:=by simp only[qaf,wa]
theorem af_call (af:List Edge) (ts:List AVal) (d:List Nat) (q m:Nat) (r:List Oper) (c:Go.Call):qaf af ts d q (m+1) (⟨dst,.call c,ty,pos,after,gd⟩::r)=qaf af ts d (q+1) m r:=by simp only[qaf,wa]
theorem ask_store (t:TypeId) (x y:Operand):askD lim ops j ⟨dst,.store t x y,ty,pos,after,gd⟩ s f=(askW (qbl after.toList) (apartU after.toList s.tmps f.dirt j ops) && askW (qbl after.toList) (stU ops j ⟨dst,.store t x y,ty,pos,after,gd⟩ s.tmps)):=by
 simp only[askD,cls,askW,apartU,stU,qel,Bool.not_not,qry]
theorem ask_alloc (t:TypeId):askD lim ops j ⟨dst,.alloc t,ty,pos,after,gd⟩ s f=decide (lim≤s.heap.length):=rfl
theorem ask_box (t:TypeId) (x:Operand):askD lim ops j ⟨dst,.box t x,ty,pos,after,gd⟩ s f=decide (lim≤s.heap.length):=rfl
theorem qti (a:Array Operand) (t:TypeId):askD lim ops j ⟨dst,.call { callee:= .builtin .append,args:=a,argTypes:= #[t,t] },ty,pos,after,gd⟩ s f=decide (lim≤s.heap.length):=by
 have h0:cls ⟨dst,.call { callee:= .builtin .append,args:=a,argTypes:= #[t,t] },ty,pos,after,gd⟩=2:=qk1 (by simp)
 unfold askD;rw[h0];rfl
theorem ask_len (a:Array Operand) (ts:Array TypeId):askD lim ops j ⟨dst,.call { callee:= .builtin .len,args:=a,argTypes:=ts },ty,pos,after,gd⟩ s f=true:=rfl
theorem ask_max (a:Array Operand) (ts:Array TypeId):askD lim ops j ⟨dst,.call { callee:= .builtin .max,args:=a,argTypes:=ts },ty,pos,after,gd⟩ s f=true:=rfl
theorem ask_min (a:Array Operand) (ts:Array TypeId):askD lim ops j ⟨dst,.call { callee:= .builtin .min,args:=a,argTypes:=ts },ty,pos,after,gd⟩ s f=true:=rfl
theorem ask_call (x:Operand) (a:Array Operand) (ts:Array TypeId):askD lim ops j ⟨dst,.call { callee:= .value x,args:=a,argTypes:=ts },ty,pos,after,gd⟩ s f=askC f.isSame (callU after.toList s.tmps f.dirt j ops):=by
 simp only[askD,cls,askC,callU,Bool.or_assoc]
end
structure qfp (P:Program) (t e sz:Nat):Prop where
 el:qcl P t=some e
 si:qai P e=some sz
 re:∃n by_ z,sz=n+1∧qaz P e=some by_∧qal P e=some z∧(0<by_ && by_≤128 && z.cells.length==n+1)=true
variable {P t}
theorem qg0 {e sz:Nat} (ok:qfp P t e sz) {es fs:List (List AVal)} {tk':Tk} (hl:es.length+fs.length≤qae) (he1:qbi sz es=true) (hf1:qbi sz fs=true) (hne:¬fs=[]):
 qa5 P h t (.slice es .full) (.slice fs tk')=some (.slice (es++fs) (.own h.length),.heap (h++[.tok (es.length+fs.length) e]) []):=by
 obtain⟨he,hs,n,by_,z,rfl,hb,hz,hc⟩:=ok
 simp only[wc,decide_eq_true_eq]at hc
 have hl':es.length+fs.length≤qew:=hl
 simp only[qa5,he,hs,hb,hz,hl',he1,hf1,hc]
 cases fs with
 |nil=>exact absurd rfl hne
 |cons f r=>rfl
theorem qk6 {e sz:Nat} (ok:qfp P t e sz) {es:List (List AVal)} {tk tk':Tk} (hl:es.length≤qae) (he1:qbi sz es=true):
 qa5 P h t (.slice es tk) (.slice [] tk')=some (.slice es tk,.same):=by
 obtain⟨he,hs,n,by_,z,rfl,hb,hz,hc⟩:=ok
 simp only[wc,decide_eq_true_eq]at hc
 have hl':es.length≤qew:=hl
 have h0:qbi (n+1) ([]:List (List AVal))=true:=rfl
 simp[qa5,he,hs,hb,hz,hl',he1,hc,h0]
theorem qh3 {e sz:Nat} (ok:qfp P t e sz) {es fs:List (List AVal)} {tk':Tk} {p:Nat}
 (hl:es.length+fs.length≤qae) (he1:qbi sz es=true) (hf1:qbi sz fs=true) (hne:¬fs=[]) (hp:h[p]? =some (.tok es.length e)) (ht:(tk'== .own p)=false):
 qa5 P h t (.slice es (.own p)) (.slice fs tk')=some (.slice (es++fs) (.own p),.heap (h.set p (.tok (es.length+fs.length) e)) [p]):=by
 obtain⟨he,hs,n,by_,z,rfl,hb,hz,hc⟩:=ok
 simp only[wc,decide_eq_true_eq]at hc
 have hl':es.length+fs.length≤qew:=hl
 simp only[qa5,he,hs,hb,hz,hl',he1,hf1,hc]
 cases fs with
 |nil=>exact absurd rfl hne
 |cons f r=>simp[hp,ht]
def zc (z:Option AVal):List AVal:=match z with|some z=>z.cells|none=>[]
theorem zc_some (z:AVal):zc (some z)=z.cells:=rfl
theorem qk7 {e sz:Nat} (ok:qfp P t e sz) (cmp:List TypeId) (call:Call) (dst:Option Tmp) (ty:TypeId) (pos:String) (after:Array Edge) (gd:Option (Nat×Bool)) (ts:List AVal) (h:qaa) (n:Nat) (ps:Array (Nat×Operand)) (hn:n*sz≤65536) (hna:(decide (1<sz) && ps.toList.any (fun x=>isAgg0 x.2))=false):
 opA P cmp call ⟨dst,.buildSlice t n ps,ty,pos,after,gd⟩ ts h=
 bnd (qau ts ps.toList) fun us=>bnd (qa3 (fun i=>some (i*sz,sz)) (List.replicate n (zc (qal P e))).flatten us) fun cs=>bnd (qbp (chop sz n cs)) fun es=>some (.val (.slice es .full) .same):=by
 obtain⟨he,hs,m,by_,z,rfl,hb,hz,hc⟩:=ok
 simp only[wc,decide_eq_true_eq]at hc
 rw[qph (he:=he) (hs:=hs) (hz:=hz) (hn:=by simp[hn,hc.2]) (hna:=by simpa using hna),hz]
 rfl
end
section
def fillS (b:Bool) (x:Option (List AVal)) (k:List AVal→Option (List AVal)):Option (List AVal):=if b then bnd x k else none
theorem qtj (x:Option (List AVal)) (k:List AVal→Option (List AVal)):fillS true x k=bnd x k:=rfl
theorem fill_nil (p:Nat→Option (Nat×Nat)) (cs:List AVal):qa3 p cs []=some cs:=rfl
theorem fill_cons (p:Nat→Option (Nat×Nat)) (cs:List AVal) (i:Nat) (v:AVal) (r:List (Nat×AVal)):
 qa3 p cs ((i,v)::r)=bnd (p i) fun q=>fillS (v.cells.length==q.2) (qaj cs q.1 v.cells) fun cs=>qa3 p cs r:=by
 simp only[qa3]
 cases p i with
 |none=>rfl
 |some q=>
  obtain⟨a,b⟩:=q
  simp only[bnd,fillS,beq_iff_eq]
  split
  ·cases qaj cs a v.cells<;>rfl
  ·rfl
theorem setc_zero (cs vs:List AVal) (h:vs.length≤cs.length):qaj cs 0 vs=some (vs++cs.drop vs.length):=by
 cases cs<;>simp only[qaj]<;>rw[if_pos h]
theorem setc_succ (c:AVal) (cs vs:List AVal) (n:Nat):qaj (c::cs) (n+1) vs=(qaj cs n vs).map (c:: ·):=rfl
theorem chop_zero (s:Nat) (cs:List AVal):chop s 0 cs=[]:=rfl
theorem chop_succ (s n:Nat) (cs:List AVal):chop s (n+1) cs=cs.take s::chop s n (cs.drop s):=rfl
theorem elems_nil:qbp []=some []:=rfl
theorem qtk (c:List AVal) (r:List (List AVal)):qbp (c::r)=bnd (qcb c) fun c=>bnd (qbp r) fun r=>some (c::r):=by
 simp only[qbp];cases qcb c with
 |none=>rfl
 |some c=>cases qbp r<;>rfl
def elemS (b:Bool) (cs:List AVal):Option (List AVal):=if b then some cs else none
theorem qtl (cs:List AVal):elemS true cs=some cs:=rfl
theorem elem_eq (cs:List AVal):qcb cs=elemS ((cs.map qav).all qax) (cs.map qav):=rfl
theorem head_nil (s:Nat):qbi s []=true:=rfl
theorem head_cons (s:Nat) (c:List AVal) (r:List (List AVal)):qbi s (c::r)=(c.length==s):=rfl
theorem tk_full (p:Nat):(Tk.full==Tk.own p)=false:=rfl
theorem tk_free (p:Nat):(Tk.free==Tk.own p)=false:=rfl
theorem s0_int (k:IntKind) (a:Int):qav (.int k a)= .int k a:=rfl
theorem s0_bool (x:Bool):qav (.bool x)= .bool x:=rfl
theorem s0_str (s:List UInt8):qav (.str s)= .str s:=rfl
theorem s0_slice (es:List (List AVal)) (tk:Tk):qav (.slice es tk)= .slice es .free:=rfl
theorem s0_ptr (p q:Nat):qav (.ptr p q)= .ptr p q:=rfl
theorem s0_func (f:FuncId) (p q:List AVal):qav (.func f p q)= .func f p q:=rfl
theorem s0_nilf:qav .nilf= .nilf:=rfl
end
theorem lit_le:((0:Int)≤0)=True∧((0:Int)≤1)=True∧((0:Int)≤2)=True∧((0:Int)≤3)=True∧((0:Int)≤4)=True∧((0:Int)≤5)=True∧((0:Int)≤6)=True∧((0:Int)≤7)=True∧((0:Int)≤8)=True∧((0:Int)≤9)=True∧((0:Int)≤10)=True∧((0:Int)≤11)=True:=by simp
theorem lit_nat:Int.toNat (0:Int)=0∧Int.toNat (1:Int)=1∧Int.toNat (2:Int)=2∧Int.toNat (3:Int)=3∧Int.toNat (4:Int)=4∧Int.toNat (5:Int)=5∧Int.toNat (6:Int)=6∧Int.toNat (7:Int)=7∧Int.toNat (8:Int)=8∧Int.toNat (9:Int)=9∧Int.toNat (10:Int)=10∧Int.toNat (11:Int)=11:=by simp
end Go.Ab
namespace Go.Ab
def rowS:List AVal→Option (List (List AVal))
 |[]=>some []
 |v::r=>if v.cells.length=1 then bnd (qcb v.cells) fun c=>bnd (rowS r) fun l=>some (c::l)else none
theorem rowS_nil:rowS []=some []:=rfl
theorem rowS_str (s:List UInt8) (r:List AVal):rowS (.str s::r)=bnd (rowS r) fun l=>some ([.str s]::l):=rfl
theorem rowS_int (k:IntKind) (n:Int) (r:List AVal):rowS (.int k n::r)=bnd (rowS r) fun l=>some ([.int k n]::l):=rfl
def rowV (us:List AVal):Option OR:=bnd (rowS us) fun es=>some (.val (.slice es .full) .same)
theorem rowV_eq (us:List AVal):rowV us=bnd (rowS us) fun es=>some (.val (.slice es .full) .same):=rfl
def qk8:Nat→List AVal→List (Nat×AVal)
 |_,[]=>[]
 |k,v::r=>(k,v)::qk8 (k+1) r
def numOs:Nat→List Operand→List (Nat×Operand)
 |_,[]=>[]
 |k,v::r=>(k,v)::numOs (k+1) r
theorem qow (ts:List AVal):∀(os:List Operand) (k:Nat),qau ts (numOs k os)=(qao ts os).map (qk8 k)
 |[],k=>rfl
 |o::r,k=>by
  simp only[numOs,qau,qao,qow ts r (k+1)]
  cases qab o ts<;>cases qao ts r<;>rfl
theorem qqp (pre:List AVal) (x:AVal) (c:AVal) (r:List AVal):qaj (pre++x::r) pre.length [c]=some (pre++c::r):=by
 induction pre with
 |nil=>simp[qaj]
 |cons p q ih=>simp only[wl,wb,qaj,ih];rfl
def qcr (us:List AVal):Bool:=us.all fun v=>v.cells.length==1
theorem qqq:∀(us z pre:List AVal),us.length=z.length→
 qa3 (fun i=>some (i*1,1)) (pre++z) (qk8 pre.length us)=if qcr us then some (pre++us.flatMap AVal.cells)else none
 |[],z,pre,h=>by
  cases z with
  |nil=>rfl
  |cons=>simp at h
 |v::r,z,pre,h=>by
  cases z with
  |nil=>simp at h
  |cons x z=>
   simp only[qk8,qa3,Nat.mul_one]
   by_cases hv:v.cells.length=1
   ·obtain⟨c,hc⟩:=we.1 hv
    rw[if_pos hv,hc,qqp]
    have ih:=qqq r z (pre++[c]) (by simpa using h)
    simp only[wk,wq,wh,wb,wd,Nat.mul_one]at ih
    simp only[ih,qcr,wj,hc,w6,wb,wd,wq]
    rfl
   ·rw[if_neg hv]
    simp[qcr,hv]
theorem qqr:∀cs:List AVal,chop 1 cs.length cs=cs.map ([·])
 |[]=>rfl
 |c::r=>by simp only[wb,chop,wv,wca,wg,wt,qqr r,wu]
def rowT (us:List AVal):Option (List (List AVal)):=if qcr us then qbp ((us.flatMap AVal.cells).map ([·]))else none
theorem rowT_cons (v:AVal) (r:List AVal) (c:AVal) (hc:v.cells=[c]):rowT (v::r)=bnd (qcb [c]) fun x=>bnd (rowT r) fun l=>some (x::l):=by
 have h1:qcr (v::r)=qcr r:=by simp[qcr,hc]
 unfold rowT
 rw[h1]
 cases h2:qcr r with
 |false=>
  cases qcb [c]with
  |none=>rfl
  |some x=>rfl
 |true=>
  have h3:((v::r).flatMap AVal.cells).map (fun x=>[x])=[c]::(r.flatMap AVal.cells).map (fun x=>[x]):=by simp[hc]
  simp only[if_true]
  rw[h3]
  simp only[qbp]
  cases qcb [c]with
  |none=>rfl
  |some x=>cases qbp (List.map (fun x=>[x]) (List.flatMap AVal.cells r))<;>rfl
theorem qox:∀us:List AVal,rowT us=rowS us
 |[]=>rfl
 |v::r=>by
  have ih:=qox r
  simp only[rowS]
  by_cases hv:v.cells.length=1
  ·obtain⟨c,hc⟩:=we.1 hv
   rw[rowT_cons v r c hc,ih,if_pos hv,hc]
  ·rw[if_neg hv]
   simp[rowT,qcr,hv]
theorem bs1 {P:Program} {t:TypeId} {e:TypeId} (ok:qfp P t e 1) (os:List Operand) (hz:(zc (qal P e)).length=1) (cmp:List TypeId) (call:Call) (dst:Option Tmp) (ty:TypeId) (pos:String) (after:Array Edge) (gd:Option (Nat×Bool)) (ts:List AVal) (h:qaa) (n:Nat) (ps:Array (Nat×Operand)) (hn:n≤65536)
 (hps:ps.toList=numOs 0 os) (hl:os.length=n):
 opA P cmp call ⟨dst,.buildSlice t n ps,ty,pos,after,gd⟩ ts h=bnd (qao ts os) rowV:=by
 rw[qk7 ok cmp call dst ty pos after gd ts h n ps (by simpa using hn) rfl,hps,qow]
 cases ha:qao ts os with
 |none=>rfl
 |some us=>
  have hu:us.length=n:=by
   have:∀(os:List Operand) (us:List AVal),qao ts os=some us→us.length=os.length:=by
    intro os
    induction os with
    |nil=>intro us h;simp only[qao,Option.some.injEq]at h;subst h;rfl
    |cons o r ih=>
     intro us h
     simp only[qao]at h
     split at h
     ·rename_i h1 h2
      simp only[Option.some.injEq]at h;subst h
      simp[ih _ h2]
     ·cases h
   rw[this os us ha,hl]
  obtain⟨z,hz'⟩:=we.1 hz
  have hr:(List.replicate n (zc (qal P e))).flatten=List.replicate n z:=by
   rw[hz']
   clear hl hu hps hn
   induction n with
   |zero=>rfl
   |succ m ih=>simp only[ww,w7,ih];rfl
  have hf:=qqq us (List.replicate n z) [] (by simpa using hu)
  simp only[wm,wd]at hf
  simp only[waa,bnd,hr,hf,rowV]
  have hc:∀vs:List AVal,qcr vs=true→(vs.flatMap AVal.cells).length=vs.length:=by
   intro vs
   induction vs with
   |nil=>intro _;rfl
   |cons v r ih=>
    intro h
    simp only[qcr,wj,wc,beq_iff_eq]at h
    simp only[w6,wh,wb,h.1,ih h.2]
    omega
  rw[←qox us]
  by_cases h1:qcr us=true
  ·have:n=(us.flatMap AVal.cells).length:=by rw[hc us h1,hu]
   unfold rowT
   rw[if_pos h1,if_pos h1]
   simp only[bnd]
   rw[this,qqr]
  ·unfold rowT;rw[if_neg h1,if_neg h1]
section
variable (P:Program) (cmp:List TypeId) (t:TypeId) (n:Bool)
theorem one_nilf:oneA .nilf=true:=rfl
theorem one_nilp:oneA .nilp=true:=rfl
theorem one_nili:oneA .nili=true:=rfl
theorem one_eptr (cs:List AVal) (o:Nat):oneA (.eptr cs o)=true:=rfl
theorem one_iface (t:TypeId) (v:AVal):oneA (.iface t v)=true:=rfl
theorem pure_nilf:qax .nilf=true:=rfl
theorem pure_nilp:qax .nilp=true:=rfl
theorem pure_nili:qax .nili=true:=rfl
theorem refs_nilf:refs .nilf=[]:=rfl
theorem refs_nilp:refs .nilp=[]:=rfl
theorem refs_nili:refs .nili=[]:=rfl
theorem refs_ptr (b o:Nat):refs (.ptr b o)=[b]:=rfl
theorem refs_func (f:FuncId) (p q:List AVal):refs (.func f p q)=qag p++qag q:=rfl
theorem s0_nilp:qav .nilp= .nilp:=rfl
theorem s0_nili:qav .nili= .nili:=rfl
theorem s0_iface (t:TypeId) (v:AVal):qav (.iface t v)= .iface t v:=rfl
theorem s2_nilf:strip2 .nilf= .nilf:=rfl
theorem s2_nilp:strip2 .nilp= .nilp:=rfl
theorem s2_nili:strip2 .nili= .nili:=rfl
theorem s2_ptr (b o:Nat):strip2 (.ptr b o)= .ptr b o:=rfl
theorem s2_func (f:FuncId) (p q:List AVal):strip2 (.func f p q)= .func f p q:=rfl
theorem s3_nilf:strip3 .nilf= .nilf:=rfl
theorem s3_nilp:strip3 .nilp= .nilp:=rfl
theorem s3_nili:strip3 .nili= .nili:=rfl
theorem s3_ptr (b o:Nat):strip3 (.ptr b o)= .ptr b o:=rfl
theorem s3_func (f:FuncId) (p q:List AVal):strip3 (.func f p q)= .func f p q:=rfl
theorem arg_nilf:argA .nilf= .nilf:=rfl
theorem arg_nilp:argA .nilp= .nilp:=rfl
theorem arg_nili:argA .nili= .nili:=rfl
theorem qr1 (e:TypeId) (l:List (List UInt8)):lenA (some (.slice e)) (qah l)=some (.val (.int .i64 l.length) .same):=by simp[qah,lenA]
def eqF (d:Option TypeDesc) (b:Bool):Option AVal:=match d with
 |some (.func ..)=>some (.bool b)
 |_=>none
theorem eqF_func (a c:Array TypeId) (v b:Bool):eqF (some (.func a c v)) b=some (.bool b):=rfl
theorem bin_enn:binA P cmp .eql t n .nilf .nilf=eqF (P.underlying t) true:=by
 simp only[binA,eqT,eqF]
 cases P.underlying t with
 |none=>rfl
 |some d=>cases d<;>rfl
theorem bin_enf (f:FuncId) (p q:List AVal):binA P cmp .eql t n .nilf (.func f p q)=eqF (P.underlying t) false:=by
 simp only[binA,eqT,eqF]
 cases P.underlying t with
 |none=>rfl
 |some d=>cases d<;>rfl
theorem bin_efn (f:FuncId) (p q:List AVal):binA P cmp .eql t n (.func f p q) .nilf=eqF (P.underlying t) false:=by
 simp only[binA,eqT,eqF]
 cases P.underlying t with
 |none=>rfl
 |some d=>cases d<;>rfl
theorem bin_nnn:binA P cmp .neq t n .nilf .nilf=eqF (P.underlying t) false:=by
 simp only[binA,eqT,eqF]
 cases P.underlying t with
 |none=>rfl
 |some d=>cases d<;>rfl
theorem bin_nnf (f:FuncId) (p q:List AVal):binA P cmp .neq t n .nilf (.func f p q)=eqF (P.underlying t) true:=by
 simp only[binA,eqT,eqF]
 cases P.underlying t with
 |none=>rfl
 |some d=>cases d<;>rfl
theorem bin_nfn (f:FuncId) (p q:List AVal):binA P cmp .neq t n (.func f p q) .nilf=eqF (P.underlying t) true:=by
 simp only[binA,eqT,eqF]
 cases P.underlying t with
 |none=>rfl
 |some d=>cases d<;>rfl
def eqBd (d:Option TypeDesc) (b:Bool):Option AVal:=match d with
 |some .bool=>some (.bool b)
 |_=>none
theorem eqBd_bool (b:Bool):eqBd (some .bool) b=some (.bool b):=rfl
theorem bin_beq (a b:Bool):binA P cmp .eql t n (.bool a) (.bool b)=eqBd (P.underlying t) (a==b):=by
 simp only[binA,eqT,eqBd]
 cases P.underlying t with
 |none=>rfl
 |some d=>cases d<;>rfl
theorem bin_bne (a b:Bool):binA P cmp .neq t n (.bool a) (.bool b)=eqBd (P.underlying t) (!(a==b)):=by
 simp only[binA,eqT,eqBd]
 cases P.underlying t with
 |none=>rfl
 |some d=>cases d<;>rfl
end
def row1 (sz:Nat) (z:List AVal) (v:AVal):Option OR:=bnd (qa3 (fun i=>some (i*sz,sz)) z [(0,v)]) fun cs=>bnd (qbp (chop sz 1 cs)) fun es=>some (.val (.slice es .full) .same)
theorem bs_one {P:Program} {t e sz:Nat} (ok:qfp P t e sz) (hn:1*sz≤65536) {cmp:List TypeId} {call:Call} {dst:Option Tmp} {ty:TypeId} {pos:String} {after:Array Edge} {gd:Option (Nat×Bool)} {ts:List AVal} {h:qaa} (o:Operand) (ho:isAgg0 o=false):
 opA P cmp call ⟨dst,.buildSlice t 1 #[(0,o)],ty,pos,after,gd⟩ ts h=bnd (qab o ts) (row1 sz (zc (qal P e))):=by
 rw[qk7 ok cmp call dst ty pos after gd ts h 1 _ hn (by simp[ho])]
 simp only[qau]
 cases qab o ts with
 |none=>rfl
 |some v=>simp[bnd,row1,List.replicate]
end Go.Ab
namespace Go.Ab
abbrev sims:=Ji (Ji (Ji (Ji (Ji (Ji (Ji (Ji @b_skip @b_exit) (Ji @b_ret (Ji @b_region @b_drawn))) (Ji (Ji @b_seq (Ji @b_cond @b_block)) (Ji @b_loop (Ji @b_nil @b_cons)))) (Ji (Ji (Ji @qsu @qrm) (Ji @b_go (Ji @b_sk @b_consG))) (Ji (Ji @stepB_val (Ji @qsv @qsw)) (Ji @qrn (Ji @stepB_pan @ifB_true))))) (Ji (Ji (Ji (Ji @stepD_val @qsx) (Ji @qsy (Ji @qro @fin_ret))) (Ji (Ji @qsz (Ji @fin_pan @res_nil)) (Ji @res_tmp (Ji @res_cell @qbr)))) (Ji (Ji (Ji @qbs @qp9) (Ji @bindS_ret (Ji @qsk @bindS_pan))) (Ji (Ji @qpg (Ji @qsl @qrg)) (Ji @qqa (Ji @qsm @qsn)))))) (Ji (Ji (Ji (Ji (Ji @qrh @valO_some) (Ji @bnd_some (Ji @bnd_none @retO_ret))) (Ji (Ji @op_move (Ji @op_assign @op_alloc)) (Ji @op_box (Ji @op_load @op_store)))) (Ji (Ji (Ji @qri @op_binOp) (Ji @op_unOp (Ji @qso @op_pick))) (Ji (Ji @qqb (Ji @op_field @op_callF)) (Ji @op_callV (Ji @op_len @op_append))))) (Ji (Ji (Ji (Ji @qqc @op_index) (Ji @op_slice (Ji @qqd @qsp))) (Ji (Ji @op_lookup (Ji @qqe @op_insert)) (Ji @apX_one (Ji @apX_full @apX_free)))) (Ji (Ji (Ji @apX_own (Ji @qrj @qsq)) (Ji @op_max (Ji @op_min @upd_nil))) (Ji (Ji @qqg (Ji @lit_le @lit_nat)) (Ji @guard_eq (Ji @qs0 @qrp))))))) (Ji (Ji (Ji (Ji (Ji (Ji @c_tmp @c_bool) (Ji @c_int (Ji @c_str @c_nilp))) (Ji (Ji @c_nils (Ji @c_nilf @c_nili)) (Ji @c_func (Ji @c_agg @ofVs_nil)))) (Ji (Ji (Ji @ofVs_cons @ofV0_bool) (Ji @ofV0_int (Ji @ofV0_str @ofV0_nils))) (Ji (Ji @ofV0_nilp (Ji @ofV0_nilf @ofV0_nili)) (Ji @args_nil (Ji @args_cons @parts_nil))))) (Ji (Ji (Ji (Ji @qs1 @opt_none) (Ji @opt_some (Ji @set_some @set_none))) (Ji (Ji @cells_agg (Ji @cells_int @qs2)) (Ji @cells_str (Ji @qrq @cells_ptr)))) (Ji (Ji (Ji @qs3 @qs4) (Ji @qs5 (Ji @qrr @qs6))) (Ji (Ji @inBox_box (Ji @load_ptr @load_eptr)) (Ji @partS_one (Ji @partS_agg @qs7)))))) (Ji (Ji (Ji (Ji (Ji @store_ptr @storeS_ok) (Ji @len_str (Ji @len_slice @bin_add))) (Ji (Ji @bin_sub (Ji @bin_mul @bin_quo)) (Ji @bin_rem (Ji @bin_eql @bin_neq)))) (Ji (Ji (Ji @bin_lss @bin_leq) (Ji @bin_gtr (Ji @bin_geq @bin_or))) (Ji (Ji @bin_cat (Ji @bin_seql @bin_sneq)) (Ji @un_not (Ji @un_neg @max_int))))) (Ji (Ji (Ji (Ji @min_int @ia_slice) (Ji @idxS_ok (Ji @ix_str @ixS_ok))) (Ji (Ji @arg_int (Ji @arg_bool @arg_str)) (Ji @arg_slice (Ji @arg_ptr @arg_func)))) (Ji (Ji (Ji @arg_agg (Ji @strip_int @qs8)) (Ji @strip_str (Ji @qrs @qbx))) (Ji (Ji @qrt (Ji @qs9 @qru)) (Ji @qta (Ji @qqj @qtb)))))))) (Ji (Ji (Ji (Ji (Ji (Ji (Ji @refs_int @refs_bool) (Ji @refs_str (Ji @refs_free @refs_full))) (Ji (Ji @qi1 (Ji @qtc @refsL_nil)) (Ji @qtd (Ji @tuple_one @tuple_nil)))) (Ji (Ji (Ji @tuple_two @of_same) (Ji @of_heap (Ji @qrv @pure_int))) (Ji (Ji @pure_bool (Ji @pure_str @pure_free)) (Ji @one_int (Ji @one_bool @one_str))))) (Ji (Ji (Ji (Ji @one_slice @one_ptr) (Ji @one_func (Ji @heap_at0 @heap_at))) (Ji (Ji @set_at0 (Ji @set_at @n_lt0)) (Ji @n_lts (Ji @n_le0 @n_les)))) (Ji (Ji (Ji @n_lea @n_lta) (Ji @ask_move (Ji @qte @ask_pick))) (Ji (Ji @ask_build (Ji @qoa @qqk)) (Ji @ask_binOp (Ji @ask_unOp @qrw)))))) (Ji (Ji (Ji (Ji (Ji @qlw @qql) (Ji @ask_slice (Ji @qpk @ask_field))) (Ji (Ji @qpl (Ji @ask_index @qrx)) (Ji @askL_ptr (Ji @askL_eptr @ask_load)))) (Ji (Ji (Ji @qqm @ba_data) (Ji @ba_chain (Ji @ba_guard @ba_phase))) (Ji (Ji @ba_text (Ji @ba_gc @pb_nil)) (Ji @pb_data (Ji @pb_chain @pb_guard))))) (Ji (Ji (Ji (Ji @pb_phase @pb_text) (Ji @pb_gc (Ji @apartU_eq @stU_eq))) (Ji (Ji @askW_true (Ji @qtf @askC_true)) (Ji @ao_ptr (Ji @ao_eptr @ct_nil)))) (Ji (Ji (Ji @ct_cons (Ji @af_zero @af_load)) (Ji @af_move (Ji @af_assign @af_pick))) (Ji (Ji @af_build (Ji @qpm @af_store)) (Ji @qrz (Ji @af_binOp @af_unOp))))))) (Ji (Ji (Ji (Ji (Ji (Ji @qtg @qmn) (Ji @qr0 (Ji @af_slice @qqn))) (Ji (Ji @af_field (Ji @qqo @af_index)) (Ji @qth (Ji @af_alloc @af_box)))) (Ji (Ji (Ji @af_call @ask_store) (Ji @ask_alloc (Ji @ask_box @qti))) (Ji (Ji @ask_len (Ji @ask_max @ask_min)) (Ji @ask_call (Ji @zc_some @qtj))))) (Ji (Ji (Ji (Ji @fill_nil @fill_cons) (Ji @setc_zero (Ji @setc_succ @chop_zero))) (Ji (Ji @chop_succ (Ji @elems_nil @qtk)) (Ji @qtl (Ji @elem_eq @head_nil)))) (Ji (Ji (Ji @head_cons @tk_full) (Ji @tk_free (Ji @s0_int @s0_bool))) (Ji (Ji @s0_str (Ji @s0_slice @s0_ptr)) (Ji @s0_func (Ji @s0_nilf @part_eq)))))) (Ji (Ji (Ji (Ji (Ji @rowS_nil @rowS_str) (Ji @rowS_int (Ji @rowV_eq @one_nilf))) (Ji (Ji @one_nilp (Ji @one_nili @one_eptr)) (Ji @one_iface (Ji @pure_nilf @pure_nilp)))) (Ji (Ji (Ji @pure_nili @refs_nilf) (Ji @refs_nilp (Ji @refs_nili @refs_ptr))) (Ji (Ji @refs_func (Ji @s0_nilp @s0_nili)) (Ji @s0_iface (Ji @s2_nilf @s2_nilp))))) (Ji (Ji (Ji (Ji @s2_nili @s2_ptr) (Ji @s2_func (Ji @s3_nilf @s3_nilp))) (Ji (Ji @s3_nili (Ji @s3_ptr @s3_func)) (Ji @arg_nilf (Ji @arg_nilp @arg_nili)))) (Ji (Ji (Ji @qr1 (Ji @eqF_func @bin_enn)) (Ji @bin_enf (Ji @bin_efn @bin_nnn))) (Ji (Ji @bin_nnf (Ji @bin_nfn @eqBd_bool)) (Ji @bin_beq (Ji @bin_bne @bs_one))))))))
abbrev core:=Ji (Ji (Ji (Ji (Ji (@wu.{0,0}) (Ji (@wea.{0,0}) (@wb.{0}))) (Ji (Ji (@wd.{0}) (@wh.{0})) (Ji (@ww.{0}) (@List.replicate_zero.{0})))) (Ji (Ji (@wl.{0}) (Ji (@wm.{0}) (@wba.{0}))) (Ji (Ji (@List.getElem?_cons_zero.{0}) (@List.getElem?_cons_succ.{0})) (Ji (@wz.{0}) (@w5.{0}))))) (Ji (Ji (Ji @Nat.zero_add (Ji (@waa.{0,0}) @Int.toNat_natCast)) (Ji (Ji @decide_true @decide_false) (Ji (@wt.{0}) (@beq_self_eq_true.{0})))) (Ji (Ji @Bool.and_self (Ji (@List.length_map.{0,0}) (@wj.{0}))) (Ji (Ji (@List.all_nil.{0}) (@wk.{0})) (Ji @Bool.not_true @Bool.not_false))))) (Ji (Ji (Ji (Ji @Bool.or_self (Ji @Bool.true_or @Bool.or_true)) (Ji (Ji @wa @Bool.and_true) (Ji @Bool.false_and @Bool.and_false))) (Ji (Ji @Bool.false_or (Ji @Bool.or_false @Int.natCast_nonneg)) (Ji (Ji @w8 (@wv.{0})) (Ji (@wca.{0}) (@List.take_nil.{0}))))) (Ji (Ji (Ji (@wg.{0}) (Ji (@List.drop_nil.{0}) (@w7.{0}))) (Ji (Ji (@List.flatten_nil.{0}) (@List.cons_ne_nil.{0})) (Ji @Nat.one_mul @Nat.zero_mul))) (Ji (Ji @beq_true (Ji @beq_false @not_false_eq_true)) (Ji (Ji @Bool.not_eq_true (@if_true.{1})) (Ji (@if_false.{1}) @Bool.false_eq_true)))))
abbrev ats:=Ji (Ji (Ji (Ji @upd_nil @qqg) (Ji (@wu.{0,0}) (@wea.{0,0}))) (Ji (Ji (@wl.{0}) (@wm.{0})) (Ji (@wba.{0}) (@List.getD_cons_succ.{0})))) (Ji (Ji (Ji (@List.getD_cons_zero.{0}) (@w5.{0})) (Ji (@wz.{0}) (@wg.{0}))) (Ji (Ji (@wt.{0}) (@wb.{0})) (Ji (@wd.{0}) (@wk.{0}))))
abbrev pe:=Ji (Ji (Ji (Ji @PExpr.len @PExpr.ones) (Ji @PExpr.strip (Ji @PExpr.norefs @PExpr.get0))) (Ji (Ji @PExpr.get1 (Ji @PExpr.get2 @PExpr.get3)) (Ji @PExpr.get4 (Ji @PExpr.take @PExpr.set4)))) (Ji (Ji (Ji @PExpr.takeA @PExpr.dropA) (Ji @PExpr.drop (Ji @PExpr.pures @qpj))) (Ji (Ji @qrk (Ji @qpi @qrl)) (Ji @qqh (Ji @qqi @qn9))))
abbrev Z3:=Ji sims (Ji core pe)
end Go.Ab
