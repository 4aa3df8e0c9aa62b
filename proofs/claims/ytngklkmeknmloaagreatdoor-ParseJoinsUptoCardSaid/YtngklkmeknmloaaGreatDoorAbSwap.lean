/- Two that are made in one region, in either order: the same but for the numbers of the blocks. -/
import Derived.Test.YtngklkmeknmloaaGreatDoorAbCode1
set_option linter.unusedSimpArgs false
set_option linter.unusedVariables false
set_option maxRecDepth 100000
set_option maxHeartbeats 4000000
open List renaming getElem?_append_right→wa,getElem?_eq_getElem→wb,getElem?_append_left→wc,getElem_of_mem→we,length_append→wg,getElem?_set_self→wh,getElem?_eq_some_iff→wi,mem_cons→wj,mem_of_getElem?→wm,length_set→wo,getElem?_set_ne→wq,not_mem_nil→wt,length_cons→wu,mem_append→wv,length_nil→ww,getElem?_eq_none→wz,mem_of_mem_drop→w6,mem_of_mem_take→w9,append_assoc→wba,cons_append→wca,nil_append→wea,map_cons→wfa,map_drop→wga
open Option renaming map_some→wd,map_eq_some_iff→w8
open Array renaming getElem?_eq_getElem→wf
open Nat renaming le_refl→wk
open Bool renaming and_eq_true→w7,not_eq_true'→waa,or_eq_true→wda
namespace Go.Ab
variable {P:Program} {cmp:List TypeId} {call:Call}
theorem qnp (σ:Nat→Nat):∀l:List AVal,renL σ l=l.map (ren σ)
 |[]=>rfl
 |v::r=>by simp only[renL,qnp σ r,wfa]
theorem qy5 {v:Value} {a:AVal} (h:ofV0 v=some a):refs a=[]:=by
 unfold ofV0 at h
 split at h<;>cases h<;>rfl
theorem qsb:∀{l:List Value} {as:List AVal},ofVs l=some as→qad as=[]
 |[],as,h=>by cases h;rfl
 |v::r,as,h=>by
  simp only[ofVs]at h
  split at h
  ·rename_i a l h1 h2
   cases h
   simp only[qad,qy5 h1,qsb h2,List.append_nil]
  ·cases h
theorem qnq {v:Value} {a:AVal} (h:ofV v=some a):refs a=[]:=by
 unfold ofV at h
 split at h
 ·cases hh:ofVs _ with
  |none=>rw[hh]at h;cases h
  |some l=>rw[hh]at h;cases h;simp only[refs,qsb hh]
 ·cases hh:ofVs _ with
  |none=>rw[hh]at h;cases h
  |some l=>rw[hh]at h;cases h;simp only[refs,qsb hh]
 ·exact qy5 h
theorem qgp (σ:Nat→Nat) (x:Operand) (ts:List AVal):qae x (renL σ ts)=(qae x ts).map (ren σ):=by
 cases x with
 |tmp t=>simp only[qae,qg6]
 |const v=>
  simp only[qae]
  cases h:ofV v with
  |none=>rfl
  |some a=>simp only[wd];rw[qfc a (by rw[qnq h];simp)]
 |func f=>simp only[qae];rfl
 | «global» g=>simp only[qae];rfl
structure Sw (n N:Nat) (σ τ:Nat→Nat):Prop where
 ts:∀b,τ (σ b)=b
 st:∀b,σ (τ b)=b
 lo:∀b,b<n→σ b=b
 hi:∀b,N≤b→σ b=b
theorem Sw.up {n N:Nat} {σ τ:Nat→Nat} (h:Sw n N σ τ) {b:Nat} (hb:n≤b):n≤σ b:=by
 by_cases hc:σ b<n
 ·have h1:=h.lo (σ b) hc
  have h2:=h.ts (σ b)
  rw[h1,h.ts]at h2;omega
 ·omega
theorem Sw.comp {n N:Nat} {σ τ σ' τ':Nat→Nat} (h:Sw n N σ τ) (k:Sw n N σ' τ'):Sw n N (fun b=>σ' (σ b)) (fun b=>τ (τ' b)) where
 ts b:=by rw[k.ts,h.ts]
 st b:=by rw[h.st,k.st]
 lo b hb:=by rw[h.lo b hb,k.lo b hb]
 hi b hb:=by rw[h.hi b hb,k.hi b hb]
theorem Sw.weak {n m N M:Nat} {σ τ:Nat→Nat} (h:Sw n N σ τ) (hm:m≤n) (hN:N≤M):Sw m M σ τ:=
 ⟨h.ts,h.st,fun b hb=>h.lo b (by omega),fun b hb=>h.hi b (by omega)⟩
structure RenS (σ:Nat→Nat) (s s':St):Prop where
 t:s'.tmps=renL σ s.tmps
 l:s'.heap.length=s.heap.length
 h:∀b,s'.heap[σ b]? =(s.heap[b]?).map (renB σ)
theorem renB_renB {σ τ:Nat→Nat} (x:Blk):renB τ (renB σ x)=renB (fun b=>τ (σ b)) x:=by
 cases x<;>simp only[renB,qgm]
theorem RenS.comp {σ σ':Nat→Nat} {s s' s'':St} (h:RenS σ s s') (k:RenS σ' s' s''):RenS (fun b=>σ' (σ b)) s s'' where
 t:=by rw[k.t,h.t,qgm]
 l:=k.l.trans h.l
 h b:=by
  rw[k.h (σ b),h.h b]
  cases s.heap[b]? with
  |none=>rfl
  |some x=>simp only[wd,renB_renB]
theorem qu2 (σ:Nat→Nat) (ops:List Oper) (o:Oper) (ts:List AVal):qbw ops o (renL σ ts)=qbw ops o ts:=by
 unfold qbw
 split
 ·rfl
 ·split
  ·split
   ·rename_i d hd
    rw[qg6]
    cases ts[d]? with
    |none=>rfl
    |some v=>cases v<;>first|rfl|(rename_i es tk;cases tk<;>rfl)
   ·rfl
  ·rfl
theorem qlb (σ:Nat→Nat) (ts:List AVal) (d:Option Tmp) (v:AVal):setT (renL σ ts) d (ren σ v)=renL σ (setT ts d v):=by
 cases d with
 |none=>rfl
 |some d=>simp only[setT,qnp,List.map_set]
theorem qy6 (σ:Nat→Nat) (v:AVal):(ren σ v).cells=renL σ v.cells:=by
 cases v with
 |slice es tk=>cases tk<;>rfl
 |agg cs=>simp only[ren,AVal.cells]
 |_=>rfl
theorem one_ren (σ:Nat→Nat) (v:AVal):oneA (ren σ v)=oneA v:=by
 cases v with
 |slice es tk=>cases tk<;>rfl
 |_=>rfl
theorem ones_ren (σ:Nat→Nat) (l:List AVal):(renL σ l).all oneA=l.all oneA:=by
 induction l with
 |nil=>rfl
 |cons v r ih=>simp only[renL,List.all_cons,one_ren,ih]
theorem qnr (σ:Nat→Nat):∀(cs:List AVal) (n:Nat) (vs:List AVal),qar (renL σ cs) n (renL σ vs)=(qar cs n vs).map (renL σ)
 |cs,0,vs=>by
  have e:∀(cs:List AVal),qar cs 0 vs=if vs.length≤cs.length then some (vs++cs.drop vs.length)else none:=fun cs=>by cases cs<;>rfl
  have e':∀(cs:List AVal),qar cs 0 (renL σ vs)=if(renL σ vs).length≤cs.length then some (renL σ vs++cs.drop (renL σ vs).length)else none:=fun cs=>by cases cs<;>rfl
  rw[e,e',qd4,qd4]
  by_cases h:vs.length≤cs.length
  ·rw[if_pos h,if_pos h];simp only[wd,qnp,List.map_append,wga]
  ·rw[if_neg h,if_neg h];rfl
 |c::cs,n+1,vs=>by
  simp only[renL,qar,qnr σ cs n vs]
  cases qar cs n vs<;>rfl
 |[],n+1,vs=>rfl
theorem q32 {σ:Nat→Nat} (hinj:∀a b,σ a=σ b→a=b) {d:List Nat} {v:Option AVal} (h:qcp d v=true):qcp (d.map σ) (v.map (ren σ))=true:=by
 cases v with
 |none=>rfl
 |some a=>
  cases a with
  |ptr b o=>
   simp only[qcp,wd,ren,waa,List.contains_eq_mem,decide_eq_false_iff_not]at h ⊢
   intro hm
   obtain⟨c,hc,he⟩:=List.mem_map.1 hm
   exact h (by rw[hinj b c he.symm];exact hc)
  |slice es tk=>cases tk<;>rfl
  |_=>rfl
theorem qwq {σ:Nat→Nat} (hinj:∀a b,σ a=σ b→a=b) {af:List Edge} {ts:List AVal} {d:List Nat}:∀(q j:Nat) (l:List Oper),qaj af ts d q j l=true→qaj af (renL σ ts) (d.map σ) q j l=true
 |q,0,l,_=>by unfold qaj;rfl
 |q,j+1,[],_=>by unfold qaj;rfl
 |q,j+1,o::r,h=>by
  simp only[qaj,w7]at h ⊢
  refine⟨?_,qwq hinj (q+1) j r h.2⟩
  have h1:=h.1
  split at h1
  ·rw[wda]at h1 ⊢
   rw[qgp]
   exact h1.imp id (q32 hinj)
  ·rfl
theorem qy7 (σ:Nat→Nat) (ts:List AVal):∀l:List Operand,qbh (renL σ ts) l=(qbh ts l).map (renL σ)
 |[]=>rfl
 |o::r=>by
  simp only[qbh,qgp,qy7 σ ts r]
  cases qae o ts with
  |none=>rfl
  |some a=>cases qbh ts r<;>rfl
theorem qwr (σ:Nat→Nat) (ts:List AVal):∀l:List (Nat×Operand),qb2 (renL σ ts) l=(qb2 ts l).map (List.map fun x=>(x.1,ren σ x.2))
 |[]=>rfl
 |(i,o)::r=>by
  simp only[qb2,qgp,qwr σ ts r]
  cases qae o ts with
  |none=>rfl
  |some a=>cases qb2 ts r<;>rfl
theorem qsc (σ:Nat→Nat) (pl:Nat→Option (Nat×Nat)):∀(l:List (Nat×AVal)) (cs:List AVal),qc6 pl (renL σ cs) (l.map fun x=>(x.1,ren σ x.2))=(qc6 pl cs l).map (renL σ)
 |[],cs=>rfl
 |(i,v)::r,cs=>by
  simp only[wfa,qc6]
  cases pl i with
  |none=>rfl
  |some p=>
   obtain⟨off,size⟩:=p
   simp only[qy6,qd4,qnr]
   split
   ·cases qar cs off v.cells with
    |none=>rfl
    |some c=>simp only[wd];exact qsc σ pl r c
   ·rfl
theorem renL_take (σ:Nat→Nat) (n:Nat) (l:List AVal):(renL σ l).take n=renL σ (l.take n):=by simp only[qnp,List.map_take]
theorem renL_drop (σ:Nat→Nat) (n:Nat) (l:List AVal):(renL σ l).drop n=renL σ (l.drop n):=by simp only[qnp,wga]
theorem partA_ren (σ:Nat→Nat) (t:TypeId) (cs:List AVal) (off:Nat):qek P t (renL σ cs) off=(qek P t cs off).map (ren σ):=by
 unfold qek
 split
 ·simp only[renL_drop,renL_take,qd4]
  split<;>rfl
 ·rw[qg6]
 ·rfl
theorem qvc (σ:Nat→Nat) {t:TypeId} {z:AVal} (hz:qat P t=some z):refs z=[]:=by
 unfold qat at hz
 split at hz
 ·split at hz
  ·exact qnq hz
  ·cases hz
 ·cases hz
theorem q2u {σ:Nat→Nat} (hinj:∀a b,σ a=σ b→a=b) {h h':qab} (hl:h'.length=h.length) (hh:∀b,h'[σ b]? =(h[b]?).map (renB σ)) (hσ:σ h.length=h.length) {t:TypeId} {s x v:AVal} {f:Eff} (e:qb1 P h t s x=some (v,f)):
 ∃f',qb1 P h' t (ren σ s) (ren σ x)=some (ren σ v,f')∧((f= .same∧f'= .same)∨(∃k T,f= .heap (h++[.tok k T]) []∧f'= .heap (h'++[.tok k T]) [])∨
  ∃b n k T,h[b]? =some (.tok n T)∧f= .heap (h.set b (.tok k T)) [b]∧f'= .heap (h'.set (σ b) (.tok k T)) [σ b]):=by
 unfold qb1 at e
 split at e
 ·rename_i el es tk fs tk' hel
  split at e
  ·rename_i sz by_ z hsz hby hz
   split at e
   ·rename_i hc
    have rs:∃tk2,ren σ (.slice es tk)= .slice es tk2∧(tk= .full→tk2= .full)∧(∀b,tk= .own b→tk2= .own (σ b)):=by
     cases tk with
     |free=>exact⟨.free,rfl,(fun h=>by cases h),(fun b h=>by cases h)⟩
     |full=>exact⟨.full,rfl,(fun _=>rfl),(fun b h=>by cases h)⟩
     |own b=>exact⟨.own (σ b),rfl,(fun h=>by cases h),(fun c h=>by cases h;rfl)⟩
    have rx:∃tk2,ren σ (.slice fs tk')= .slice fs tk2∧(∀b,(tk'==Tk.own b)=false→(tk2==Tk.own (σ b))=false):=by
     cases tk' with
     |free=>exact⟨.free,rfl,fun b _=>rfl⟩
     |full=>exact⟨.full,rfl,fun b _=>rfl⟩
     |own c=>
      refine⟨.own (σ c),rfl,fun b hb=> ?_⟩
      simp only[beq_eq_false_iff_ne,ne_eq,Tk.own.injEq]at hb ⊢
      exact fun h=>hb (hinj _ _ h)
    obtain⟨t2,e2,f2,o2⟩:=rs
    obtain⟨t3,e3,o3⟩:=rx
    rw[e2,e3]
    unfold qb1
    simp only[hel,hsz,hby,hz,hc,if_true]
    split at e
    ·cases e;exact⟨.same,by rw[e2],.inl ⟨rfl,rfl⟩⟩
    ·split at e
     ·cases e
      rw[f2 rfl]
      exact⟨_,by simp only[ren,hσ,hl],.inr (.inl ⟨_,_,rfl,rfl⟩)⟩
     ·rename_i b
      split at e
      ·rename_i n e' hb
       split at e
       ·rename_i hcnd
        simp only[w7,decide_eq_true_eq,waa]at hcnd
        obtain⟨⟨hn,rfl⟩,ht⟩:=hcnd
        cases e
        rw[o2 b rfl]
        simp only[hh b,hb,wd,renB]
        rw[if_pos (by simp only[hn,o3 b ht];simp)]
        exact⟨_,rfl,.inr (.inr ⟨b,n,_,_,hb,rfl,rfl⟩)⟩
       ·cases e
      ·cases e
     ·cases e
   ·cases e
  ·cases e
 ·cases e
theorem qql {o:Oper} {ts:List AVal} {h:qab} {v:AVal} {f:Eff} (ha:qiz o=true) (e:opA P cmp call o ts h=some (.val v f)):
 ∃args ats x y t,o.op= .call { callee:= .builtin .append,args:=args,argTypes:=ats }∧qbh ts args.toList=some [x,y]∧ats[0]? =some t∧(ats[1]? ==some t)=true∧qb1 P h t x y=some (v,f):=by
 obtain⟨dst,op,type,pos,after,guard⟩:=o
 cases op with
 |call r=>
  obtain⟨callee,args,ats⟩:=r
  cases callee with
  |builtin b=>
   cases b with
   |append=>
    simp only[opA]at e
    split at e
    ·rename_i x t hx ht
     simp at e
    ·rename_i x y t hx ht
     split at e
     ·rename_i a g hg
      split at e
      ·rename_i h1
       cases e
       exact⟨args,ats,x,y,t,rfl,hx,ht,h1,hg⟩
      ·cases e
     ·cases e
    ·cases e
   |_=>simp[qiz]at ha
  |_=>simp[qiz]at ha
 |_=>simp[qiz]at ha
theorem qu3 {o:Oper} {ts:List AVal} {h:qab} {v:AVal} {f:Eff} {args:Array Operand} {ats:Array TypeId} {x y:AVal} {t:TypeId} (ho:o.op= .call { callee:= .builtin .append,args:=args,argTypes:=ats }) (hx:qbh ts args.toList=some [x,y]) (ht:ats[0]? =some t) (h1:(ats[1]? ==some t)=true) (hg:qb1 P h t x y=some (v,f)):
 opA P cmp call o ts h=some (.val v f):=by
 obtain⟨dst,op,type,pos,after,guard⟩:=o
 simp only at ho
 subst ho
 simp only[opA,hx,ht,hg,h1,if_true]
inductive OkA:AVal→Prop where
 |undef:OkA .undef
 |bool (b:Bool):OkA (.bool b)
 |int (k:IntKind) (n:Int):OkA (.int k n)
 |str (s:List UInt8):OkA (.str s)
 |nilp:OkA .nilp
 |ptr (b o:Nat):OkA (.ptr b o)
 |eptr (cs:List AVal) (o:Nat):(∀a∈cs,qcu a=true)→(∀a∈cs,OkA a)→OkA (.eptr cs o)
 |slice (es:List (List AVal)) (tk:Tk):(∀c∈es,∀a∈c,qcu a=true)→(∀c∈es,∀a∈c,OkA a)→OkA (.slice es tk)
 |func (f:FuncId) (a b:List AVal):(∀x∈a,OkA x)→(∀x∈b,OkA x)→OkA (.func f a b)
 |nilf:OkA .nilf
 |iface (t:TypeId) (v:AVal):OkA v→OkA (.iface t v)
 |nili:OkA .nili
 |agg (cs:List AVal):(∀a∈cs,OkA a)→OkA (.agg cs)
 |tuple (cs:List AVal):(∀a∈cs,OkA a)→OkA (.tuple cs)
theorem okA_of {S:Sh} {a:AVal} {v:Value} (k:VR S a v):OkA a:=by
 induction k with
 |undef=>exact .undef
 |bool b=>exact .bool b
 |int k n=>exact .int k n
 |str s l e=>exact .str l
 |nilp=>exact .nilp
 |ptr b o r e=>exact .ptr b o
 |eptr cs o r o0 vs h1 hp _ ih=>
  refine .eptr cs o hp (fun a ha=> ?_)
  obtain⟨j,hj,rfl⟩:=we ha
  exact ih j _ (wb hj)
 |slice es tk ad n cap esz vs hn hc hcm hsp hsz h1 hp _ ht ih=>
  refine .slice es tk hp (fun c hc a ha=> ?_)
  obtain⟨i,hi,rfl⟩:=we hc
  obtain⟨j,hj,rfl⟩:=we ha
  exact ih i _ j _ (wb hi) (wb hj)
 |snil tk e=>exact .slice [] tk (fun c hc=>by cases hc) (fun c hc=>by cases hc)
 |func f a b x y hx hy _ _ i1 i2=>
  refine .func f a b (fun u hu=> ?_) (fun u hu=> ?_)
  ·obtain⟨j,hj,rfl⟩:=we hu
   exact i1 j _ x[j] (wb hj) (wf (by omega))
  ·obtain⟨j,hj,rfl⟩:=we hu
   exact i2 j _ y[j] (wb hj) (wf (by omega))
 |nilf=>exact .nilf
 |iface t a v _ ih=>exact .iface t a ih
 |nili=>exact .nili
 |agg a x hx _ ih=>
  refine .agg a (fun u hu=> ?_)
  obtain⟨j,hj,rfl⟩:=we hu
  exact ih j _ x[j] (wb hj) (wf (by omega))
 |tuple a x hx _ ih=>
  refine .tuple a (fun u hu=> ?_)
  obtain⟨j,hj,rfl⟩:=we hu
  exact ih j _ x[j] (wb hj) (wf (by omega))
theorem refsL_mem {l:List AVal} {b:Nat} (h:b∈qad l):∃v∈l,b∈refs v:=by
 induction l with
 |nil=>simp[qad]at h
 |cons x r ih=>
  simp only[qad,wv]at h
  rcases h with h|h
  ·exact⟨x,by simp,h⟩
  ·obtain⟨v,hv,hb⟩:=ih h
   exact⟨v,by simp[hv],hb⟩
theorem qjw {l:List AVal} {n:Nat} (h:∀v∈l,∀b∈refs v,b<n):∀b∈qad l,b<n:=fun b hb=>by
 obtain⟨v,hv,hb⟩:=refsL_mem hb
 exact h v hv b hb
theorem refs_lt [Tabs P] {S:Sh} {h:qab} {w:World} (k:WR P S h w) {a:AVal} {v:Value} (r:VR S a v):∀b∈refs a,b<h.length:=by
 induction r with
 |ptr b o r e=>intro c hc;simp only[refs,wj,wt,or_false]at hc;subst hc;exact(k.lt e).1
 |slice es tk ad n cap esz vs hn hc hcm hsp hsz h1 hp _ ht ih=>
  cases tk with
  |free=>intro c hc;simp[refs]at hc
  |full=>intro c hc;simp[refs]at hc
  |own t=>
   intro c hc
   simp only[refs,wj,wt,or_false]at hc;subst hc
   obtain⟨r,c,l,t1,_⟩:=ht
   exact(k.ltτ t1).1
 |snil tk e=>intro c hc;rcases e with rfl|rfl<;>simp[refs]at hc
 |func f a b x y hx hy _ _ i1 i2=>
  intro c hc
  simp only[refs,wv]at hc
  rcases hc with hc|hc
  ·refine qjw (fun u hu=> ?_) c hc
   obtain⟨j,hj,rfl⟩:=we hu
   exact i1 j _ x[j] (wb hj) (wf (by omega))
  ·refine qjw (fun u hu=> ?_) c hc
   obtain⟨j,hj,rfl⟩:=we hu
   exact i2 j _ y[j] (wb hj) (wf (by omega))
 |iface t a v _ ih=>intro c hc;exact ih c (by simpa[refs]using hc)
 |agg a x hx _ ih=>
  intro c hc
  simp only[refs]at hc
  refine qjw (fun u hu=> ?_) c hc
  obtain⟨j,hj,rfl⟩:=we hu
  exact ih j _ x[j] (wb hj) (wf (by omega))
 |tuple a x hx _ ih=>
  intro c hc
  simp only[refs]at hc
  refine qjw (fun u hu=> ?_) c hc
  obtain⟨j,hj,rfl⟩:=we hu
  exact ih j _ x[j] (wb hj) (wf (by omega))
 |_=>intro c hc;simp[refs]at hc
def WfA (n:Nat) (v:AVal):Prop:=OkA v∧∀b∈refs v,b<n
structure Wf (s:St):Prop where
 t:∀v∈s.tmps,WfA s.heap.length v
 h:∀(b:Nat) (cs:List AVal),s.heap[b]? =some (Blk.box cs)→∀v∈cs,WfA s.heap.length v
theorem WfA.weak {n m:Nat} {v:AVal} (h:WfA n v) (k:n≤m):WfA m v:=⟨h.1,fun b hb=>Nat.lt_of_lt_of_le (h.2 b hb) k⟩
theorem WfA.pure {n:Nat} {v:AVal} (h:OkA v) (p:qcu v=true):WfA n v:=by
 refine⟨h,fun b hb=> ?_⟩
 unfold qcu at p
 simp only[w7]at p
 have:refs v=[]:=by simpa using p.2
 rw[this]at hb;cases hb
theorem wf_of [Tabs P] {S:Sh} {w:World} {s:St} {x:List Value} (k:WR P S s.heap w) (ht:VRl S s.tmps x):Wf s where
 t v hv:=by
  obtain⟨j,hj,rfl⟩:=we hv
  obtain⟨u,_,hr⟩:=ht.get (wb hj)
  exact⟨okA_of hr,refs_lt k hr⟩
 h b cs hb v hv:=by
  obtain⟨r,C,T,_,_,hl,_⟩:=k.box b cs hb
  obtain⟨j,hj,rfl⟩:=we hv
  obtain⟨u,_,hr⟩:=hl.get (wb hj)
  exact⟨okA_of hr,refs_lt k hr⟩
theorem q0o {v:Value} {a:AVal} (h:ofV0 v=some a):OkA a:=by
 unfold ofV0 at h
 split at h<;>cases h
 ·exact .bool _
 ·exact .int _ _
 ·exact .str _
 ·exact .nilp
 ·exact .slice [] .full (fun c hc=>by cases hc) (fun c hc=>by cases hc)
 ·exact .nilf
 ·exact .nili
theorem qvd:∀{l:List Value} {as:List AVal},ofVs l=some as→∀a∈as,OkA a
 |[],as,h=>by cases h;intro a ha;cases ha
 |v::r,as,h=>by
  simp only[ofVs]at h
  split at h
  ·rename_i a l h1 h2
   cases h
   intro b hb
   rcases wj.1 hb with rfl|hb
   ·exact q0o h1
   ·exact qvd h2 b hb
  ·cases h
theorem okA_ofV {v:Value} {a:AVal} (h:ofV v=some a):OkA a:=by
 unfold ofV at h
 split at h
 ·cases hh:ofVs _ with
  |none=>rw[hh]at h;cases h
  |some l=>rw[hh]at h;cases h;exact .agg _ (qvd hh)
 ·cases hh:ofVs _ with
  |none=>rw[hh]at h;cases h
  |some l=>rw[hh]at h;cases h;exact .tuple _ (qvd hh)
 ·exact q0o h
theorem qsd {n:Nat} {v:Value} {a:AVal} (h:ofV v=some a):WfA n a:=⟨okA_ofV h,fun b hb=>by rw[qnq h]at hb;cases hb⟩
theorem qfl {s:St} (w:Wf s) {x:Operand} {a:AVal} (h:qae x s.tmps=some a):WfA s.heap.length a:=by
 cases x with
 |tmp t=>exact w.t a (wm h)
 |const v=>exact qsd h
 |func f=>cases h;exact⟨.func f [] [] (fun x hx=>by cases hx) (fun x hx=>by cases hx),fun b hb=>by simp[refs,qad]at hb⟩
 | «global» g=>cases h
theorem qqm {n:Nat} {v:AVal} (h:WfA n v):∀u∈v.cells,WfA n u:=by
 intro u hu
 cases v with
 |agg cs=>
  obtain⟨h1,h2⟩:=h
  cases h1 with
  |agg _ h1=>exact⟨h1 u hu,fun b hb=>h2 b (by
   simp only[refs]
   have hu':u∈cs:=hu
   clear hu h2 h1
   induction cs with
   |nil=>cases hu'
   |cons x r ih=>
    simp only[qad,wv]
    rcases wj.1 hu' with rfl|hu'
    ·exact .inl hb
    ·exact .inr (ih hu'))⟩
 |_=>simp only[AVal.cells,wj,wt,or_false]at hu;subst hu;exact h
theorem qx5 {n:Nat} {t:TypeId} {cs:List AVal} {off:Nat} {v:AVal} (h:∀u∈cs,WfA n u) (e:qek P t cs off=some v):WfA n v:=by
 unfold qek at e
 split at e
 ·simp only at e
  split at e
  ·cases e
   refine⟨.agg _ (fun a ha=>(h a (w6 (w9 ha))).1),fun b hb=> ?_⟩
   simp only[refs]at hb
   exact qjw (fun u hu=>(h u (w6 (w9 hu))).2) b hb
  ·cases e
 ·exact h v (wm e)
 ·cases e
theorem qo5 {n:Nat}:∀{cs:List AVal} {off:Nat} {vs cs':List AVal},(∀u∈cs,WfA n u)→(∀u∈vs,WfA n u)→qar cs off vs=some cs'→∀u∈cs',WfA n u
 |cs,0,vs,cs',h,k,e=>by
  have e1:qar cs 0 vs=if vs.length≤cs.length then some (vs++cs.drop vs.length)else none:=by cases cs<;>rfl
  rw[e1]at e
  split at e
  ·cases e
   intro u hu
   rcases wv.1 hu with hu|hu
   ·exact k u hu
   ·exact h u (w6 hu)
  ·cases e
 |c::cs,off+1,vs,cs',h,k,e=>by
  simp only[qar]at e
  cases hs:qar cs off vs with
  |none=>rw[hs]at e;cases e
  |some l=>
   rw[hs]at e;cases e
   intro u hu
   rcases wj.1 hu with rfl|hu
   ·exact h _ (by simp)
   ·exact qo5 (fun u hu=>h u (by simp[hu])) k hs u hu
 |[],off+1,vs,cs',_,_,e=>by cases e
theorem qpf {n:Nat} {ts:List AVal} {d:Option Tmp} {v:AVal} (h:∀u∈ts,WfA n u) (hv:WfA n v):∀u∈setT ts d v,WfA n u:=by
 intro u hu
 cases d with
 |none=>exact h u hu
 |some d=>
  rcases List.mem_or_eq_of_mem_set hu with hu|rfl
  ·exact h u hu
  ·exact hv
theorem qve {ops:List Oper} {j:Nat} {o:Oper} {s t:St} (ho:ops[j]? =some o) (hp:qdb o=true) (w:Wf s) {f:Eff} (e:qlr P cmp call ops j s t f):Wf t:=by
 obtain⟨o',ho',hc⟩:=e
 rw[ho]at ho';cases ho'
 rcases hc with⟨wx,v,ov,rfl⟩|⟨wx,rfl,rfl⟩
 ·have same:∀u:AVal,WfA s.heap.length u→f= .same→v=u→Wf ⟨setT s.tmps o.dst v,f.of s.heap,f.dirt++s.dirty⟩:=by
   rintro u hu rfl rfl
   exact⟨qpf w.t hu,w.h⟩
  obtain⟨dst,op,type,pos,after,guard⟩:=o
  cases op with
  |alloc ty=>
   simp only[opA]at ov
   split at ov
   ·rename_i z hz
    cases ov
    have hz':∀u∈z.cells,WfA (s.heap.length+1) u:=by
     unfold qat at hz
     split at hz
     ·split at hz
      ·exact qqm (qsd hz)
      ·cases hz
     ·cases hz
    refine⟨?_,?_⟩
    ·simp only[Eff.of,wg,wu,ww]
     refine qpf (fun u hu=>(w.t u hu).weak (by omega)) ⟨.ptr _ _,fun b hb=> ?_⟩
     simp only[refs,wj,wt,or_false]at hb;omega
    ·intro b cs hb
     simp only[Eff.of,wg,wu,ww]at hb ⊢
     by_cases hlt:b<s.heap.length
     ·rw[wc hlt]at hb
      exact fun u hu=>(w.h b cs hb u hu).weak (by omega)
     ·rw[wa (by omega)]at hb
      have:=wm hb
      simp only[wj,wt,or_false,Blk.box.injEq]at this
      subst this
      exact hz'
   ·cases ov
  |move x=>
   simp only[opA]at ov
   cases hc:qae x s.tmps with
   |none=>rw[hc]at ov;cases ov
   |some a=>rw[hc]at ov;cases ov;exact same _ (qfl w hc) rfl rfl
  |fieldAddr ty x k=>
   simp only[opA]at ov
   split at ov
   ·rename_i off ft b o hfp hcx
    cases ov
    have:=qfl w hcx
    exact same _ ⟨.ptr _ _,fun c hc=>this.2 c (by simpa[refs]using hc)⟩ rfl rfl
   ·rename_i off ft cs o hfp hcx
    cases ov
    have:=qfl w hcx
    refine same _ ⟨?_,fun c hc=>by simp[refs]at hc⟩ rfl rfl
    cases this.1 with
    |eptr _ _ h1 h2=>exact .eptr cs _ h1 h2
   ·cases ov
  |load ty x=>
   simp only[opA]at ov
   split at ov
   ·rename_i p hcx
    split at ov
    ·rename_i u hu
     cases ov
     have hpw:=qfl w hcx
     unfold qfe at hu
     split at hu
     ·split at hu
      ·rename_i hb
       exact same _ (qx5 (w.h _ _ hb) hu) rfl rfl
      ·cases hu
     ·rename_i cs off
      cases hpw.1 with
      |eptr _ _ h1 h2=>exact same _ (qx5 (fun a ha=>WfA.pure (h2 a ha) (h1 a ha)) hu) rfl rfl
     ·cases hu
    ·cases ov
   ·cases ov
  |indexAddr ty x y=>
   simp only[opA]at ov
   split at ov
   ·rename_i el es tk k n hu hcx hcy
    split at ov
    ·rename_i cs sz hes hsz
     split at ov
     ·cases ov
      have:=qfl w hcx
      cases this.1 with
      |slice _ _ h1 h2=>
       have hm:=wm hes
       exact same _ ⟨.eptr cs 0 (h1 cs hm) (h2 cs hm),fun c hc=>by simp[refs]at hc⟩ rfl rfl
     ·cases ov
    ·cases ov
   ·rename_i len el b o k n hu hcx hcy
    split at ov
    ·split at ov
     ·cases ov
      have:=qfl w hcx
      exact same _ ⟨.ptr _ _,fun c hc=>this.2 c (by simpa[refs]using hc)⟩ rfl rfl
     ·cases ov
    ·cases ov
   ·cases ov
  |store ty a x=>
   simp only[opA]at ov
   split at ov
   ·rename_i p u hp hu
    split at ov
    ·rename_i h1 b1 hst
     cases ov
     have huw:=qqm (qfl w hu)
     unfold qfu at hst
     split at hst
     ·rename_i b off
      split at hst
      ·rename_i cs n hb hn
       split at hst
       ·cases hset:qar cs off u.cells with
        |none=>rw[hset]at hst;cases hst
        |some cs'=>
         rw[hset]at hst
         simp only[wd,Option.some.injEq,Prod.mk.injEq]at hst
         obtain⟨rfl,rfl⟩:=hst
         have hcs:=qo5 (w.h b cs hb) huw hset
         refine⟨?_,?_⟩
         ·simp only[Eff.of,wo]
          exact qpf w.t ⟨.undef,fun c hc=>by simp[refs]at hc⟩
         ·intro c cs2 hc
          simp only[Eff.of,wo]at hc ⊢
          by_cases hbc:b=c
          ·subst hbc
           have hlt:=(wi.1 hb).1
           rw[wh hlt]at hc
           cases hc;exact hcs
          ·rw[wq hbc]at hc
           exact w.h c cs2 hc
       ·cases hst
      ·cases hst
     ·cases hst
    ·cases ov
   ·cases ov
  |build ty ps=>
   have key:∀(pl:Nat→Option (Nat×Nat)) (l:List (Nat×AVal)) (z c:List AVal),(∀u∈z,WfA s.heap.length u)→(∀p∈l,WfA s.heap.length p.2)→qc6 pl z l=some c→∀u∈c,WfA s.heap.length u:=by
    intro pl l
    induction l with
    |nil=>intro z c hz _ e;cases e;exact hz
    |cons p l ih=>
     obtain⟨i,v⟩:=p
     intro z c hz hl e
     simp only[qc6]at e
     split at e
     ·cases e
     ·split at e
      ·split at e
       ·rename_i cs hset
        exact ih cs c (qo5 hz (qqm (hl (i,v) (by simp))) hset) (fun p hp=>hl p (by simp[hp])) e
       ·cases e
      ·cases e
   have hparts:∀(l:List (Nat×Operand)) (r:List (Nat×AVal)),qb2 s.tmps l=some r→∀p∈r,WfA s.heap.length p.2:=by
    intro l
    induction l with
    |nil=>intro r e;cases e;intro p hp;cases hp
    |cons q l ih=>
     obtain⟨i,o⟩:=q
     intro r e
     simp only[qb2]at e
     cases hc:qae o s.tmps with
     |none=>rw[hc]at e;cases e
     |some a=>
      cases hr:qb2 s.tmps l with
      |none=>rw[hc,hr]at e;cases e
      |some r'=>
       rw[hc,hr]at e
       cases e
       intro p hp
       rcases wj.1 hp with rfl|hp
       ·exact qfl w hc
       ·exact ih r' hr p hp
   have agg:∀c:List AVal,(∀u∈c,WfA s.heap.length u)→WfA s.heap.length (.agg c):=fun c hc=>⟨.agg c (fun a ha=>(hc a ha).1),fun b hb=>by simp only[refs]at hb;exact qjw (fun v hv=>(hc v hv).2) b hb⟩
   have zw:∀{z:List AVal},qat P ty=some (.agg z)→∀u∈z,WfA s.heap.length u:=fun hz=>by
    unfold qat at hz
    split at hz
    ·split at hz
     ·exact qqm (qsd hz)
     ·cases hz
    ·cases hz
   simp only[opA]at ov
   split at ov
   ·rename_i z fs pl hz hu hpl
    split at ov
    ·split at ov
     ·rename_i u hu2
      rw[w8]at hu2
      obtain⟨c,hf,rfl⟩:=hu2
      cases ov
      exact same _ (agg c (key _ _ _ _ (zw hz) (hparts _ _ hpl) hf)) rfl rfl
     ·cases ov
    ·cases ov
   ·rename_i z len el pl hz hu hpl
    cases hs:qaq P el with
    |none=>rw[hs]at ov;cases ov
    |some sz=>
     rw[hs]at ov
     simp only at ov
     cases hf:qc6 (fun i=>some (i*sz,sz)) z pl with
     |none=>rw[hf]at ov;cases ov
     |some c=>
      rw[hf]at ov
      cases ov
      exact same _ (agg c (key _ _ _ _ (zw hz) (hparts _ _ hpl) hf)) rfl rfl
   ·cases ov
  |call r=>
   have hia:qiz ⟨dst,.call r,type,pos,after,guard⟩=true:=by
    obtain⟨callee,args,ats⟩:=r
    cases callee with
    |builtin b=>cases b<;>first|rfl|(simp[qdb,qc8]at hp)
    |_=>simp[qdb,qc8]at hp
   obtain⟨args,ats,x,y,t0,hop,hx,ht,h1,hg⟩:=qql hia ov
   have hxy:WfA s.heap.length x∧WfA s.heap.length y:=by
    cases hl:args.toList with
    |nil=>rw[hl]at hx;cases hx
    |cons o1 r1=>
     rw[hl]at hx
     simp only[qbh]at hx
     cases h2:qae o1 s.tmps with
     |none=>rw[h2]at hx;cases hx
     |some a1=>
      cases r1 with
      |nil=>rw[h2]at hx;simp[qbh]at hx
      |cons o2 r2=>
       simp only[qbh]at hx
       cases h3:qae o2 s.tmps with
       |none=>rw[h2,h3]at hx;cases hx
       |some a2=>
        cases h4:qbh s.tmps r2 with
        |none=>rw[h2,h3,h4]at hx;cases hx
        |some l=>rw[h2,h3,h4]at hx;cases hx;exact⟨qfl w h2,qfl w h3⟩
   obtain⟨hx1,hy1⟩:=hxy
   unfold qb1 at hg
   split at hg
   ·rename_i el es tk fs tk' hel
    split at hg
    ·split at hg
     ·have hes:OkA (.slice es tk):=hx1.1
      have hfs:OkA (.slice fs tk'):=hy1.1
      have all:∀tk2,OkA (.slice (es++fs) tk2):=fun tk2=>by
       cases hes with
       |slice _ _ p1 p2=>
        cases hfs with
        |slice _ _ q1 q2=>
         exact .slice _ _ (fun c hc=>by rcases wv.1 hc with h|h;exact p1 c h;exact q1 c h) (fun c hc=>by rcases wv.1 hc with h|h;exact p2 c h;exact q2 c h)
      split at hg
      ·cases hg;exact same _ hx1 rfl rfl
      ·split at hg
       ·cases hg
        refine⟨?_,?_⟩
        ·simp only[Eff.of,wg,wu,ww]
         exact qpf (fun u hu=>(w.t u hu).weak (by omega)) ⟨all _,fun b hb=>by simp only[refs,wj,wt,or_false]at hb;omega⟩
        ·intro b cs hb
         simp only[Eff.of,wg,wu,ww]at hb ⊢
         by_cases hlt:b<s.heap.length
         ·rw[wc hlt]at hb
          exact fun u hu=>(w.h b cs hb u hu).weak (by omega)
         ·rw[wa (by omega)]at hb
          have:=wm hb
          simp at this
       ·rename_i b
        split at hg
        ·rename_i n e' hb
         split at hg
         ·cases hg
          have hlt:=(wi.1 hb).1
          refine⟨?_,?_⟩
          ·simp only[Eff.of,wo]
           exact qpf w.t ⟨all _,fun c hc=>by simp only[refs,wj,wt,or_false]at hc;omega⟩
          ·intro c cs hc
           simp only[Eff.of,wo]at hc ⊢
           by_cases hbc:b=c
           ·subst hbc
            rw[wh hlt]at hc;cases hc
           ·rw[wq hbc]at hc
            exact w.h c cs hc
         ·cases hg
        ·cases hg
       ·cases hg
     ·cases hg
    ·cases hg
   ·cases hg
  |_=>simp[qdb,qc8]at hp
 ·exact⟨qpf w.t ⟨.undef,fun b hb=>by simp[refs]at hb⟩,w.h⟩
theorem qto {lim:Nat} {ops:List Oper} {j:Nat} {o:Oper} {s t:St} (ho:ops[j]? =some o) (hp:qdb o=true) (w:Wf s) (e:qcv P cmp call lim ops j s=some t):Wf t:=by
 obtain⟨y,f,hy,h1,_⟩:=asked0 e
 exact qve ho hp w h1
theorem qqn {lim:Nat} {ops:List Oper} {j:Nat} {o:Oper} {s t:St} (ho:ops[j]? =some o) (hp:qdb o=true) (e:qcv P cmp call lim ops j s=some t):s.heap.length≤t.heap.length:=by
 obtain⟨o',ho',hc⟩:=qer e
 rw[ho]at ho';cases ho'
 rcases hc with⟨wx,v,f,ov,av,rfl⟩|⟨wx,rfl⟩
 ·show s.heap.length≤(f.of s.heap).length
  by_cases h0:cls o=0
  ·obtain⟨_,v',hv⟩:=qhl h0 ov
   cases hv;exact wk _
  by_cases h1:cls o=1
  ·obtain⟨⟨v',hv⟩,_⟩:=qf6 h1 ov
   cases hv;exact wk _
  by_cases h2:cls o=2
  ·exact(qsa h2 ov).1
  by_cases h3:cls o=3
  ·obtain⟨t,a,x,b,off,cs,_,_,rfl,rfl,_⟩:=qmu h3 ov
   simp[Eff.of]
  ·obtain⟨dst,op,type,pos,after,guard⟩:=o
   cases op<;>first|(exact absurd rfl h0)|(exact absurd rfl h1)|(exact absurd rfl h2)|(exact absurd rfl h3)|(simp[qdb,qc8]at hp;done)|skip
   rename_i r
   obtain⟨callee,args,ats⟩:=r
   cases callee with
   |builtin b=>cases b<;>first|(exact absurd rfl h2)|(exact absurd rfl h0)|(simp[qdb,qc8]at hp)
   |_=>simp[qdb,qc8]at hp
 ·exact wk _
theorem q33 {o:Oper} (h:qc8 o=true):qdb o=true:=by
 unfold qdb
 split
 ·rfl
 ·exact h
theorem plain_ren {lim n N:Nat} {ops:List Oper} {j:Nat} {o:Oper} {s s' t:St} {σ τ:Nat→Nat} (hw:Sw n N σ τ) (hr:RenS σ s s') (hln:lim≤n) (hN:N≤s.heap.length) (w:Wf s) (ho:ops[j]? =some o) (hp:qc8 o=true)
 (e:qcv P cmp call lim ops j s=some t):∃t',qcv P cmp call lim ops j s'=some t'∧RenS σ t t'∧s.heap.length≤t.heap.length:=by
 obtain⟨o',ho',hc⟩:=qer e
 rw[ho]at ho';cases ho'
 rcases hc with⟨wx,v,f,ov,av,rfl⟩|⟨wx,rfl⟩
 ·have wx':qbw ops o s'.tmps=some true:=by rw[hr.t,qu2];exact wx
  have key:∃f',opA P cmp call o s'.tmps s'.heap=some (.val (ren σ v) f')∧askD lim ops j o s' f'=true∧(f'.of s'.heap).length=(f.of s.heap).length∧(∀b,(f'.of s'.heap)[σ b]? =((f.of s.heap)[b]?).map (renB σ))∧s.heap.length≤(f.of s.heap).length:=by
   obtain⟨dst,op,type,pos,after,guard⟩:=o
   cases op with
   |alloc ty=>
    simp only[opA]at ov ⊢
    split at ov
    ·rename_i z hz
     cases ov
     have hzr:qad z.cells=[]:=by
      unfold qat at hz
      split at hz
      ·split at hz
       ·have:=qnq hz
        cases z with
        |agg cs=>simpa[refs,AVal.cells]using this
        |_=>simp[AVal.cells,qad,this]
       ·cases hz
      ·cases hz
     have hσ:σ s.heap.length=s.heap.length:=hw.hi _ hN
     refine⟨.heap (s'.heap++[.box z.cells]) [],?_,?_,?_,?_,?_⟩
     ·simp only[ren,hσ,hr.l]
     ·unfold askD at av ⊢
      simp only[cls,decide_eq_true_eq]at av ⊢
      rw[hr.l];exact av
     ·simp only[Eff.of,wg,hr.l]
     ·intro b
      simp only[Eff.of]
      by_cases hb:b<s.heap.length
      ·have hb':σ b<s'.heap.length:=by
        rw[hr.l]
        by_cases hc:σ b<s.heap.length
        ·exact hc
        ·have h1:=hw.hi (σ b) (by omega)
         have h2:=hw.ts (σ b)
         rw[h1,hw.ts]at h2;omega
       rw[wc hb,wc hb',hr.h b]
      ·have hb':σ b=b:=hw.hi b (by omega)
       rw[hb',wa (by rw[hr.l];omega),wa (by omega),hr.l]
       cases h:([Blk.box z.cells]:List Blk)[b-s.heap.length]? with
       |none=>rfl
       |some x=>
        have:x= .box z.cells:=by
         have:=wm h
         simpa using this
        subst this
        simp only[wd,renB,qco z.cells (by rw[hzr];simp)]
     ·simp only[Eff.of,wg];omega
    ·cases ov
   |move x=>
    simp only[opA]at ov ⊢
    have hx:=qgp σ x s.tmps
    cases hc:qae x s.tmps with
    |none=>rw[hc]at ov;cases ov
    |some a=>
     rw[hc]at ov hx
     cases ov
     refine⟨.same,?_,qh5 rfl,hr.l,hr.h,wk _⟩
     rw[hr.t,hx];rfl
   |fieldAddr ty x k=>
    simp only[opA]at ov ⊢
    have hx:=qgp σ x s.tmps
    split at ov
    ·rename_i off ft b o hfp hcx
     cases ov
     refine⟨.same,?_,qh5 rfl,hr.l,hr.h,wk _⟩
     rw[hr.t,hx,hcx,hfp];rfl
    ·rename_i off ft cs o hfp hcx
     cases ov
     refine⟨.same,?_,qh5 rfl,hr.l,hr.h,wk _⟩
     rw[hr.t,hx,hcx,hfp];rfl
    ·cases ov
   |store ty a x=>
    obtain⟨t2,a2,x2,b2,off2,cs2,hop2,hp2,rfl,rfl,_⟩:=qmu (o:=⟨dst,.store ty a x,type,pos,after,guard⟩) rfl ov
    cases hop2
    have ha:=qgp σ a s.tmps
    have hx:=qgp σ x s.tmps
    simp only[opA]at ov ⊢
    rw[hp2]at ov ha
    cases hcx:qae x s.tmps with
    |none=>rw[hcx]at ov;cases ov
    |some u=>
     rw[hcx]at ov hx
     simp only at ov
     have hlb:b2<s.heap.length:=by
      cases hb:s.heap[b2]? with
      |none=>unfold qfu at ov;simp[hb]at ov
      |some y=>exact(wi.1 hb).1
     cases hst:qfu P s.heap ty (.ptr b2 off2) u with
     |none=>rw[hst]at ov;cases ov
     |some y=>
      rw[hst]at ov
      have hst':qfu P s'.heap ty (.ptr (σ b2) off2) (ren σ u)=some (s'.heap.set (σ b2) (.box (renL σ cs2)),σ b2):=by
       unfold qfu at hst ⊢
       simp only[hr.h b2]at hst ⊢
       cases hb:s.heap[b2]? with
       |none=>rw[hb]at hst;cases hst
       |some y2=>
        rw[hb]at hst
        cases y2 with
        |tok k e=>cases hst
        |box cs=>
         cases hsz:qaq P ty with
         |none=>rw[hsz]at hst;cases hst
         |some m=>
          rw[hsz]at hst
          simp only[wd,renB]at hst ⊢
          rw[qy6,qd4,ones_ren,qnr]
          split at hst
          ·rename_i hcnd
           rw[if_pos hcnd]
           cases hset:qar cs off2 u.cells with
           |none=>rw[hset]at hst;cases hst
           |some cs'=>
            rw[hset]at hst
            simp only[wd]at hst ⊢
            have:cs'=cs2:=by
             cases hst
             simp only[Option.some.injEq,OR.val.injEq,Eff.heap.injEq,true_and,and_true]at ov
             have h1:=congrArg (fun l:qab=>l[b2]?) ov
             simp only[wh hlb,Option.some.injEq,Blk.box.injEq]at h1
             exact h1
            rw[this]
          ·cases hst
      refine⟨.heap (s'.heap.set (σ b2) (.box (renL σ cs2))) [σ b2],?_,?_,?_,?_,?_⟩
      ·rw[hr.t,ha,hx]
       simp only[wd,ren,hst']
      ·unfold askD at av ⊢
       simp only[cls,wda]at av ⊢
       rcases av with av|av
       ·exact .inl av
       ·refine .inr ?_
        have:=qwq (σ:=σ) (fun a b e=>by have:=congrArg τ e;rwa [hw.ts,hw.ts]at this) 0 j ops av
        rw[hr.t]
        exact this
      ·simp only[Eff.of,wo,hr.l]
      ·intro b
       simp only[Eff.of]
       by_cases hb:b2=b
       ·subst hb
        have hb':σ b2<s'.heap.length:=by
         rw[hr.l]
         by_cases hc:σ b2<s.heap.length
         ·exact hc
         ·have h1:=hw.hi (σ b2) (by omega)
          have h2:=hw.ts (σ b2)
          rw[h1,hw.ts]at h2;omega
        rw[wh hlb,wh hb'];rfl
       ·have hne:σ b2≠σ b:=fun e=>hb (by have:=congrArg τ e;rwa [hw.ts,hw.ts]at this)
        rw[wq hb,wq hne,hr.h b]
      ·simp only[Eff.of,wo];omega
   |load ty x=>
    have hx:=qgp σ x s.tmps
    have ov0:=ov
    simp only[opA]at ov ⊢
    split at ov
    ·rename_i p hcx
     split at ov
     ·rename_i u hu
      cases ov
      rw[hr.t,hx,hcx]
      simp only[wd]
      have hload:qfe P s'.heap ty (ren σ p)=some (ren σ v):=by
       unfold qfe at hu ⊢
       split at hu
       ·rename_i b off
        split at hu
        ·rename_i cs hb
         simp only[ren,hr.h b,hb,wd,renB]
         rw[partA_ren,hu];rfl
        ·cases hu
       ·rename_i cs off
        simp only[ren]
        have hv:∀b∈refs v,σ b=b:=by
         have hpw:=qfl w hcx
         cases hpw.1 with
         |eptr _ _ h1 h2=>
          have:=qx5 (n:=0) (fun a ha=>WfA.pure (h2 a ha) (h1 a ha)) hu
          exact fun b hb=>absurd (this.2 b hb) (by omega)
        rw[hu,qfc v hv]
       ·cases hu
      refine⟨.same,by rw[hload],?_,hr.l,hr.h,wk _⟩
      unfold askD at av ⊢
      simp only[cls]at av ⊢
      rw[hr.t,hx,hcx]
      rw[hcx]at av
      simp only[wd]
      cases p with
      |ptr b off=>
       simp only[decide_eq_true_eq]at av
       simp only[ren,decide_eq_true_eq]
       rw[hw.lo b (by omega)];exact av
      |slice es tk=>cases tk<;>rfl
      |_=>rfl
     ·cases ov
    ·cases ov
   |build ty ps=>
    have hps:=qwr σ s.tmps ps.toList
    simp only[opA]at ov ⊢
    split at ov
    ·rename_i z fs pl hz hu hpl
     have zr:=qvc σ hz
     simp only[refs]at zr
     rw[hr.t,hps,hpl,hz,hu]
     simp only[wd]
     split at ov
     ·rename_i hall
      rw[if_pos hall]
      have hfr:=fun PF=>qsc σ PF pl z
      rw[qco z (by rw[zr];simp)]at hfr
      split at ov
      ·rename_i u hu2
       rw[w8]at hu2
       obtain⟨c,hf,rfl⟩:=hu2
       cases ov
       rw[hfr,hf]
       exact⟨.same,rfl,qh5 rfl,hr.l,hr.h,wk _⟩
      ·cases ov
     ·cases ov
    ·rename_i z len el pl hz hu hpl
     have zr:=qvc σ hz
     simp only[refs]at zr
     rw[hr.t,hps,hpl,hz,hu]
     simp only[wd]
     cases hs:qaq P el with
     |none=>rw[hs]at ov;cases ov
     |some sz=>
      rw[hs]at ov
      have hfr:=qsc σ (fun i=>some (i*sz,sz)) pl z
      rw[qco z (by rw[zr];simp)]at hfr
      simp only at ov ⊢
      rw[hfr]
      cases hf:qc6 (fun i=>some (i*sz,sz)) z pl with
      |none=>rw[hf]at ov;cases ov
      |some c=>
       rw[hf]at ov
       cases ov
       exact⟨.same,rfl,qh5 rfl,hr.l,hr.h,wk _⟩
    ·cases ov
   |call r=>
    have hia:qiz ⟨dst,.call r,type,pos,after,guard⟩=true:=by
     obtain⟨callee,args,ats⟩:=r
     cases callee with
     |builtin b=>cases b<;>first|rfl|(simp[qc8]at hp)
     |_=>simp[qc8]at hp
    obtain⟨args,ats,x,y,t0,hop,hx,ht,h1,hg⟩:=qql hia ov
    have hσ:σ s.heap.length=s.heap.length:=hw.hi _ hN
    have hinj:∀a b,σ a=σ b→a=b:=fun a b e=>by have:=congrArg τ e;rwa [hw.ts,hw.ts]at this
    obtain⟨f',g1,g2⟩:=q2u hinj hr.l hr.h hσ hg
    have hx':qbh s'.tmps args.toList=some [ren σ x,ren σ y]:=by rw[hr.t,qy7,hx];rfl
    have hlt:∀b,b<s.heap.length→σ b<s'.heap.length:=fun b hb=>by
     rw[hr.l]
     by_cases hc:σ b<s.heap.length
     ·exact hc
     ·have h1:=hw.hi (σ b) (by omega)
      have h2:=hw.ts (σ b)
      rw[h1,hw.ts]at h2;omega
    have hc2:cls ⟨dst,.call r,type,pos,after,guard⟩=2:=by simp only at hop;rw[hop];rfl
    refine⟨f',qu3 hop hx' ht h1 g1,?_,?_,?_,?_⟩
    ·unfold askD at av ⊢
     rw[hc2]at av ⊢
     simp only[decide_eq_true_eq]at av ⊢
     rw[hr.l];exact av
    ·rcases g2 with⟨rfl,rfl⟩|⟨k,T,rfl,rfl⟩|⟨b,n,k,T,hb,rfl,rfl⟩
     ·exact hr.l
     ·simp only[Eff.of,wg,hr.l];try rfl
     ·simp only[Eff.of,wo,hr.l]
    ·intro b
     rcases g2 with⟨rfl,rfl⟩|⟨k,T,rfl,rfl⟩|⟨c,n,k,T,hc,rfl,rfl⟩
     ·exact hr.h b
     ·simp only[Eff.of]
      by_cases hb:b<s.heap.length
      ·rw[wc hb,wc (hlt b hb),hr.h b]
      ·have hb':σ b=b:=hw.hi b (by omega)
       rw[hb',wa (by rw[hr.l];omega),wa (by omega),hr.l]
       cases h:([Blk.tok k T]:List Blk)[b-s.heap.length]? with
       |none=>rfl
       |some x=>
        have:x= .tok k T:=by
         have:=wm h
         simpa using this
        subst this;rfl
     ·simp only[Eff.of]
      have hlc:=(wi.1 hc).1
      by_cases hb:c=b
      ·subst hb
       rw[wh hlc,wh (hlt c hlc)];rfl
      ·have hne:σ c≠σ b:=fun e=>hb (hinj _ _ e)
       rw[wq hb,wq hne,hr.h b]
    ·rcases g2 with⟨rfl,rfl⟩|⟨k,T,rfl,rfl⟩|⟨c,n,k,T,hc,rfl,rfl⟩
     ·exact wk _
     ·simp only[Eff.of,wg];omega
     ·simp only[Eff.of,wo];exact wk _
   |_=>simp[qc8]at hp
  obtain⟨f',k1,k2,k3,k4,k5⟩:=key
  refine⟨⟨setT s'.tmps o.dst (ren σ v),f'.of s'.heap,f'.dirt++s'.dirty⟩,?_,⟨?_,k3,k4⟩,k5⟩
  ·unfold qcv;simp only[ho,wx',k1,k2,if_true]
  ·simp only[hr.t,qlb]
 ·have wx':qbw ops o s'.tmps=some false:=by rw[hr.t,qu2];exact wx
  refine⟨⟨setT s'.tmps o.dst .undef,s'.heap,s'.dirty⟩,?_,⟨?_,hr.l,hr.h⟩,wk _⟩
  ·unfold qcv;simp only[ho,wx']
  ·simp only[hr.t]
   exact qlb σ s.tmps o.dst .undef
theorem qqo {lim n N:Nat} {ops:List Oper} {σ τ:Nat→Nat} (hw:Sw n N σ τ) (hln:lim≤n):∀(l:List Nat) {s s' t:St},RenS σ s s'→N≤s.heap.length→Wf s→(∀j∈l,∀o,ops[j]? =some o→qc8 o=true)→
 opsD P cmp call lim ops l s=some t→∃t',opsD P cmp call lim ops l s'=some t'∧RenS σ t t'∧s.heap.length≤t.heap.length
 |[],s,s',t,hr,_,_,_,e=>by cases e;exact⟨s',rfl,hr,wk _⟩
 |j::l,s,s',t,hr,hN,w,hp,e=>by
  simp only[opsD]at e
  split at e
  ·rename_i s1 h1
   obtain⟨o,ho,_⟩:=qer h1
   obtain⟨s1',g1,g2,g3⟩:=plain_ren hw hr hln hN w ho (hp j (by simp) o ho) h1
   obtain⟨t',k1,k2,k3⟩:=qqo hw hln l g2 (by omega) (qto ho (q33 (hp j (by simp) o ho)) w h1) (fun i hi=>hp i (by simp[hi])) e
   exact⟨t',by simp only[opsD,g1];exact k1,k2,by omega⟩
  ·cases e
def swp (n:Nat) (b:Nat):Nat:=if b=n then n+1 else if b=n+1 then n else b
theorem qh0 (n:Nat):Sw n (n+2) (swp n) (swp n) where
 ts b:=by unfold swp;split<;>(try split)<;>(try split)<;>omega
 st b:=by unfold swp;split<;>(try split)<;>(try split)<;>omega
 lo b hb:=by unfold swp;rw[if_neg (by omega),if_neg (by omega)]
 hi b hb:=by unfold swp;rw[if_neg (by omega),if_neg (by omega)]
theorem qqp {n:Nat} {σ:Nat→Nat} (hσ:∀b,b<n→σ b=b) {l:List AVal} (h:∀v∈l,WfA n v):renL σ l=l:=
 qco l (fun b hb=>hσ b (qjw (fun v hv=>(h v hv).2) b hb))
theorem swapAl {lim:Nat} {ops:List Oper} {i j:Nat} {x y:Oper} {s s1 s2:St} (hx:ops[i]? =some x) (hy:ops[j]? =some y) (ax:isAl x=true) (ay:isAl y=true) (hin:qmq ops x y=true) (w:Wf s)
 {fy:Eff} (e1:qcv P cmp call lim ops i s=some s1) (e2:qlr P cmp call ops j s1 s2 fy):
 lim≤s.heap.length∧s2.heap.length=s.heap.length+2∧∃s1' s2',qcv P cmp call lim ops j s=some s1'∧qcv P cmp call lim ops i s1'=some s2'∧RenS (swp s.heap.length) s2 s2':=by
 obtain⟨_,_,d3⟩:=qr9 hin
 have al:∀o:Oper,isAl o=true→∃t,o.op= .alloc t∧o.guard=none:=by
  intro o h
  unfold isAl at h
  split at h
  ·rename_i t h1 h2;exact⟨t,h1,h2⟩
  ·cases h
 obtain⟨tx,ox,gx⟩:=al x ax
 obtain⟨ty,oy,gy⟩:=al y ay
 have stp:∀(k:Nat) (o:Oper) (t:TypeId) (a b:St),ops[k]? =some o→o.op= .alloc t→o.guard=none→qcv P cmp call lim ops k a=some b→
  ∃z,qat P t=some z∧lim≤a.heap.length∧b=⟨setT a.tmps o.dst (.ptr a.heap.length 0),a.heap++[.box z.cells],[]++a.dirty⟩:=by
  intro k o t a b hk ho hg e
  obtain⟨o',ho',hc⟩:=qer e
  rw[hk]at ho';cases ho'
  obtain⟨dst,op,type,pos,after,guard⟩:=o
  simp only at ho hg
  subst ho hg
  rcases hc with⟨wx,v,f,ov,av,rfl⟩|⟨wx,rfl⟩
  ·simp only[opA]at ov
   split at ov
   ·rename_i z hz
    cases ov
    refine⟨z,hz,?_,rfl⟩
    unfold askD at av
    simpa[cls]using av
   ·cases ov
  ·simp[qbw]at wx
 have stpN:∀(k:Nat) (o:Oper) (t:TypeId) (a b:St) (f:Eff),ops[k]? =some o→o.op= .alloc t→o.guard=none→qlr P cmp call ops k a b f→
  ∃z,qat P t=some z∧b=⟨setT a.tmps o.dst (.ptr a.heap.length 0),a.heap++[.box z.cells],[]++a.dirty⟩:=by
  intro k o t a b f hk ho hg e
  obtain⟨o',ho',hc⟩:=e
  rw[hk]at ho';cases ho'
  obtain⟨dst,op,type,pos,after,guard⟩:=o
  simp only at ho hg
  subst ho hg
  rcases hc with⟨wx,v,ov,rfl⟩|⟨wx,_,rfl⟩
  ·simp only[opA]at ov
   split at ov
   ·rename_i z hz
    cases ov
    exact⟨z,hz,rfl⟩
   ·cases ov
  ·simp[qbw]at wx
 obtain⟨zx,hzx,hl,rfl⟩:=stp i x tx s s1 hx ox gx e1
 obtain⟨zy,hzy,rfl⟩:=stpN j y ty _ s2 fy hy oy gy e2
 have mk:∀(k:Nat) (o:Oper) (t:TypeId) (z:AVal) (a:St),ops[k]? =some o→o.op= .alloc t→o.guard=none→qat P t=some z→lim≤a.heap.length→
  qcv P cmp call lim ops k a=some ⟨setT a.tmps o.dst (.ptr a.heap.length 0),a.heap++[.box z.cells],[]++a.dirty⟩:=by
  intro k o t z a hk ho hg hz hl
  obtain⟨dst,op,type,pos,after,guard⟩:=o
  simp only at ho hg
  subst ho hg
  unfold qcv
  simp only[hk,qbw,opA,hz]
  rw[if_pos (by unfold askD;simpa[cls]using hl)]
  rfl
 refine⟨hl,by simp,_,_,mk j y ty zy s hy oy gy hzy hl,mk i x tx zx _ hx ox gx hzx (by simp;omega),?_,?_,?_⟩
 ·have hlow:=qqp (qh0 s.heap.length).lo w.t
  have h1:swp s.heap.length s.heap.length=s.heap.length+1:=by unfold swp;rw[if_pos rfl]
  have h2:swp s.heap.length (s.heap.length+1)=s.heap.length:=by unfold swp;rw[if_neg (by omega),if_pos rfl]
  simp only[wg,wu,ww]
  rw[←qlb,←qlb,hlow]
  simp only[ren,h1,h2]
  exact(qr8 (fun d hd e=>d3 d hd e)).symm
 ·simp
 ·intro b
  have zr:∀{t:TypeId} {z:AVal},qat P t=some z→renL (swp s.heap.length) z.cells=z.cells:=by
   intro t z hz
   refine qco _ (fun b hb=> ?_)
   have:qad z.cells=[]:=by
    unfold qat at hz
    split at hz
    ·split at hz
     ·have:=qnq hz
      cases z with
      |agg cs=>simpa[refs,AVal.cells]using this
      |_=>simp[AVal.cells,qad,this]
     ·cases hz
    ·cases hz
   rw[this]at hb;cases hb
  simp only[wba,wca,wea]
  by_cases hb:b<s.heap.length
  ·rw[(qh0 s.heap.length).lo b hb,wc hb,wc hb]
   cases h:s.heap[b]? with
   |none=>rfl
   |some k=>
    cases k with
    |tok=>rfl
    |box cs=>simp only[wd,renB,qqp (qh0 s.heap.length).lo (w.h b cs h)]
  ·by_cases hb1:b=s.heap.length
   ·subst hb1
    have h1:swp s.heap.length s.heap.length=s.heap.length+1:=by unfold swp;rw[if_pos rfl]
    rw[h1,wa (by omega),wa (by omega)]
    simp[renB,zr hzx]
   ·by_cases hb2:b=s.heap.length+1
    ·subst hb2
     have h2:swp s.heap.length (s.heap.length+1)=s.heap.length:=by unfold swp;rw[if_neg (by omega),if_pos rfl]
     rw[h2,wa (by omega),wa (by omega)]
     simp[renB,zr hzy]
    ·rw[(qh0 s.heap.length).hi b (by omega),wa (by omega)]
     have:([Blk.box zy.cells,Blk.box zx.cells]:List Blk)[b-s.heap.length]? =none:=wz (by simp;omega)
     have h3:([Blk.box zx.cells,Blk.box zy.cells]:List Blk)[b-s.heap.length]? =none:=wz (by simp;omega)
     rw[this,wa (by omega),h3];rfl
theorem swapAp {lim:Nat} {ops:List Oper} {i j:Nat} {x y:Oper} {s s1 s2:St} (hx:ops[i]? =some x) (hy:ops[j]? =some y) (ax:qiz x=true) (ay:isAl y=true) (hin:qmq ops x y=true) (w:Wf s)
 {fy:Eff} (e1:qcv P cmp call lim ops i s=some s1) (e2:qlr P cmp call ops j s1 s2 fy):
 ∃s1' s2' fy',qlr P cmp call ops j s s1' fy'∧qcv P cmp call lim ops i s1'=some s2'∧(s2'=s2∨(lim≤s.heap.length∧s2.heap.length=s.heap.length+2∧RenS (swp s.heap.length) s2 s2')):=by
 obtain⟨d1,d2,d3⟩:=qr9 hin
 have rx:∀{u:AVal} {ts:List AVal},∀t∈qe8 ops x,(setT ts y.dst u)[t]? =ts[t]? :=fun t ht=>qhm fun d hd=>d2 d hd t ht
 have sub:∀t∈qfj x.op.operands.toList,t∈qe8 ops x:=fun t ht=>by simp[qe8,ht]
 have comm:∀{ts:List AVal} {u v:AVal},setT (setT ts x.dst u) y.dst v=setT (setT ts y.dst v) x.dst u:=qr8 d3
 obtain⟨ty,oy,gy⟩:∃t,y.op= .alloc t∧y.guard=none:=by
  unfold isAl at ay
  split at ay
  ·rename_i t h1 h2;exact⟨t,h1,h2⟩
  ·cases ay
 have mkN:∀(z:AVal) (a:St),qat P ty=some z→qlr P cmp call ops j a ⟨setT a.tmps y.dst (.ptr a.heap.length 0),a.heap++[Blk.box z.cells],[]++a.dirty⟩ (.heap (a.heap++[Blk.box z.cells]) []):=by
  intro z a hz
  refine⟨y,hy,.inl ⟨?_,.ptr a.heap.length 0,?_,rfl⟩⟩
  ·simp only[qbw,gy]
  ·obtain⟨dst,op,type,pos,after,guard⟩:=y
   simp only at oy
   subst oy
   simp only[opA,hz]
 obtain⟨z,hz,rfl⟩:∃z,qat P ty=some z∧s2=⟨setT s1.tmps y.dst (.ptr s1.heap.length 0),s1.heap++[Blk.box z.cells],[]++s1.dirty⟩:=by
  obtain⟨o',ho',hc⟩:=e2
  rw[hy]at ho';cases ho'
  obtain⟨dst,op,type,pos,after,guard⟩:=y
  simp only at oy gy
  subst oy gy
  rcases hc with⟨wx,v,ov,rfl⟩|⟨wx,_,rfl⟩
  ·simp only[opA]at ov
   split at ov
   ·rename_i z hz
    cases ov
    exact⟨z,hz,rfl⟩
   ·cases ov
  ·simp[qbw]at wx
 obtain⟨o',ho',hc⟩:=qer e1
 rw[hx]at ho';cases ho'
 have hzr:renL (swp s.heap.length) z.cells=z.cells:=by
  refine qco _ (fun b hb=> ?_)
  have h0:=qvc (swp s.heap.length) hz
  have:qad z.cells=[]:=by
   cases z with
   |agg cs=>simpa[refs,AVal.cells]using h0
   |_=>simp[AVal.cells,qad,h0]
  rw[this]at hb;cases hb
 rcases hc with⟨wx,v,f,ov,av,rfl⟩|⟨wx,rfl⟩
 ·obtain⟨args,ats,p,q,t0,hop,hpq,ht0,ht1,hg⟩:=qql ax ov
  have hlim:lim≤s.heap.length:=by
   have hc:cls x=2:=by unfold cls;rw[hop]
   unfold askD at av
   rw[hc]at av;simpa using av
  have again:∀(v':AVal) (f':Eff),qb1 P (s.heap++[Blk.box z.cells]) t0 p q=some (v',f')→qcv P cmp call lim ops i ⟨setT s.tmps y.dst (.ptr s.heap.length 0),s.heap++[Blk.box z.cells],[]++s.dirty⟩=
   some ⟨setT (setT s.tmps y.dst (.ptr s.heap.length 0)) x.dst v',f'.of (s.heap++[Blk.box z.cells]),f'.dirt++s.dirty⟩:=by
   intro v' f' hv
   have ho:opA P cmp call x s.tmps (s.heap++[Blk.box z.cells])=some (.val v' f'):=qu3 hop hpq ht0 ht1 hv
   unfold qcv
   simp only[hx,qc4 rx,wx,qj4 (fun t ht=>rx t (sub t ht)),ho]
   have hc:cls x=2:=by unfold cls;rw[hop]
   rw[if_pos (by unfold askD;rw[hc];simp;omega)]
   rfl
  have hpar:∃v' f',qb1 P (s.heap++[Blk.box z.cells]) t0 p q=some (v',f')∧((f= .same∧f'= .same∧v'=v)∨(∃b n T0 k T,s.heap[b]? =some (.tok n T0)∧f= .heap (s.heap.set b (.tok k T)) [b]∧f'= .heap ((s.heap++[Blk.box z.cells]).set b (.tok k T)) [b]∧v'=v)∨
   (∃es k T,v= .slice es (.own s.heap.length)∧f= .heap (s.heap++[Blk.tok k T]) []∧v'= .slice es (.own (s.heap.length+1))∧f'= .heap (s.heap++[Blk.box z.cells]++[Blk.tok k T]) [])):=by
   unfold qb1 at hg ⊢
   split at hg
   ·rename_i el es tk fs tk' hel
    split at hg
    ·rename_i sz by_ z0 hsz hby hz0
     split at hg
     ·rename_i hc
      simp only[hel,hsz,hby,hz0,hc,if_true]
      split at hg
      ·cases hg;exact⟨_,_,rfl,.inl ⟨rfl,rfl,rfl⟩⟩
      ·split at hg
       ·cases hg
        exact⟨_,_,rfl,.inr (.inr ⟨_,_,_,rfl,rfl,by simp,rfl⟩)⟩
       ·rename_i b
        split at hg
        ·rename_i n e' hb
         split at hg
         ·rename_i hcnd
          cases hg
          have hlt:=(wi.1 hb).1
          rw[wc hlt,hb]
          simp only
          rw[if_pos hcnd]
          exact⟨_,_,rfl,.inr (.inl ⟨b,n,_,_,_,hb,rfl,rfl,rfl⟩)⟩
         ·cases hg
        ·cases hg
       ·cases hg
     ·cases hg
    ·cases hg
   ·cases hg
  obtain⟨v',f',hv,hcase⟩:=hpar
  refine⟨_,_,_,mkN z s hz,again v' f' hv,?_⟩
  rcases hcase with⟨rfl,rfl,rfl⟩|⟨b,n,T0,k,T,hb,rfl,rfl,rfl⟩|⟨es,k,T,rfl,rfl,rfl,rfl⟩
  ·exact .inl (by rw[comm];rfl)
  ·refine .inl ?_
   have hlt:=(wi.1 hb).1
   rw[comm]
   simp only[Eff.of,Eff.dirt,wo,List.set_append_left _ _ hlt]
   rfl
  ·refine .inr ⟨hlim,by simp[Eff.of],?_,?_,?_⟩
   ·have hlow:=qqp (qh0 s.heap.length).lo w.t
    have h1:swp s.heap.length s.heap.length=s.heap.length+1:=by unfold swp;rw[if_pos rfl]
    have h2:swp s.heap.length (s.heap.length+1)=s.heap.length:=by unfold swp;rw[if_neg (by omega),if_pos rfl]
    simp only[Eff.of,wg,wu,ww]
    rw[←qlb,←qlb,hlow]
    simp only[ren,h1,h2]
    exact comm.symm
   ·simp[Eff.of]
   ·intro b
    simp only[Eff.of,wba,wca,wea]
    by_cases hb:b<s.heap.length
    ·rw[(qh0 s.heap.length).lo b hb,wc hb,wc hb]
     cases h:s.heap[b]? with
     |none=>rfl
     |some k=>
      cases k with
      |tok=>rfl
      |box cs=>simp only[wd,renB,qqp (qh0 s.heap.length).lo (w.h b cs h)]
    ·by_cases hb1:b=s.heap.length
     ·subst hb1
      have h1:swp s.heap.length s.heap.length=s.heap.length+1:=by unfold swp;rw[if_pos rfl]
      rw[h1,wa (by omega),wa (by omega)]
      simp[renB]
     ·by_cases hb2:b=s.heap.length+1
      ·subst hb2
       have h2:swp s.heap.length (s.heap.length+1)=s.heap.length:=by unfold swp;rw[if_neg (by omega),if_pos rfl]
       rw[h2,wa (by omega),wa (by omega)]
       simp[renB,hzr]
      ·rw[(qh0 s.heap.length).hi b (by omega),wa (by omega)]
       have:([Blk.box z.cells,Blk.tok k T]:List Blk)[b-s.heap.length]? =none:=wz (by simp;omega)
       have h3:([Blk.tok k T,Blk.box z.cells]:List Blk)[b-s.heap.length]? =none:=wz (by simp;omega)
       rw[this,wa (by omega),h3];rfl
 ·refine⟨_,_,_,mkN z s hz,?_,.inl rfl⟩
  unfold qcv
  simp only[hx,qc4 rx,wx]
  rw[comm]
end Go.Ab
