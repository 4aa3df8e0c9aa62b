/- Two that are made in one region, in either order: the same but for the numbers of the blocks. -/
import Derived.Test.YtngklkmeknmloaaGreatDoorAbCode1
set_option linter.unusedSimpArgs false
set_option linter.unusedVariables false
set_option maxRecDepth 100000
set_option maxHeartbeats 4000000
open List renaming getElem?_eq_getElem→wa,getElem_of_mem→wb,getElem?_append_right→wc,getElem?_append_left→wg,mem_cons→wh,mem_of_getElem?→wi,length_append→wj,getElem?_set_self→wm,not_mem_nil→wo,length_set→wq,getElem?_set_ne→wt,mem_append→wu,mem_of_mem_drop→wv,getElem?_eq_some_iff→ww,length_cons→wz,length_nil→w6,getElem?_eq_none→w7,mem_of_mem_take→w8
open Array renaming getElem?_eq_getElem→wd
open Option renaming map_some→we
open Nat renaming le_refl→wk
open Bool renaming and_eq_true→w9,or_eq_true→waa
namespace Go.Ab
variable {P:Program} {cmp:List TypeId} {call:Call}
theorem qu3 (σ:Nat→Nat):∀l:List AVal,renL σ l=l.map (ren σ)
 |[]=>rfl
 |v::r=>by simp only[renL,qu3 σ r,List.map_cons]
theorem qyq {v:Value} {a:AVal} (h:ofV0 v=some a):refs a=[]:=by
 unfold ofV0 at h
 split at h<;>cases h<;>rfl
theorem qrr:∀{l:List Value} {as:List AVal},ofVs l=some as→qad as=[]
 |[],as,h=>by cases h;rfl
 |v::r,as,h=>by
  simp only[ofVs]at h
  split at h
  ·rename_i a l h1 h2
   cases h
   simp only[qad,qyq h1,qrr h2,List.append_nil]
  ·cases h
theorem qp7 {v:Value} {a:AVal} (h:ofV v=some a):refs a=[]:=by
 unfold ofV at h
 split at h
 ·cases hh:ofVs _ with
  |none=>rw[hh]at h;cases h
  |some l=>rw[hh]at h;cases h;simp only[refs,qrr hh]
 ·cases hh:ofVs _ with
  |none=>rw[hh]at h;cases h
  |some l=>rw[hh]at h;cases h;simp only[refs,qrr hh]
 ·exact qyq h
theorem qkc (σ:Nat→Nat) (x:Operand) (ts:List AVal):qae x (renL σ ts)=(qae x ts).map (ren σ):=by
 cases x with
 |tmp t=>simp only[qae,qhj]
 |const v=>
  simp only[qae]
  cases h:ofV v with
  |none=>rfl
  |some a=>simp only[we];rw[qfu a (by rw[qp7 h];simp)]
 |func f=>simp only[qae];rfl
 | «global» g=>simp only[qae];rfl
structure Sw (n N:Nat) (σ τ:Nat→Nat):Prop where
 ts:∀b,τ (σ b)=b
 st:∀b,σ (τ b)=b
 lo:∀b,b<n→σ b=b
 hi:∀b,N≤b→σ b=b
theorem Sw.up {n N:Nat} {σ τ:Nat→Nat} (h:Sw n N σ τ) {b:Nat} (hb:n≤b):n≤σ b:=by
 by_cases hc:σ b<n
 ·have h1:=h.lo (σ b) hc
  have h2:=h.ts (σ b)
  rw[h1,h.ts]at h2;omega
 ·omega
theorem Sw.comp {n N:Nat} {σ τ σ' τ':Nat→Nat} (h:Sw n N σ τ) (k:Sw n N σ' τ'):Sw n N (fun b=>σ' (σ b)) (fun b=>τ (τ' b)) where
 ts b:=by rw[k.ts,h.ts]
 st b:=by rw[h.st,k.st]
 lo b hb:=by rw[h.lo b hb,k.lo b hb]
 hi b hb:=by rw[h.hi b hb,k.hi b hb]
theorem Sw.weak {n m N M:Nat} {σ τ:Nat→Nat} (h:Sw n N σ τ) (hm:m≤n) (hN:N≤M):Sw m M σ τ:=
 ⟨h.ts,h.st,fun b hb=>h.lo b (by omega),fun b hb=>h.hi b (by omega)⟩
structure RenS (σ:Nat→Nat) (s s':St):Prop where
 t:s'.tmps=renL σ s.tmps
 l:s'.heap.length=s.heap.length
 h:∀b,s'.heap[σ b]? =(s.heap[b]?).map (renB σ)
theorem renB_renB {σ τ:Nat→Nat} (x:Blk):renB τ (renB σ x)=renB (fun b=>τ (σ b)) x:=by
 cases x<;>simp only[renB,qgo]
theorem RenS.comp {σ σ':Nat→Nat} {s s' s'':St} (h:RenS σ s s') (k:RenS σ' s' s''):RenS (fun b=>σ' (σ b)) s s'' where
 t:=by rw[k.t,h.t,qgo]
 l:=k.l.trans h.l
 h b:=by
  rw[k.h (σ b),h.h b]
  cases s.heap[b]? with
  |none=>rfl
  |some x=>simp only[we,renB_renB]
theorem qur (σ:Nat→Nat) (ops:List Oper) (o:Oper) (ts:List AVal):qb2 ops o (renL σ ts)=qb2 ops o ts:=by
 unfold qb2
 split
 ·rfl
 ·split
  ·split
   ·rename_i d hd
    rw[qhj]
    cases ts[d]? with
    |none=>rfl
    |some v=>cases v<;>first|rfl|(rename_i es tk;cases tk<;>rfl)
   ·rfl
  ·rfl
theorem qp8 (σ:Nat→Nat) (ts:List AVal) (d:Option Tmp) (v:AVal):setT (renL σ ts) d (ren σ v)=renL σ (setT ts d v):=by
 cases d with
 |none=>rfl
 |some d=>simp only[setT,qu3,List.map_set]
theorem cells_ren (σ:Nat→Nat) (v:AVal):(ren σ v).cells=renL σ v.cells:=by
 cases v with
 |slice es tk=>cases tk<;>rfl
 |agg cs=>simp only[ren,AVal.cells]
 |_=>rfl
theorem one_ren (σ:Nat→Nat) (v:AVal):oneA (ren σ v)=oneA v:=by
 cases v with
 |slice es tk=>cases tk<;>rfl
 |_=>rfl
theorem ones_ren (σ:Nat→Nat) (l:List AVal):(renL σ l).all oneA=l.all oneA:=by
 induction l with
 |nil=>rfl
 |cons v r ih=>simp only[renL,List.all_cons,one_ren,ih]
theorem qrs (σ:Nat→Nat):∀(cs:List AVal) (n:Nat) (vs:List AVal),qau (renL σ cs) n (renL σ vs)=(qau cs n vs).map (renL σ)
 |cs,0,vs=>by
  have e:∀(cs:List AVal),qau cs 0 vs=if vs.length≤cs.length then some (vs++cs.drop vs.length)else none:=fun cs=>by cases cs<;>rfl
  have e':∀(cs:List AVal),qau cs 0 (renL σ vs)=if(renL σ vs).length≤cs.length then some (renL σ vs++cs.drop (renL σ vs).length)else none:=fun cs=>by cases cs<;>rfl
  rw[e,e',qeu,qeu]
  by_cases h:vs.length≤cs.length
  ·rw[if_pos h,if_pos h];simp only[we,qu3,List.map_append,List.map_drop]
  ·rw[if_neg h,if_neg h];rfl
 |c::cs,n+1,vs=>by
  simp only[renL,qau,qrs σ cs n vs]
  cases qau cs n vs<;>rfl
 |[],n+1,vs=>rfl
theorem q3r {σ:Nat→Nat} (hinj:∀a b,σ a=σ b→a=b) {d:List Nat} {v:Option AVal} (h:qdu d v=true):qdu (d.map σ) (v.map (ren σ))=true:=by
 cases v with
 |none=>rfl
 |some a=>
  cases a with
  |ptr b o=>
   simp only[qdu,we,ren,Bool.not_eq_true',List.contains_eq_mem,decide_eq_false_iff_not]at h ⊢
   intro hm
   obtain⟨c,hc,he⟩:=List.mem_map.1 hm
   exact h (by rw[hinj b c he.symm];exact hc)
  |slice es tk=>cases tk<;>rfl
  |_=>rfl
theorem qv8 {σ:Nat→Nat} (hinj:∀a b,σ a=σ b→a=b) {af:List Edge} {ts:List AVal} {d:List Nat}:∀(q j:Nat) (l:List Oper),qak af ts d q j l=true→qak af (renL σ ts) (d.map σ) q j l=true
 |q,0,l,_=>by unfold qak;rfl
 |q,j+1,[],_=>by unfold qak;rfl
 |q,j+1,o::r,h=>by
  simp only[qak,w9]at h ⊢
  refine⟨?_,qv8 hinj (q+1) j r h.2⟩
  have h1:=h.1
  split at h1
  ·rw[waa]at h1 ⊢
   rw[qkc]
   exact h1.imp id (q3r hinj)
  ·rfl
theorem plain_ren {lim n N:Nat} {ops:List Oper} {j:Nat} {o:Oper} {s s' t:St} {σ τ:Nat→Nat} (hw:Sw n N σ τ) (hr:RenS σ s s') (hln:lim≤n) (hN:N≤s.heap.length) (ho:ops[j]? =some o) (hp:qrk o=true)
 (e:qc5 P cmp call lim ops j s=some t):∃t',qc5 P cmp call lim ops j s'=some t'∧RenS σ t t'∧s.heap.length≤t.heap.length:=by
 obtain⟨o',ho',hc⟩:=qej e
 rw[ho]at ho';cases ho'
 rcases hc with⟨wx,v,f,ov,av,rfl⟩|⟨wx,rfl⟩
 ·have wx':qb2 ops o s'.tmps=some true:=by rw[hr.t,qur];exact wx
  have key:∃f',opA P cmp call o s'.tmps s'.heap=some (.val (ren σ v) f')∧askD lim ops j o s' f'=true∧(f'.of s'.heap).length=(f.of s.heap).length∧(∀b,(f'.of s'.heap)[σ b]? =((f.of s.heap)[b]?).map (renB σ))∧s.heap.length≤(f.of s.heap).length:=by
   obtain⟨dst,op,type,pos,after,guard⟩:=o
   cases op with
   |alloc ty=>
    simp only[opA]at ov ⊢
    split at ov
    ·rename_i z hz
     cases ov
     have hzr:qad z.cells=[]:=by
      unfold qat at hz
      split at hz
      ·split at hz
       ·have:=qp7 hz
        cases z with
        |agg cs=>simpa[refs,AVal.cells]using this
        |_=>simp[AVal.cells,qad,this]
       ·cases hz
      ·cases hz
     have hσ:σ s.heap.length=s.heap.length:=hw.hi _ hN
     refine⟨.heap (s'.heap++[.box z.cells]) [],?_,?_,?_,?_,?_⟩
     ·simp only[ren,hσ,hr.l]
     ·unfold askD at av ⊢
      simp only[cls,decide_eq_true_eq]at av ⊢
      rw[hr.l];exact av
     ·simp only[Eff.of,wj,hr.l]
     ·intro b
      simp only[Eff.of]
      by_cases hb:b<s.heap.length
      ·have hb':σ b<s'.heap.length:=by
        rw[hr.l]
        by_cases hc:σ b<s.heap.length
        ·exact hc
        ·have h1:=hw.hi (σ b) (by omega)
         have h2:=hw.ts (σ b)
         rw[h1,hw.ts]at h2;omega
       rw[wg hb,wg hb',hr.h b]
      ·have hb':σ b=b:=hw.hi b (by omega)
       rw[hb',wc (by rw[hr.l];omega),wc (by omega),hr.l]
       cases h:([Blk.box z.cells]:List Blk)[b-s.heap.length]? with
       |none=>rfl
       |some x=>
        have:x= .box z.cells:=by
         have:=wi h
         simpa using this
        subst this
        simp only[we,renB,qcy z.cells (by rw[hzr];simp)]
     ·simp only[Eff.of,wj];omega
    ·cases ov
   |move x=>
    simp only[opA]at ov ⊢
    have hx:=qkc σ x s.tmps
    cases hc:qae x s.tmps with
    |none=>rw[hc]at ov;cases ov
    |some a=>
     rw[hc]at ov hx
     cases ov
     refine⟨.same,?_,qlg rfl,hr.l,hr.h,wk _⟩
     rw[hr.t,hx];rfl
   |fieldAddr ty x k=>
    simp only[opA]at ov ⊢
    have hx:=qkc σ x s.tmps
    split at ov
    ·rename_i off ft b o hfp hcx
     cases ov
     refine⟨.same,?_,qlg rfl,hr.l,hr.h,wk _⟩
     rw[hr.t,hx,hcx,hfp];rfl
    ·rename_i off ft cs o hfp hcx
     cases ov
     refine⟨.same,?_,qlg rfl,hr.l,hr.h,wk _⟩
     rw[hr.t,hx,hcx,hfp];rfl
    ·cases ov
   |store ty a x=>
    obtain⟨t2,a2,x2,b2,off2,cs2,hop2,hp2,rfl,rfl,_⟩:=qmb (o:=⟨dst,.store ty a x,type,pos,after,guard⟩) rfl ov
    cases hop2
    have ha:=qkc σ a s.tmps
    have hx:=qkc σ x s.tmps
    simp only[opA]at ov ⊢
    rw[hp2]at ov ha
    cases hcx:qae x s.tmps with
    |none=>rw[hcx]at ov;cases ov
    |some u=>
     rw[hcx]at ov hx
     simp only at ov
     have hlb:b2<s.heap.length:=by
      cases hb:s.heap[b2]? with
      |none=>unfold qfw at ov;simp[hb]at ov
      |some y=>exact(ww.1 hb).1
     cases hst:qfw P s.heap ty (.ptr b2 off2) u with
     |none=>rw[hst]at ov;cases ov
     |some y=>
      rw[hst]at ov
      have hst':qfw P s'.heap ty (.ptr (σ b2) off2) (ren σ u)=some (s'.heap.set (σ b2) (.box (renL σ cs2)),σ b2):=by
       unfold qfw at hst ⊢
       simp only[hr.h b2]at hst ⊢
       cases hb:s.heap[b2]? with
       |none=>rw[hb]at hst;cases hst
       |some y2=>
        rw[hb]at hst
        cases y2 with
        |tok k e=>cases hst
        |box cs=>
         cases hsz:qao P ty with
         |none=>rw[hsz]at hst;cases hst
         |some m=>
          rw[hsz]at hst
          simp only[we,renB]at hst ⊢
          rw[cells_ren,qeu,ones_ren,qrs]
          split at hst
          ·rename_i hcnd
           rw[if_pos hcnd]
           cases hset:qau cs off2 u.cells with
           |none=>rw[hset]at hst;cases hst
           |some cs'=>
            rw[hset]at hst
            simp only[we]at hst ⊢
            have:cs'=cs2:=by
             cases hst
             simp only[Option.some.injEq,OR.val.injEq,Eff.heap.injEq,true_and,and_true]at ov
             have h1:=congrArg (fun l:qab=>l[b2]?) ov
             simp only[wm hlb,Option.some.injEq,Blk.box.injEq]at h1
             exact h1
            rw[this]
          ·cases hst
      refine⟨.heap (s'.heap.set (σ b2) (.box (renL σ cs2))) [σ b2],?_,?_,?_,?_,?_⟩
      ·rw[hr.t,ha,hx]
       simp only[we,ren,hst']
      ·unfold askD at av ⊢
       simp only[cls,waa]at av ⊢
       rcases av with av|av
       ·exact .inl av
       ·refine .inr ?_
        have:=qv8 (σ:=σ) (fun a b e=>by have:=congrArg τ e;rwa [hw.ts,hw.ts]at this) 0 j ops av
        rw[hr.t]
        exact this
      ·simp only[Eff.of,wq,hr.l]
      ·intro b
       simp only[Eff.of]
       by_cases hb:b2=b
       ·subst hb
        have hb':σ b2<s'.heap.length:=by
         rw[hr.l]
         by_cases hc:σ b2<s.heap.length
         ·exact hc
         ·have h1:=hw.hi (σ b2) (by omega)
          have h2:=hw.ts (σ b2)
          rw[h1,hw.ts]at h2;omega
        rw[wm hlb,wm hb'];rfl
       ·have hne:σ b2≠σ b:=fun e=>hb (by have:=congrArg τ e;rwa [hw.ts,hw.ts]at this)
        rw[wt hb,wt hne,hr.h b]
      ·simp only[Eff.of,wq];omega
   |_=>simp[qrk]at hp
  obtain⟨f',k1,k2,k3,k4,k5⟩:=key
  refine⟨⟨setT s'.tmps o.dst (ren σ v),f'.of s'.heap,f'.dirt++s'.dirty⟩,?_,⟨?_,k3,k4⟩,k5⟩
  ·unfold qc5;simp only[ho,wx',k1,k2,if_true]
  ·simp only[hr.t,qp8]
 ·have wx':qb2 ops o s'.tmps=some false:=by rw[hr.t,qur];exact wx
  refine⟨⟨setT s'.tmps o.dst .undef,s'.heap,s'.dirty⟩,?_,⟨?_,hr.l,hr.h⟩,wk _⟩
  ·unfold qc5;simp only[ho,wx']
  ·simp only[hr.t]
   exact qp8 σ s.tmps o.dst .undef
theorem qv9 {lim n N:Nat} {ops:List Oper} {σ τ:Nat→Nat} (hw:Sw n N σ τ) (hln:lim≤n):∀(l:List Nat) {s s' t:St},RenS σ s s'→N≤s.heap.length→(∀j∈l,∀o,ops[j]? =some o→qrk o=true)→
 opsD P cmp call lim ops l s=some t→∃t',opsD P cmp call lim ops l s'=some t'∧RenS σ t t'∧s.heap.length≤t.heap.length
 |[],s,s',t,hr,_,_,e=>by cases e;exact⟨s',rfl,hr,wk _⟩
 |j::l,s,s',t,hr,hN,hp,e=>by
  simp only[opsD]at e
  split at e
  ·rename_i s1 h1
   obtain⟨o,ho,_⟩:=qej h1
   obtain⟨s1',g1,g2,g3⟩:=plain_ren hw hr hln hN ho (hp j (by simp) o ho) h1
   obtain⟨t',k1,k2,k3⟩:=qv9 hw hln l g2 (by omega) (fun i hi=>hp i (by simp[hi])) e
   exact⟨t',by simp only[opsD,g1];exact k1,k2,by omega⟩
  ·cases e
inductive OkA:AVal→Prop where
 |undef:OkA .undef
 |bool (b:Bool):OkA (.bool b)
 |int (k:IntKind) (n:Int):OkA (.int k n)
 |str (s:List UInt8):OkA (.str s)
 |nilp:OkA .nilp
 |ptr (b o:Nat):OkA (.ptr b o)
 |eptr (cs:List AVal) (o:Nat):(∀a∈cs,qcl a=true)→(∀a∈cs,OkA a)→OkA (.eptr cs o)
 |slice (es:List (List AVal)) (tk:Tk):(∀c∈es,∀a∈c,qcl a=true)→(∀c∈es,∀a∈c,OkA a)→OkA (.slice es tk)
 |func (f:FuncId) (a b:List AVal):(∀x∈a,OkA x)→(∀x∈b,OkA x)→OkA (.func f a b)
 |nilf:OkA .nilf
 |iface (t:TypeId) (v:AVal):OkA v→OkA (.iface t v)
 |nili:OkA .nili
 |agg (cs:List AVal):(∀a∈cs,OkA a)→OkA (.agg cs)
 |tuple (cs:List AVal):(∀a∈cs,OkA a)→OkA (.tuple cs)
theorem okA_of {S:Sh} {a:AVal} {v:Value} (k:VR S a v):OkA a:=by
 induction k with
 |undef=>exact .undef
 |bool b=>exact .bool b
 |int k n=>exact .int k n
 |str s l e=>exact .str l
 |nilp=>exact .nilp
 |ptr b o r e=>exact .ptr b o
 |eptr cs o r o0 vs h1 hp _ ih=>
  refine .eptr cs o hp (fun a ha=> ?_)
  obtain⟨j,hj,rfl⟩:=wb ha
  exact ih j _ (wa hj)
 |slice es tk ad n cap esz vs hn hc hcm hsp hsz h1 hp _ ht ih=>
  refine .slice es tk hp (fun c hc a ha=> ?_)
  obtain⟨i,hi,rfl⟩:=wb hc
  obtain⟨j,hj,rfl⟩:=wb ha
  exact ih i _ j _ (wa hi) (wa hj)
 |snil tk e=>exact .slice [] tk (fun c hc=>by cases hc) (fun c hc=>by cases hc)
 |func f a b x y hx hy _ _ i1 i2=>
  refine .func f a b (fun u hu=> ?_) (fun u hu=> ?_)
  ·obtain⟨j,hj,rfl⟩:=wb hu
   exact i1 j _ x[j] (wa hj) (wd (by omega))
  ·obtain⟨j,hj,rfl⟩:=wb hu
   exact i2 j _ y[j] (wa hj) (wd (by omega))
 |nilf=>exact .nilf
 |iface t a v _ ih=>exact .iface t a ih
 |nili=>exact .nili
 |agg a x hx _ ih=>
  refine .agg a (fun u hu=> ?_)
  obtain⟨j,hj,rfl⟩:=wb hu
  exact ih j _ x[j] (wa hj) (wd (by omega))
 |tuple a x hx _ ih=>
  refine .tuple a (fun u hu=> ?_)
  obtain⟨j,hj,rfl⟩:=wb hu
  exact ih j _ x[j] (wa hj) (wd (by omega))
theorem refsL_mem {l:List AVal} {b:Nat} (h:b∈qad l):∃v∈l,b∈refs v:=by
 induction l with
 |nil=>simp[qad]at h
 |cons x r ih=>
  simp only[qad,wu]at h
  rcases h with h|h
  ·exact⟨x,by simp,h⟩
  ·obtain⟨v,hv,hb⟩:=ih h
   exact⟨v,by simp[hv],hb⟩
theorem qk4 {l:List AVal} {n:Nat} (h:∀v∈l,∀b∈refs v,b<n):∀b∈qad l,b<n:=fun b hb=>by
 obtain⟨v,hv,hb⟩:=refsL_mem hb
 exact h v hv b hb
theorem refs_lt [Tabs P] {S:Sh} {h:qab} {w:World} (k:WR P S h w) {a:AVal} {v:Value} (r:VR S a v):∀b∈refs a,b<h.length:=by
 induction r with
 |ptr b o r e=>intro c hc;simp only[refs,wh,wo,or_false]at hc;subst hc;exact(k.lt e).1
 |slice es tk ad n cap esz vs hn hc hcm hsp hsz h1 hp _ ht ih=>
  cases tk with
  |free=>intro c hc;simp[refs]at hc
  |full=>intro c hc;simp[refs]at hc
  |own t=>
   intro c hc
   simp only[refs,wh,wo,or_false]at hc;subst hc
   obtain⟨r,c,l,t1,_⟩:=ht
   exact(k.ltτ t1).1
 |snil tk e=>intro c hc;rcases e with rfl|rfl<;>simp[refs]at hc
 |func f a b x y hx hy _ _ i1 i2=>
  intro c hc
  simp only[refs,wu]at hc
  rcases hc with hc|hc
  ·refine qk4 (fun u hu=> ?_) c hc
   obtain⟨j,hj,rfl⟩:=wb hu
   exact i1 j _ x[j] (wa hj) (wd (by omega))
  ·refine qk4 (fun u hu=> ?_) c hc
   obtain⟨j,hj,rfl⟩:=wb hu
   exact i2 j _ y[j] (wa hj) (wd (by omega))
 |iface t a v _ ih=>intro c hc;exact ih c (by simpa[refs]using hc)
 |agg a x hx _ ih=>
  intro c hc
  simp only[refs]at hc
  refine qk4 (fun u hu=> ?_) c hc
  obtain⟨j,hj,rfl⟩:=wb hu
  exact ih j _ x[j] (wa hj) (wd (by omega))
 |tuple a x hx _ ih=>
  intro c hc
  simp only[refs]at hc
  refine qk4 (fun u hu=> ?_) c hc
  obtain⟨j,hj,rfl⟩:=wb hu
  exact ih j _ x[j] (wa hj) (wd (by omega))
 |_=>intro c hc;simp[refs]at hc
def WfA (n:Nat) (v:AVal):Prop:=OkA v∧∀b∈refs v,b<n
structure Wf (s:St):Prop where
 t:∀v∈s.tmps,WfA s.heap.length v
 h:∀(b:Nat) (cs:List AVal),s.heap[b]? =some (Blk.box cs)→∀v∈cs,WfA s.heap.length v
theorem WfA.weak {n m:Nat} {v:AVal} (h:WfA n v) (k:n≤m):WfA m v:=⟨h.1,fun b hb=>Nat.lt_of_lt_of_le (h.2 b hb) k⟩
theorem WfA.pure {n:Nat} {v:AVal} (h:OkA v) (p:qcl v=true):WfA n v:=by
 refine⟨h,fun b hb=> ?_⟩
 unfold qcl at p
 simp only[w9]at p
 have:refs v=[]:=by simpa using p.2
 rw[this]at hb;cases hb
theorem wf_of [Tabs P] {S:Sh} {w:World} {s:St} {x:List Value} (k:WR P S s.heap w) (ht:VRl S s.tmps x):Wf s where
 t v hv:=by
  obtain⟨j,hj,rfl⟩:=wb hv
  obtain⟨u,_,hr⟩:=ht.get (wa hj)
  exact⟨okA_of hr,refs_lt k hr⟩
 h b cs hb v hv:=by
  obtain⟨r,C,T,_,_,hl,_⟩:=k.box b cs hb
  obtain⟨j,hj,rfl⟩:=wb hv
  obtain⟨u,_,hr⟩:=hl.get (wa hj)
  exact⟨okA_of hr,refs_lt k hr⟩
theorem qz7 {v:Value} {a:AVal} (h:ofV0 v=some a):OkA a:=by
 unfold ofV0 at h
 split at h<;>cases h
 ·exact .bool _
 ·exact .int _ _
 ·exact .str _
 ·exact .nilp
 ·exact .slice [] .full (fun c hc=>by cases hc) (fun c hc=>by cases hc)
 ·exact .nilf
 ·exact .nili
theorem qu4:∀{l:List Value} {as:List AVal},ofVs l=some as→∀a∈as,OkA a
 |[],as,h=>by cases h;intro a ha;cases ha
 |v::r,as,h=>by
  simp only[ofVs]at h
  split at h
  ·rename_i a l h1 h2
   cases h
   intro b hb
   rcases wh.1 hb with rfl|hb
   ·exact qz7 h1
   ·exact qu4 h2 b hb
  ·cases h
theorem okA_ofV {v:Value} {a:AVal} (h:ofV v=some a):OkA a:=by
 unfold ofV at h
 split at h
 ·cases hh:ofVs _ with
  |none=>rw[hh]at h;cases h
  |some l=>rw[hh]at h;cases h;exact .agg _ (qu4 hh)
 ·cases hh:ofVs _ with
  |none=>rw[hh]at h;cases h
  |some l=>rw[hh]at h;cases h;exact .tuple _ (qu4 hh)
 ·exact qz7 h
theorem qyr {n:Nat} {v:Value} {a:AVal} (h:ofV v=some a):WfA n a:=⟨okA_ofV h,fun b hb=>by rw[qp7 h]at hb;cases hb⟩
theorem qie {s:St} (w:Wf s) {x:Operand} {a:AVal} (h:qae x s.tmps=some a):WfA s.heap.length a:=by
 cases x with
 |tmp t=>exact w.t a (wi h)
 |const v=>exact qyr h
 |func f=>cases h;exact⟨.func f [] [] (fun x hx=>by cases hx) (fun x hx=>by cases hx),fun b hb=>by simp[refs,qad]at hb⟩
 | «global» g=>cases h
theorem qz8 {n:Nat} {v:AVal} (h:WfA n v):∀u∈v.cells,WfA n u:=by
 intro u hu
 cases v with
 |agg cs=>
  obtain⟨h1,h2⟩:=h
  cases h1 with
  |agg _ h1=>exact⟨h1 u hu,fun b hb=>h2 b (by
   simp only[refs]
   have hu':u∈cs:=hu
   clear hu h2 h1
   induction cs with
   |nil=>cases hu'
   |cons x r ih=>
    simp only[qad,wu]
    rcases wh.1 hu' with rfl|hu'
    ·exact .inl hb
    ·exact .inr (ih hu'))⟩
 |_=>simp only[AVal.cells,wh,wo,or_false]at hu;subst hu;exact h
theorem wf_part {n:Nat} {t:TypeId} {cs:List AVal} {off:Nat} {v:AVal} (h:∀u∈cs,WfA n u) (e:qe8 P t cs off=some v):WfA n v:=by
 unfold qe8 at e
 split at e
 ·simp only at e
  split at e
  ·cases e
   refine⟨.agg _ (fun a ha=>(h a (wv (w8 ha))).1),fun b hb=> ?_⟩
   simp only[refs]at hb
   exact qk4 (fun u hu=>(h u (wv (w8 hu))).2) b hb
  ·cases e
 ·exact h v (wi e)
 ·cases e
theorem qus {n:Nat}:∀{cs:List AVal} {off:Nat} {vs cs':List AVal},(∀u∈cs,WfA n u)→(∀u∈vs,WfA n u)→qau cs off vs=some cs'→∀u∈cs',WfA n u
 |cs,0,vs,cs',h,k,e=>by
  have e1:qau cs 0 vs=if vs.length≤cs.length then some (vs++cs.drop vs.length)else none:=by cases cs<;>rfl
  rw[e1]at e
  split at e
  ·cases e
   intro u hu
   rcases wu.1 hu with hu|hu
   ·exact k u hu
   ·exact h u (wv hu)
  ·cases e
 |c::cs,off+1,vs,cs',h,k,e=>by
  simp only[qau]at e
  cases hs:qau cs off vs with
  |none=>rw[hs]at e;cases e
  |some l=>
   rw[hs]at e;cases e
   intro u hu
   rcases wh.1 hu with rfl|hu
   ·exact h _ (by simp)
   ·exact qus (fun u hu=>h u (by simp[hu])) k hs u hu
 |[],off+1,vs,cs',_,_,e=>by cases e
theorem qwa {n:Nat} {ts:List AVal} {d:Option Tmp} {v:AVal} (h:∀u∈ts,WfA n u) (hv:WfA n v):∀u∈setT ts d v,WfA n u:=by
 intro u hu
 cases d with
 |none=>exact h u hu
 |some d=>
  rcases List.mem_or_eq_of_mem_set hu with hu|rfl
  ·exact h u hu
  ·exact hv
theorem tame_wf {lim:Nat} {ops:List Oper} {j:Nat} {o:Oper} {s t:St} (ho:ops[j]? =some o) (hp:qg8 o=true) (w:Wf s) (e:qc5 P cmp call lim ops j s=some t):Wf t:=by
 obtain⟨o',ho',hc⟩:=qej e
 rw[ho]at ho';cases ho'
 rcases hc with⟨wx,v,f,ov,av,rfl⟩|⟨wx,rfl⟩
 ·have same:∀u:AVal,WfA s.heap.length u→f= .same→v=u→Wf ⟨setT s.tmps o.dst v,f.of s.heap,f.dirt++s.dirty⟩:=by
   rintro u hu rfl rfl
   exact⟨qwa w.t hu,w.h⟩
  obtain⟨dst,op,type,pos,after,guard⟩:=o
  cases op with
  |alloc ty=>
   simp only[opA]at ov
   split at ov
   ·rename_i z hz
    cases ov
    have hz':∀u∈z.cells,WfA (s.heap.length+1) u:=by
     unfold qat at hz
     split at hz
     ·split at hz
      ·exact qz8 (qyr hz)
      ·cases hz
     ·cases hz
    refine⟨?_,?_⟩
    ·simp only[Eff.of,wj,wz,w6]
     refine qwa (fun u hu=>(w.t u hu).weak (by omega)) ⟨.ptr _ _,fun b hb=> ?_⟩
     simp only[refs,wh,wo,or_false]at hb;omega
    ·intro b cs hb
     simp only[Eff.of,wj,wz,w6]at hb ⊢
     by_cases hlt:b<s.heap.length
     ·rw[wg hlt]at hb
      exact fun u hu=>(w.h b cs hb u hu).weak (by omega)
     ·rw[wc (by omega)]at hb
      have:=wi hb
      simp only[wh,wo,or_false,Blk.box.injEq]at this
      subst this
      exact hz'
   ·cases ov
  |move x=>
   simp only[opA]at ov
   cases hc:qae x s.tmps with
   |none=>rw[hc]at ov;cases ov
   |some a=>rw[hc]at ov;cases ov;exact same _ (qie w hc) rfl rfl
  |fieldAddr ty x k=>
   simp only[opA]at ov
   split at ov
   ·rename_i off ft b o hfp hcx
    cases ov
    have:=qie w hcx
    exact same _ ⟨.ptr _ _,fun c hc=>this.2 c (by simpa[refs]using hc)⟩ rfl rfl
   ·rename_i off ft cs o hfp hcx
    cases ov
    have:=qie w hcx
    refine same _ ⟨?_,fun c hc=>by simp[refs]at hc⟩ rfl rfl
    cases this.1 with
    |eptr _ _ h1 h2=>exact .eptr cs _ h1 h2
   ·cases ov
  |load ty x=>
   simp only[opA]at ov
   split at ov
   ·rename_i p hcx
    split at ov
    ·rename_i u hu
     cases ov
     have hpw:=qie w hcx
     unfold qfz at hu
     split at hu
     ·split at hu
      ·rename_i hb
       exact same _ (wf_part (w.h _ _ hb) hu) rfl rfl
      ·cases hu
     ·rename_i cs off
      cases hpw.1 with
      |eptr _ _ h1 h2=>exact same _ (wf_part (fun a ha=>WfA.pure (h2 a ha) (h1 a ha)) hu) rfl rfl
     ·cases hu
    ·cases ov
   ·cases ov
  |indexAddr ty x y=>
   simp only[opA]at ov
   split at ov
   ·rename_i el es tk k n hu hcx hcy
    split at ov
    ·rename_i cs sz hes hsz
     split at ov
     ·cases ov
      have:=qie w hcx
      cases this.1 with
      |slice _ _ h1 h2=>
       have hm:=wi hes
       exact same _ ⟨.eptr cs 0 (h1 cs hm) (h2 cs hm),fun c hc=>by simp[refs]at hc⟩ rfl rfl
     ·cases ov
    ·cases ov
   ·rename_i len el b o k n hu hcx hcy
    split at ov
    ·split at ov
     ·cases ov
      have:=qie w hcx
      exact same _ ⟨.ptr _ _,fun c hc=>this.2 c (by simpa[refs]using hc)⟩ rfl rfl
     ·cases ov
    ·cases ov
   ·cases ov
  |store ty a x=>
   simp only[opA]at ov
   split at ov
   ·rename_i p u hp hu
    split at ov
    ·rename_i h1 b1 hst
     cases ov
     have huw:=qz8 (qie w hu)
     unfold qfw at hst
     split at hst
     ·rename_i b off
      split at hst
      ·rename_i cs n hb hn
       split at hst
       ·cases hset:qau cs off u.cells with
        |none=>rw[hset]at hst;cases hst
        |some cs'=>
         rw[hset]at hst
         simp only[we,Option.some.injEq,Prod.mk.injEq]at hst
         obtain⟨rfl,rfl⟩:=hst
         have hcs:=qus (w.h b cs hb) huw hset
         refine⟨?_,?_⟩
         ·simp only[Eff.of,wq]
          exact qwa w.t ⟨.undef,fun c hc=>by simp[refs]at hc⟩
         ·intro c cs2 hc
          simp only[Eff.of,wq]at hc ⊢
          by_cases hbc:b=c
          ·subst hbc
           have hlt:=(ww.1 hb).1
           rw[wm hlt]at hc
           cases hc;exact hcs
          ·rw[wt hbc]at hc
           exact w.h c cs2 hc
       ·cases hst
      ·cases hst
     ·cases hst
    ·cases ov
   ·cases ov
  |_=>simp[qg8]at hp
 ·exact⟨qwa w.t ⟨.undef,fun b hb=>by simp[refs]at hb⟩,w.h⟩
theorem qz9 {lim:Nat} {ops:List Oper} {j:Nat} {o:Oper} {s t:St} (ho:ops[j]? =some o) (hp:qg8 o=true) (e:qc5 P cmp call lim ops j s=some t):s.heap.length≤t.heap.length:=by
 obtain⟨o',ho',hc⟩:=qej e
 rw[ho]at ho';cases ho'
 rcases hc with⟨wx,v,f,ov,av,rfl⟩|⟨wx,rfl⟩
 ·show s.heap.length≤(f.of s.heap).length
  by_cases h0:cls o=0
  ·obtain⟨_,v',hv⟩:=qhl h0 ov
   cases hv;exact wk _
  by_cases h1:cls o=1
  ·obtain⟨⟨v',hv⟩,_⟩:=qf8 h1 ov
   cases hv;exact wk _
  by_cases h2:cls o=2
  ·exact(qrq h2 ov).1
  by_cases h3:cls o=3
  ·obtain⟨t,a,x,b,off,cs,_,_,rfl,rfl,_⟩:=qmb h3 ov
   simp[Eff.of]
  ·obtain⟨dst,op,type,pos,after,guard⟩:=o
   cases op<;>first|(exact absurd rfl h0)|(exact absurd rfl h1)|(exact absurd rfl h2)|(exact absurd rfl h3)|(simp[qg8]at hp)
 ·exact wk _
def swp (n:Nat) (b:Nat):Nat:=if b=n then n+1 else if b=n+1 then n else b
theorem qow (n:Nat):Sw n (n+2) (swp n) (swp n) where
 ts b:=by unfold swp;split<;>(try split)<;>(try split)<;>omega
 st b:=by unfold swp;split<;>(try split)<;>(try split)<;>omega
 lo b hb:=by unfold swp;rw[if_neg (by omega),if_neg (by omega)]
 hi b hb:=by unfold swp;rw[if_neg (by omega),if_neg (by omega)]
theorem q0a {n:Nat} {σ:Nat→Nat} (hσ:∀b,b<n→σ b=b) {l:List AVal} (h:∀v∈l,WfA n v):renL σ l=l:=
 qcy l (fun b hb=>hσ b (qk4 (fun v hv=>(h v hv).2) b hb))
theorem swapAl {lim:Nat} {ops:List Oper} {i j:Nat} {x y:Oper} {s s1 s2:St} (hx:ops[i]? =some x) (hy:ops[j]? =some y) (ax:isAl x=true) (ay:isAl y=true) (hin:qpx ops x y=true) (w:Wf s)
 {fy:Eff} (e1:qc5 P cmp call lim ops i s=some s1) (e2:qs8 P cmp call ops j s1 s2 fy):
 lim≤s.heap.length∧s2.heap.length=s.heap.length+2∧∃s1' s2',qc5 P cmp call lim ops j s=some s1'∧qc5 P cmp call lim ops i s1'=some s2'∧RenS (swp s.heap.length) s2 s2':=by
 obtain⟨_,_,d3⟩:=qyo hin
 have al:∀o:Oper,isAl o=true→∃t,o.op= .alloc t∧o.guard=none:=by
  intro o h
  unfold isAl at h
  split at h
  ·rename_i t h1 h2;exact⟨t,h1,h2⟩
  ·cases h
 obtain⟨tx,ox,gx⟩:=al x ax
 obtain⟨ty,oy,gy⟩:=al y ay
 have stp:∀(k:Nat) (o:Oper) (t:TypeId) (a b:St),ops[k]? =some o→o.op= .alloc t→o.guard=none→qc5 P cmp call lim ops k a=some b→
  ∃z,qat P t=some z∧lim≤a.heap.length∧b=⟨setT a.tmps o.dst (.ptr a.heap.length 0),a.heap++[.box z.cells],[]++a.dirty⟩:=by
  intro k o t a b hk ho hg e
  obtain⟨o',ho',hc⟩:=qej e
  rw[hk]at ho';cases ho'
  obtain⟨dst,op,type,pos,after,guard⟩:=o
  simp only at ho hg
  subst ho hg
  rcases hc with⟨wx,v,f,ov,av,rfl⟩|⟨wx,rfl⟩
  ·simp only[opA]at ov
   split at ov
   ·rename_i z hz
    cases ov
    refine⟨z,hz,?_,rfl⟩
    unfold askD at av
    simpa[cls]using av
   ·cases ov
  ·simp[qb2]at wx
 have stpN:∀(k:Nat) (o:Oper) (t:TypeId) (a b:St) (f:Eff),ops[k]? =some o→o.op= .alloc t→o.guard=none→qs8 P cmp call ops k a b f→
  ∃z,qat P t=some z∧b=⟨setT a.tmps o.dst (.ptr a.heap.length 0),a.heap++[.box z.cells],[]++a.dirty⟩:=by
  intro k o t a b f hk ho hg e
  obtain⟨o',ho',hc⟩:=e
  rw[hk]at ho';cases ho'
  obtain⟨dst,op,type,pos,after,guard⟩:=o
  simp only at ho hg
  subst ho hg
  rcases hc with⟨wx,v,ov,rfl⟩|⟨wx,_,rfl⟩
  ·simp only[opA]at ov
   split at ov
   ·rename_i z hz
    cases ov
    exact⟨z,hz,rfl⟩
   ·cases ov
  ·simp[qb2]at wx
 obtain⟨zx,hzx,hl,rfl⟩:=stp i x tx s s1 hx ox gx e1
 obtain⟨zy,hzy,rfl⟩:=stpN j y ty _ s2 fy hy oy gy e2
 have mk:∀(k:Nat) (o:Oper) (t:TypeId) (z:AVal) (a:St),ops[k]? =some o→o.op= .alloc t→o.guard=none→qat P t=some z→lim≤a.heap.length→
  qc5 P cmp call lim ops k a=some ⟨setT a.tmps o.dst (.ptr a.heap.length 0),a.heap++[.box z.cells],[]++a.dirty⟩:=by
  intro k o t z a hk ho hg hz hl
  obtain⟨dst,op,type,pos,after,guard⟩:=o
  simp only at ho hg
  subst ho hg
  unfold qc5
  simp only[hk,qb2,opA,hz]
  rw[if_pos (by unfold askD;simpa[cls]using hl)]
  rfl
 refine⟨hl,by simp,_,_,mk j y ty zy s hy oy gy hzy hl,mk i x tx zx _ hx ox gx hzx (by simp;omega),?_,?_,?_⟩
 ·have hlow:=q0a (qow s.heap.length).lo w.t
  have h1:swp s.heap.length s.heap.length=s.heap.length+1:=by unfold swp;rw[if_pos rfl]
  have h2:swp s.heap.length (s.heap.length+1)=s.heap.length:=by unfold swp;rw[if_neg (by omega),if_pos rfl]
  simp only[wj,wz,w6]
  rw[←qp8,←qp8,hlow]
  simp only[ren,h1,h2]
  exact(qyn (fun d hd e=>d3 d hd e)).symm
 ·simp
 ·intro b
  have zr:∀{t:TypeId} {z:AVal},qat P t=some z→renL (swp s.heap.length) z.cells=z.cells:=by
   intro t z hz
   refine qcy _ (fun b hb=> ?_)
   have:qad z.cells=[]:=by
    unfold qat at hz
    split at hz
    ·split at hz
     ·have:=qp7 hz
      cases z with
      |agg cs=>simpa[refs,AVal.cells]using this
      |_=>simp[AVal.cells,qad,this]
     ·cases hz
    ·cases hz
   rw[this]at hb;cases hb
  simp only[List.append_assoc,List.cons_append,List.nil_append]
  by_cases hb:b<s.heap.length
  ·rw[(qow s.heap.length).lo b hb,wg hb,wg hb]
   cases h:s.heap[b]? with
   |none=>rfl
   |some k=>
    cases k with
    |tok=>rfl
    |box cs=>simp only[we,renB,q0a (qow s.heap.length).lo (w.h b cs h)]
  ·by_cases hb1:b=s.heap.length
   ·subst hb1
    have h1:swp s.heap.length s.heap.length=s.heap.length+1:=by unfold swp;rw[if_pos rfl]
    rw[h1,wc (by omega),wc (by omega)]
    simp[renB,zr hzx]
   ·by_cases hb2:b=s.heap.length+1
    ·subst hb2
     have h2:swp s.heap.length (s.heap.length+1)=s.heap.length:=by unfold swp;rw[if_neg (by omega),if_pos rfl]
     rw[h2,wc (by omega),wc (by omega)]
     simp[renB,zr hzy]
    ·rw[(qow s.heap.length).hi b (by omega),wc (by omega)]
     have:([Blk.box zy.cells,Blk.box zx.cells]:List Blk)[b-s.heap.length]? =none:=w7 (by simp;omega)
     have h3:([Blk.box zx.cells,Blk.box zy.cells]:List Blk)[b-s.heap.length]? =none:=w7 (by simp;omega)
     rw[this,wc (by omega),h3];rfl
end Go.Ab
