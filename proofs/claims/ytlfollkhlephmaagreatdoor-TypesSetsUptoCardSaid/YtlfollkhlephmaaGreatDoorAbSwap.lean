/- Two that are made in one region, in either order: the same but for the numbers of the blocks. -/
import Derived.Test.YtlfollkhlephmaaGreatDoorAbCode1
set_option linter.unusedSimpArgs false
set_option linter.unusedVariables false
set_option maxRecDepth 100000
set_option maxHeartbeats 4000000
open List renaming getElem?_append_left→wa,getElem?_append_right→wb,length_append→wc,getElem?_eq_getElem→we,mem_cons→wg,not_mem_nil→wh,getElem_of_mem→wi,mem_of_getElem?→wj,getElem?_eq_some_iff→wk,getElem?_set_self→wl,length_nil→wo,length_set→wq,length_map→ws,length_cons→wt,getElem?_set_ne→ww,mem_append→wz,getElem?_eq_none→w5,map_append→w6,mem_singleton→w7,mem_append_right→w8,mem_map→w9,mem_of_mem_drop→waa,mem_append_left→wba,getElem?_map→wca,mem_flatten→wda,mem_of_mem_take→wfa,map_cons→wga,append_nil→wia,nil_append→wja,drop_zero→wka,map_drop→wma,map_nil→wna
open Option renaming map_some→wd,map_eq_some_iff→wea
open Array renaming getElem?_eq_getElem→wm
open Nat renaming le_refl→wu
open Bool renaming and_eq_true→w3,or_eq_true→w4,not_eq_true'→wha
open Prod renaming mk→wla
namespace Go.Ab
variable {P:Program} {cmp:List TypeId} {call:Call}
theorem qcq (σ:Nat→Nat):∀l:List AVal,renL σ l=l.map (ren σ)
 |[]=>rfl
 |v::r=>by simp only[renL,qcq σ r,wga]
theorem ql7 {v:Value} {a:AVal} (h:ofV0 v=some a):refs a=[]:=by
 unfold ofV0 at h
 split at h<;>cases h<;>rfl
theorem qh7:∀{l:List Value} {as:List AVal},ofVs l=some as→qaf as=[]
 |[],as,h=>by cases h;rfl
 |v::r,as,h=>by
  simp only[ofVs]at h
  split at h
  ·rename_i a l h1 h2
   cases h
   simp only[qaf,ql7 h1,qh7 h2,wia]
  ·cases h
theorem qhb {v:Value} {a:AVal} (h:ofV v=some a):refs a=[]:=by
 unfold ofV at h
 split at h
 ·cases hh:ofVs _ with
  |none=>rw[hh]at h;cases h
  |some l=>rw[hh]at h;cases h;simp only[refs,qh7 hh]
 ·cases hh:ofVs _ with
  |none=>rw[hh]at h;cases h
  |some l=>rw[hh]at h;cases h;simp only[refs,qh7 hh]
 ·exact ql7 h
theorem qbi (σ:Nat→Nat) (x:Operand) (ts:List AVal):qab x (renL σ ts)=(qab x ts).map (ren σ):=by
 cases x with
 |tmp t=>simp only[qab,qcn]
 |const v=>
  simp only[qab]
  cases h:ofV v with
  |none=>rfl
  |some a=>simp only[wd];rw[qc5 a (by rw[qhb h];simp)]
 |func f=>simp only[qab];rfl
 | «global» g=>simp only[qab];rfl
structure Sw (n N:Nat) (σ τ:Nat→Nat):Prop where
 ts:∀b,τ (σ b)=b
 st:∀b,σ (τ b)=b
 lo:∀b,b<n→σ b=b
 hi:∀b,N≤b→σ b=b
theorem Sw.up {n N:Nat} {σ τ:Nat→Nat} (h:Sw n N σ τ) {b:Nat} (hb:n≤b):n≤σ b:=by
 by_cases hc:σ b<n
 ·have h1:=h.lo (σ b) hc
  have h2:=h.ts (σ b)
  rw[h1,h.ts]at h2;omega
 ·omega
theorem Sw.inv {n N:Nat} {σ τ:Nat→Nat} (h:Sw n N σ τ):Sw n N τ σ where
 ts:=h.st
 st:=h.ts
 lo b hb:=by have:=h.ts b;rw[h.lo b hb]at this;exact this
 hi b hb:=by have:=h.ts b;rw[h.hi b hb]at this;exact this
theorem Sw.comp {n N:Nat} {σ τ σ' τ':Nat→Nat} (h:Sw n N σ τ) (k:Sw n N σ' τ'):Sw n N (fun b=>σ' (σ b)) (fun b=>τ (τ' b)) where
 ts b:=by rw[k.ts,h.ts]
 st b:=by rw[h.st,k.st]
 lo b hb:=by rw[h.lo b hb,k.lo b hb]
 hi b hb:=by rw[h.hi b hb,k.hi b hb]
theorem Sw.weak {n m N M:Nat} {σ τ:Nat→Nat} (h:Sw n N σ τ) (hm:m≤n) (hN:N≤M):Sw m M σ τ:=
 ⟨h.ts,h.st,fun b hb=>h.lo b (by omega),fun b hb=>h.hi b (by omega)⟩
structure RenS (σ:Nat→Nat) (s s':St):Prop where
 t:s'.tmps=renL σ s.tmps
 l:s'.heap.length=s.heap.length
 h:∀b,s'.heap[σ b]? =(s.heap[b]?).map (renB σ)
theorem qh8 {σ τ:Nat→Nat} (x:Blk):renB τ (renB σ x)=renB (fun b=>τ (σ b)) x:=by
 cases x<;>simp only[renB,qbx]
theorem RenS.comp {σ σ':Nat→Nat} {s s' s'':St} (h:RenS σ s s') (k:RenS σ' s' s''):RenS (fun b=>σ' (σ b)) s s'' where
 t:=by rw[k.t,h.t,qbx]
 l:=k.l.trans h.l
 h b:=by
  rw[k.h (σ b),h.h b]
  cases s.heap[b]? with
  |none=>rfl
  |some x=>simp only[wd,qh8]
theorem qjw (σ:Nat→Nat) (ops:List Oper) (o:Oper) (ts:List AVal):qak ops o (renL σ ts)=qak ops o ts:=by
 unfold qak
 split
 ·rfl
 ·split
  ·split
   ·rename_i d hd
    rw[qcn]
    cases ts[d]? with
    |none=>rfl
    |some v=>cases v<;>first|rfl|(rename_i es tk;cases tk<;>rfl)
   ·rfl
  ·rfl
theorem qev (σ:Nat→Nat) (ts:List AVal) (d:Option Tmp) (v:AVal):setT (renL σ ts) d (ren σ v)=renL σ (setT ts d v):=by
 cases d with
 |none=>rfl
 |some d=>simp only[setT,qcq,List.map_set]
theorem qgc (σ:Nat→Nat) (v:AVal):(ren σ v).cells=renL σ v.cells:=by
 cases v with
 |slice es tk=>cases tk<;>rfl
 |agg cs=>simp only[ren,AVal.cells]
 |_=>rfl
theorem one_ren (σ:Nat→Nat) (v:AVal):oneA (ren σ v)=oneA v:=by
 cases v with
 |slice es tk=>cases tk<;>rfl
 |_=>rfl
theorem qnb (σ:Nat→Nat) (l:List AVal):(renL σ l).all oneA=l.all oneA:=by
 induction l with
 |nil=>rfl
 |cons v r ih=>simp only[renL,List.all_cons,one_ren,ih]
theorem qdo (σ:Nat→Nat):∀(cs:List AVal) (n:Nat) (vs:List AVal),qai (renL σ cs) n (renL σ vs)=(qai cs n vs).map (renL σ)
 |cs,0,vs=>by
  have e:∀(cs:List AVal),qai cs 0 vs=if vs.length≤cs.length then some (vs++cs.drop vs.length)else none:=fun cs=>by cases cs<;>rfl
  have e':∀(cs:List AVal),qai cs 0 (renL σ vs)=if(renL σ vs).length≤cs.length then some (renL σ vs++cs.drop (renL σ vs).length)else none:=fun cs=>by cases cs<;>rfl
  rw[e,e',qax,qax]
  by_cases h:vs.length≤cs.length
  ·rw[if_pos h,if_pos h];simp only[wd,qcq,w6,wma]
  ·rw[if_neg h,if_neg h];rfl
 |c::cs,n+1,vs=>by
  simp only[renL,qai,qdo σ cs n vs]
  cases qai cs n vs<;>rfl
 |[],n+1,vs=>rfl
theorem qpp {σ:Nat→Nat} (hinj:∀a b,σ a=σ b→a=b) {d:List Nat} {v:Option AVal} (h:qb0 d v=true):qb0 (d.map σ) (v.map (ren σ))=true:=by
 have key:∀b,(!d.contains b)=true→(!(d.map σ).contains (σ b))=true:=by
  intro b hb
  simp only[wha,List.contains_eq_mem,decide_eq_false_iff_not]at hb ⊢
  intro hm
  obtain⟨c,hc,he⟩:=w9.1 hm
  exact hb (by rw[hinj b c he.symm];exact hc)
 cases v with
 |none=>rfl
 |some a=>cases a with
  |ptr b o=>exact key b h
  |mptr b o n=>exact key b h
  |mref b=>exact key b h
  |slice es tk=>cases tk<;>rfl
  |_=>rfl
theorem qk3 {σ:Nat→Nat} (hinj:∀a b,σ a=σ b→a=b) {af:List Edge} {ts:List AVal} {d:List Nat}:∀(q j:Nat) (l:List Oper),qad af ts d q j l=true→qad af (renL σ ts) (d.map σ) q j l=true
 |q,0,l,_=>by unfold qad;rfl
 |q,j+1,[],_=>by unfold qad;rfl
 |q,j+1,o::r,h=>by
  simp only[qad,w3]at h ⊢
  refine⟨?_,qk3 hinj (q+1) j r h.2⟩
  have h1:=h.1
  split at h1
  ·rw[w4]at h1 ⊢
   rw[qbi]
   exact h1.imp id (qpp hinj)
  ·rfl
theorem isMp_ren (σ:Nat→Nat) (v:Option AVal):isMp (v.map (ren σ))=isMp v:=by
 cases v with
 |none=>rfl
 |some a=>cases a with
  |slice es tk=>cases tk<;>rfl
  |_=>rfl
theorem isPt_ren (σ:Nat→Nat) (v:Option AVal):isPt (v.map (ren σ))=isPt v:=by
 cases v with
 |none=>rfl
 |some a=>cases a with
  |slice es tk=>cases tk<;>rfl
  |_=>rfl
theorem stOk_ren (σ:Nat→Nat) (ops:List Oper) (j:Nat) (o:Oper) (ts:List AVal):stOk ops j o (renL σ ts)=stOk ops j o ts:=by
 unfold stOk
 congr 1
 funext i
 cases ops[i]? with
 |none=>rfl
 |some x=>
  simp only[Option.all_some,stAt]
  split
  ·rw[qbi,qbi,isMp_ren,isPt_ren]
  ·rfl
theorem ql8 (σ:Nat→Nat) (ts:List AVal):∀l:List Operand,qal (renL σ ts) l=(qal ts l).map (renL σ)
 |[]=>rfl
 |o::r=>by
  simp only[qal,qbi,ql8 σ ts r]
  cases qab o ts with
  |none=>rfl
  |some a=>cases qal ts r<;>rfl
theorem qk4 (σ:Nat→Nat) (ts:List AVal):∀l:List (Nat×Operand),qar (renL σ ts) l=(qar ts l).map (List.map fun x=>(x.1,ren σ x.2))
 |[]=>rfl
 |(i,o)::r=>by
  simp only[qar,qbi,qk4 σ ts r]
  cases qab o ts with
  |none=>rfl
  |some a=>cases qar ts r<;>rfl
theorem qh9 (σ:Nat→Nat) (pl:Nat→Option (Nat×Nat)):∀(l:List (Nat×AVal)) (cs:List AVal),qa2 pl (renL σ cs) (l.map fun x=>(x.1,ren σ x.2))=(qa2 pl cs l).map (renL σ)
 |[],cs=>rfl
 |(i,v)::r,cs=>by
  simp only[wga,qa2]
  cases pl i with
  |none=>rfl
  |some p=>
   obtain⟨off,size⟩:=p
   simp only[qgc,qax,qdo]
   split
   ·cases qai cs off v.cells with
    |none=>rfl
    |some c=>simp only[wd];exact qh9 σ pl r c
   ·rfl
theorem renL_take (σ:Nat→Nat) (n:Nat) (l:List AVal):(renL σ l).take n=renL σ (l.take n):=by simp only[qcq,List.map_take]
theorem renL_drop (σ:Nat→Nat) (n:Nat) (l:List AVal):(renL σ l).drop n=renL σ (l.drop n):=by simp only[qcq,wma]
theorem ql9 (σ:Nat→Nat) (t:TypeId) (cs:List AVal) (off:Nat):qbp P t (renL σ cs) off=(qbp P t cs off).map (ren σ):=by
 unfold qbp
 split
 ·simp only[renL_drop,renL_take,qax]
  split<;>rfl
 ·rw[qcn]
 ·rfl
theorem qhc (σ:Nat→Nat) {t:TypeId} {z:AVal} (hz:qap P t=some z):refs z=[]:=by
 unfold qap at hz
 split at hz
 ·split at hz
  ·exact qhb hz
  ·cases hz
 ·cases hz
theorem qoi {σ:Nat→Nat} (hinj:∀a b,σ a=σ b→a=b) {h h':qaa} (hl:h'.length=h.length) (hh:∀b,h'[σ b]? =(h[b]?).map (renB σ)) (hσ:σ h.length=h.length) {t:TypeId} {s x v:AVal} {f:Eff} (e:qbu P h t s x=some (v,f)):
 ∃f',qbu P h' t (ren σ s) (ren σ x)=some (ren σ v,f')∧((f= .same∧f'= .same)∨(∃k T,f= .heap (h++[.tok k T]) []∧f'= .heap (h'++[.tok k T]) [])∨
  ∃b n k T,h[b]? =some (.tok n T)∧f= .heap (h.set b (.tok k T)) [b]∧f'= .heap (h'.set (σ b) (.tok k T)) [σ b]):=by
 unfold qbu at e
 split at e
 ·rename_i el es tk fs tk' hel
  split at e
  ·rename_i sz by_ z hsz hby hz
   split at e
   ·rename_i hc
    have rs:∃tk2,ren σ (.slice es tk)= .slice es tk2∧(tk= .full→tk2= .full)∧(∀b,tk= .own b→tk2= .own (σ b)):=by
     cases tk with
     |free=>exact⟨.free,rfl,(fun h=>by cases h),(fun b h=>by cases h)⟩
     |full=>exact⟨.full,rfl,(fun _=>rfl),(fun b h=>by cases h)⟩
     |zero=>exact⟨.zero,rfl,(fun h=>by cases h),(fun b h=>by cases h)⟩
     |own b=>exact⟨.own (σ b),rfl,(fun h=>by cases h),(fun c h=>by cases h;rfl)⟩
    have rx:∃tk2,ren σ (.slice fs tk')= .slice fs tk2∧(∀b,(tk'==Tk.own b)=false→(tk2==Tk.own (σ b))=false):=by
     cases tk' with
     |free=>exact⟨.free,rfl,fun b _=>rfl⟩
     |full=>exact⟨.full,rfl,fun b _=>rfl⟩
     |zero=>exact⟨.zero,rfl,fun b _=>rfl⟩
     |own c=>
      refine⟨.own (σ c),rfl,fun b hb=> ?_⟩
      simp only[beq_eq_false_iff_ne,ne_eq,Tk.own.injEq]at hb ⊢
      exact fun h=>hb (hinj _ _ h)
    obtain⟨t2,e2,f2,o2⟩:=rs
    obtain⟨t3,e3,o3⟩:=rx
    rw[e2,e3]
    unfold qbu
    simp only[hel,hsz,hby,hz,hc,if_true]
    split at e
    ·cases e;exact⟨.same,by rw[e2],.inl ⟨rfl,rfl⟩⟩
    ·split at e
     ·cases e
      rw[f2 rfl]
      exact⟨_,by simp only[ren,hσ,hl],.inr (.inl ⟨_,_,rfl,rfl⟩)⟩
     ·rename_i b
      split at e
      ·rename_i n e' hb
       split at e
       ·rename_i hcnd
        simp only[w3,decide_eq_true_eq,wha]at hcnd
        obtain⟨⟨hn,rfl⟩,ht⟩:=hcnd
        cases e
        rw[o2 b rfl]
        simp only[hh b,hb,wd,renB]
        rw[if_pos (by simp only[hn,o3 b ht];simp)]
        exact⟨_,rfl,.inr (.inr ⟨b,n,_,_,hb,rfl,rfl⟩)⟩
       ·cases e
      ·cases e
     ·cases e
     ·cases e
   ·cases e
  ·cases e
 ·cases e
theorem qoj {σ:Nat→Nat} {h h':qaa} (hl:h'.length=h.length) (hh:∀b,h'[σ b]? =(h[b]?).map (renB σ)) (hσ:σ h.length=h.length) {t:TypeId} {s x v:AVal} {f:Eff} (hx:∀fs tk,x= .slice fs tk→∀c∈fs,∀a∈c,qaq a=true) (e:qcg P h t s x=some (v,f)):
 ∃f',qcg P h' t (ren σ s) (ren σ x)=some (ren σ v,f')∧((f= .same∧f'= .same)∨(∃y,f= .heap (h++[y]) []∧f'= .heap (h'++[renB σ y]) [])∨
  ∃b x0 y,h[b]? =some x0∧f= .heap (h.set b y) [b]∧f'= .heap (h'.set (σ b) (renB σ y)) [σ b]):=by
 unfold qcg at e
 split at e
 ·rename_i el fs tk' hel
  have hpu:renL σ fs.flatten=fs.flatten:=qam _ (fun b hb=>by
   obtain⟨a,ha,hba⟩:=qc1.1 hb
   obtain⟨c,hc,hac⟩:=wda.1 ha
   have:=hx fs tk' rfl c hc a hac
   unfold qaq at this
   simp only[w3]at this
   have h0:refs a=[]:=by simpa using this.2
   rw[h0]at hba;cases hba)
  have rx:∃tk2,ren σ (.slice fs tk')= .slice fs tk2:=by cases tk'<;>exact⟨_,rfl⟩
  obtain⟨t3,e3⟩:=rx
  split at e
  ·rename_i sz by_ z hsz hby hz
   split at e
   ·rename_i hc
    rw[e3]
    unfold qcg
    simp only[hel,hsz,hby,hz,hc,if_true]
    split at e
    ·rename_i es
     split at e
     ·rename_i hc2
      cases e
      simp only[ren]
      rw[if_pos hc2,hl,hσ]
      exact⟨_,rfl,.inr (.inl ⟨_,rfl,by simp only[renB,hpu]⟩)⟩
     ·cases e
    ·rename_i es b
     split at e
     ·rename_i n e' hb
      split at e
      ·rename_i hc2
       cases e
       simp only[ren,hh b,hb,wd,renB]
       rw[if_pos hc2]
       exact⟨_,rfl,.inr (.inr ⟨b,_,_,hb,rfl,by simp only[renB,hpu]⟩)⟩
      ·cases e
     ·cases e
    ·rename_i es b n m
     split at e
     ·rename_i p cs l e' hb
      split at e
      ·rename_i hc2
       simp only[ren,hh b,hb,wd,renB]
       rw[if_pos hc2]
       split at e
       ·rename_i hmn
        cases e
        rw[if_pos hmn]
        exact⟨_,rfl,.inr (.inr ⟨b,_,_,hb,rfl,by simp only[renB,qcq,w6];rw[←qcq σ fs.flatten,hpu]⟩)⟩
       ·rename_i hmn
        rw[if_neg hmn]
        split at e
        ·rename_i hmf
         rw[if_pos hmf]
         split at e
         ·rename_i cs' hset
          cases e
          have hset':qai (renL σ cs) (m*(sz+1)-p) fs.flatten=some (renL σ cs'):=by
           have:=qdo σ cs (m*(sz+1)-p) fs.flatten
           rw[hpu,hset]at this
           exact this
          rw[hset']
          exact⟨_,rfl,.inr (.inr ⟨b,_,_,hb,rfl,rfl⟩)⟩
         ·cases e
        ·cases e
      ·cases e
     ·cases e
    ·cases e
   ·rename_i hc
    rw[e3]
    unfold qcg
    simp only[hel,hsz,hby,hz,hc,if_false]
    unfold qgn at e
    split at e
    ·cases e
     exact⟨_,rfl,.inl ⟨rfl,rfl⟩⟩
    ·cases e
  ·cases e
 ·cases e
theorem toM_ren (σ:Nat→Nat) (s x:AVal):toM (ren σ s) (ren σ x)=toM s x:=by
 unfold toM
 congr 1
 ·cases s with
  |slice es tk=>cases tk<;>rfl
  |_=>rfl
 ·cases x with
  |slice es tk=>cases tk<;>rfl
  |_=>rfl
theorem useM_ren (σ:Nat→Nat) (b:Bool) (s x:AVal):useM b (ren σ s) (ren σ x)=useM b s x:=by
 unfold useM
 rw[toM_ren]
 congr 2
 congr 1
 ·cases s with
  |slice es tk=>cases tk<;>rfl
  |_=>rfl
 ·cases x with
  |slice es tk=>cases es<;>cases tk<;>rfl
  |_=>rfl
theorem qok {σ:Nat→Nat} {bb:Bool} (hinj:∀a b,σ a=σ b→a=b) {h h':qaa} (hl:h'.length=h.length) (hh:∀b,h'[σ b]? =(h[b]?).map (renB σ)) (hσ:σ h.length=h.length) {t:TypeId} {s x v:AVal} {f:Eff} (hx:∀fs tk,x= .slice fs tk→∀c∈fs,∀a∈c,qaq a=true) (e:qbf P bb h t s x=some (v,f)):
 ∃f',qbf P bb h' t (ren σ s) (ren σ x)=some (ren σ v,f')∧((f= .same∧f'= .same)∨(∃y,f= .heap (h++[y]) []∧f'= .heap (h'++[renB σ y]) [])∨
  ∃b x0 y,h[b]? =some x0∧f= .heap (h.set b y) [b]∧f'= .heap (h'.set (σ b) (renB σ y)) [σ b]):=by
 have hA:∀{v f},qbu P h t s x=some (v,f)→∃f',qbu P h' t (ren σ s) (ren σ x)=some (ren σ v,f')∧((f= .same∧f'= .same)∨(∃y,f= .heap (h++[y]) []∧f'= .heap (h'++[renB σ y]) [])∨
  ∃b x0 y,h[b]? =some x0∧f= .heap (h.set b y) [b]∧f'= .heap (h'.set (σ b) (renB σ y)) [σ b]):=by
  intro v f e
  obtain⟨f',h1,h2⟩:=qoi hinj hl hh hσ e
  refine⟨f',h1,?_⟩
  rcases h2 with h2|⟨k,T,h2,h3⟩|⟨b,n,k,T,h2,h3,h4⟩
  ·exact .inl h2
  ·exact .inr (.inl ⟨_,h2,h3⟩)
  ·exact .inr (.inr ⟨b,_,_,h2,h3,h4⟩)
 unfold qbf at e ⊢
 rw[useM_ren]
 split at e
 ·rename_i h;rw[if_pos h];exact qoj hl hh hσ hx e
 ·rename_i h;rw[if_neg h];exact hA e
theorem cls_app {dst:Option Tmp} {args:Array Operand} {ats:Array TypeId} {type:TypeId} {pos:String} {after:Array Edge} {guard:Option (Nat×Bool)} (h:(ats[1]? ==ats[0]?)=true):cls ⟨dst,.call { callee:= .builtin .append,args:=args,argTypes:=ats },type,pos,after,guard⟩=2:=by
 simp only[cls];rw[if_pos h]
theorem qhd {o:Oper} {ts:List AVal} {h:qaa} {v:AVal} {f:Eff} (ha:qcd o=true) (e:opA P cmp call o ts h=some (.val v f)):
 ∃args ats x y t,o.op= .call { callee:= .builtin .append,args:=args,argTypes:=ats }∧qal ts args.toList=some [x,y]∧ats[0]? =some t∧(ats[1]? ==some t)=true∧qbf P (bigM cmp) h t x y=some (v,f):=by
 obtain⟨dst,op,type,pos,after,guard⟩:=o
 cases op with
 |call r=>
  obtain⟨callee,args,ats⟩:=r
  cases callee with
  |builtin b=>
   cases b with
   |append=>
    simp only[opA]at e
    split at e
    ·rename_i x t hx ht
     simp at e
    ·rename_i x y t hx ht
     split at e
     ·rename_i h1
      split at e
      ·rename_i a g hg
       cases e
       exact⟨args,ats,x,y,t,rfl,hx,ht,h1,hg⟩
      ·cases e
     ·rename_i hne
      exfalso
      simp only[qcd]at ha
      rw[ht]at ha
      exact hne ha
    ·cases e
   |_=>simp[qcd]at ha
  |_=>simp[qcd]at ha
 |_=>simp[qcd]at ha
theorem qjx {o:Oper} {ts:List AVal} {h:qaa} {v:AVal} {f:Eff} {args:Array Operand} {ats:Array TypeId} {x y:AVal} {t:TypeId} (ho:o.op= .call { callee:= .builtin .append,args:=args,argTypes:=ats }) (hx:qal ts args.toList=some [x,y]) (ht:ats[0]? =some t) (h1:(ats[1]? ==some t)=true) (hg:qbf P (bigM cmp) h t x y=some (v,f)):
 opA P cmp call o ts h=some (.val v f):=by
 obtain⟨dst,op,type,pos,after,guard⟩:=o
 simp only at ho
 subst ho
 simp only[opA,hx,ht,h1,if_true,hg]
inductive OkA:AVal→Prop where
 |undef:OkA .undef
 |bool (b:Bool):OkA (.bool b)
 |int (k:IntKind) (n:Int):OkA (.int k n)
 |str (s:List UInt8):OkA (.str s)
 |nilp:OkA .nilp
 |ptr (b o:Nat):OkA (.ptr b o)
 |eptr (cs:List AVal) (o:Nat):(∀a∈cs,qaq a=true)→(∀a∈cs,OkA a)→OkA (.eptr cs o)
 |slice (es:List (List AVal)) (tk:Tk):(∀c∈es,∀a∈c,qaq a=true)→(∀c∈es,∀a∈c,OkA a)→OkA (.slice es tk)
 |ms (es:List (List AVal)) (b n m:Nat):(∀c∈es,∀a∈c,qaq a=true)→(∀c∈es,∀a∈c,OkA a)→OkA (.ms es b n m)
 |mptr (b o n:Nat):OkA (.mptr b o n)
 |mref (b:Nat):OkA (.mref b)
 |nilm:OkA .nilm
 |func (f:FuncId) (a b:List AVal):(∀x∈a,OkA x)→(∀x∈b,OkA x)→OkA (.func f a b)
 |nilf:OkA .nilf
 |iface (t:TypeId) (v:AVal):OkA v→OkA (.iface t v)
 |nili:OkA .nili
 |agg (cs:List AVal):(∀a∈cs,OkA a)→OkA (.agg cs)
 |tuple (cs:List AVal):(∀a∈cs,OkA a)→OkA (.tuple cs)
theorem okA_of {S:Sh} {a:AVal} {v:Value} (k:VR S a v):OkA a:=by
 induction k with
 |undef=>exact .undef
 |bool b=>exact .bool b
 |int k n=>exact .int k n
 |str s l e=>exact .str l
 |nilp=>exact .nilp
 |ptr b o r e=>exact .ptr b o
 |eptr cs o r o0 vs h1 hp _ ih=>
  refine .eptr cs o hp (fun a ha=> ?_)
  obtain⟨j,hj,rfl⟩:=wi ha
  exact ih j _ (we hj)
 |slice es tk ad n cap esz vs hn hc hcm hsp hsz h1 hp _ ht ih=>
  refine .slice es tk hp (fun c hc a ha=> ?_)
  obtain⟨i,hi,rfl⟩:=wi hc
  obtain⟨j,hj,rfl⟩:=wi ha
  exact ih i _ j _ (we hi) (we hj)
 |snil tk e=>exact .slice [] tk (fun c hc=>by cases hc) (fun c hc=>by cases hc)
 |ms es b n m ad cap _ hn hm hc hcm ht hsp ih=>
  cases ih with
  |slice _ _ h1 h2=>exact .ms es b n m h1 h2
 |mptr b o n r o' e=>exact .mptr b o n
 |mref b r e=>exact .mref b
 |nilm=>exact .nilm
 |func f a b x y hx hy _ _ i1 i2=>
  refine .func f a b (fun u hu=> ?_) (fun u hu=> ?_)
  ·obtain⟨j,hj,rfl⟩:=wi hu
   exact i1 j _ x[j] (we hj) (wm (by omega))
  ·obtain⟨j,hj,rfl⟩:=wi hu
   exact i2 j _ y[j] (we hj) (wm (by omega))
 |nilf=>exact .nilf
 |iface t a v _ ih=>exact .iface t a ih
 |nili=>exact .nili
 |agg a x hx _ ih=>
  refine .agg a (fun u hu=> ?_)
  obtain⟨j,hj,rfl⟩:=wi hu
  exact ih j _ x[j] (we hj) (wm (by omega))
 |tuple a x hx _ ih=>
  refine .tuple a (fun u hu=> ?_)
  obtain⟨j,hj,rfl⟩:=wi hu
  exact ih j _ x[j] (we hj) (wm (by omega))
theorem qma {l:List AVal} {b:Nat} (h:b∈qaf l):∃v∈l,b∈refs v:=by
 induction l with
 |nil=>simp[qaf]at h
 |cons x r ih=>
  simp only[qaf,wz]at h
  rcases h with h|h
  ·exact⟨x,by simp,h⟩
  ·obtain⟨v,hv,hb⟩:=ih h
   exact⟨v,by simp[hv],hb⟩
theorem qd3 {l:List AVal} {n:Nat} (h:∀v∈l,∀b∈refs v,b<n):∀b∈qaf l,b<n:=fun b hb=>by
 obtain⟨v,hv,hb⟩:=qma hb
 exact h v hv b hb
theorem refs_lt [Tabs P] {S:Sh} {h:qaa} {w:World} (k:WR P S h w) {a:AVal} {v:Value} (r:VR S a v):∀b∈refs a,b<h.length:=by
 induction r with
 |ptr b o r e=>intro c hc;simp only[refs,wg,wh,or_false]at hc;subst hc;exact(k.lt e).1
 |slice es tk ad n cap esz vs hn hc hcm hsp hsz h1 hp _ ht ih=>
  cases tk with
  |free=>intro c hc;simp[refs]at hc
  |full=>intro c hc;simp[refs]at hc
  |zero=>intro c hc;simp[refs]at hc
  |own t=>
   intro c hc
   simp only[refs,wg,wh,or_false]at hc;subst hc
   obtain⟨r,c,l,t1,_⟩:=ht
   exact(k.ltτ t1).1
 |snil tk e=>intro c hc;rcases e with rfl|rfl<;>simp[refs]at hc
 |ms es b n m ad cap _ hn hm hc hcm ht hsp ih=>
  intro c hc'
  simp only[refs,wg,wh,or_false]at hc';subst hc'
  obtain⟨r,c,l,t1,_⟩:=ht
  exact(k.ltτ t1).1
 |mptr b o n r o' e=>
  intro c hc'
  simp only[refs,wg,wh,or_false]at hc';subst hc'
  obtain⟨r,c,l,t1,_⟩:=e
  exact(k.ltτ t1).1
 |mref b r e=>intro c hc;simp only[refs,wg,wh,or_false]at hc;subst hc;exact(k.lt e).1
 |func f a b x y hx hy _ _ i1 i2=>
  intro c hc
  simp only[refs,wz]at hc
  rcases hc with hc|hc
  ·refine qd3 (fun u hu=> ?_) c hc
   obtain⟨j,hj,rfl⟩:=wi hu
   exact i1 j _ x[j] (we hj) (wm (by omega))
  ·refine qd3 (fun u hu=> ?_) c hc
   obtain⟨j,hj,rfl⟩:=wi hu
   exact i2 j _ y[j] (we hj) (wm (by omega))
 |iface t a v _ ih=>intro c hc;exact ih c (by simpa[refs]using hc)
 |agg a x hx _ ih=>
  intro c hc
  simp only[refs]at hc
  refine qd3 (fun u hu=> ?_) c hc
  obtain⟨j,hj,rfl⟩:=wi hu
  exact ih j _ x[j] (we hj) (wm (by omega))
 |tuple a x hx _ ih=>
  intro c hc
  simp only[refs]at hc
  refine qd3 (fun u hu=> ?_) c hc
  obtain⟨j,hj,rfl⟩:=wi hu
  exact ih j _ x[j] (we hj) (wm (by omega))
 |_=>intro c hc;simp[refs]at hc
def WfA (n:Nat) (v:AVal):Prop:=OkA v∧∀b∈refs v,b<n
def qdi:Blk→List AVal
 | .box cs=>cs
 | .tok .. =>[]
 | .arr _ cs _ _=>cs
 | .map ks vs=>ks++vs
structure Wf (s:St):Prop where
 t:∀v∈s.tmps,WfA s.heap.length v
 h:∀(b:Nat) (x:Blk),s.heap[b]? =some x→∀v∈qdi x,WfA s.heap.length v
theorem WfA.weak {n m:Nat} {v:AVal} (h:WfA n v) (k:n≤m):WfA m v:=⟨h.1,fun b hb=>Nat.lt_of_lt_of_le (h.2 b hb) k⟩
theorem WfA.pure {n:Nat} {v:AVal} (h:OkA v) (p:qaq v=true):WfA n v:=by
 refine⟨h,fun b hb=> ?_⟩
 unfold qaq at p
 simp only[w3]at p
 have:refs v=[]:=by simpa using p.2
 rw[this]at hb;cases hb
theorem wf_of [Tabs P] {S:Sh} {w:World} {s:St} {x:List Value} (k:WR P S s.heap w) (ht:VRl S s.tmps x):Wf s where
 t v hv:=by
  obtain⟨j,hj,rfl⟩:=wi hv
  obtain⟨u,_,hr⟩:=ht.get (we hj)
  exact⟨okA_of hr,refs_lt k hr⟩
 h b x hb v hv:=by
  have go:∀{l:List AVal} {X:List Value},VRl S l X→v∈l→WfA s.heap.length v:=by
   intro l X hl hv
   obtain⟨j,hj,rfl⟩:=wi hv
   obtain⟨u,_,hr⟩:=hl.get (we hj)
   exact⟨okA_of hr,refs_lt k hr⟩
  cases x with
  |box cs=>obtain⟨r,C,T,_,_,hl,_⟩:=k.box b cs hb;exact go hl hv
  |tok len e=>cases hv
  |arr p cs len e=>obtain⟨r,cap,C,i,_,_,_,_,_,_,_,_,hl,_⟩:=k.arr b p cs len e hb;exact go hl hv
  |map ks vs=>
   obtain⟨r,E,q,_,_,h1,h2,_⟩:=k.map b ks vs hb
   rcases wz.1 hv with hv|hv
   ·exact go h1 hv
   ·exact go h2 hv
theorem qnc {v:Value} {a:AVal} (h:ofV0 v=some a):OkA a:=by
 unfold ofV0 at h
 split at h<;>cases h
 ·exact .bool _
 ·exact .int _ _
 ·exact .str _
 ·exact .nilp
 ·exact .slice [] .full (fun c hc=>by cases hc) (fun c hc=>by cases hc)
 ·exact .nilf
 ·exact .nili
 ·exact .nilm
theorem qkd:∀{l:List Value} {as:List AVal},ofVs l=some as→∀a∈as,OkA a
 |[],as,h=>by cases h;intro a ha;cases ha
 |v::r,as,h=>by
  simp only[ofVs]at h
  split at h
  ·rename_i a l h1 h2
   cases h
   intro b hb
   rcases wg.1 hb with rfl|hb
   ·exact qnc h1
   ·exact qkd h2 b hb
  ·cases h
theorem okA_ofV {v:Value} {a:AVal} (h:ofV v=some a):OkA a:=by
 unfold ofV at h
 split at h
 ·cases hh:ofVs _ with
  |none=>rw[hh]at h;cases h
  |some l=>rw[hh]at h;cases h;exact .agg _ (qkd hh)
 ·cases hh:ofVs _ with
  |none=>rw[hh]at h;cases h
  |some l=>rw[hh]at h;cases h;exact .tuple _ (qkd hh)
 ·exact qnc h
theorem qgd {n:Nat} {v:Value} {a:AVal} (h:ofV v=some a):WfA n a:=⟨okA_ofV h,fun b hb=>by rw[qhb h]at hb;cases hb⟩
theorem qa6 {s:St} (w:Wf s) {x:Operand} {a:AVal} (h:qab x s.tmps=some a):WfA s.heap.length a:=by
 cases x with
 |tmp t=>exact w.t a (wj h)
 |const v=>exact qgd h
 |func f=>cases h;exact⟨.func f [] [] (fun x hx=>by cases hx) (fun x hx=>by cases hx),fun b hb=>by simp[refs,qaf]at hb⟩
 | «global» g=>cases h
theorem qew {n:Nat} {v:AVal} (h:WfA n v):∀u∈v.cells,WfA n u:=by
 intro u hu
 cases v with
 |agg cs=>
  obtain⟨h1,h2⟩:=h
  cases h1 with
  |agg _ h1=>exact⟨h1 u hu,fun b hb=>h2 b (by
   simp only[refs]
   have hu':u∈cs:=hu
   clear hu h2 h1
   induction cs with
   |nil=>cases hu'
   |cons x r ih=>
    simp only[qaf,wz]
    rcases wg.1 hu' with rfl|hu'
    ·exact .inl hb
    ·exact .inr (ih hu'))⟩
 |_=>simp only[AVal.cells,wg,wh,or_false]at hu;subst hu;exact h
theorem qje {n:Nat} {t:TypeId} {cs:List AVal} {off:Nat} {v:AVal} (h:∀u∈cs,WfA n u) (e:qbp P t cs off=some v):WfA n v:=by
 unfold qbp at e
 split at e
 ·simp only at e
  split at e
  ·cases e
   refine⟨.agg _ (fun a ha=>(h a (waa (wfa ha))).1),fun b hb=> ?_⟩
   simp only[refs]at hb
   exact qd3 (fun u hu=>(h u (waa (wfa hu))).2) b hb
  ·cases e
 ·exact h v (wj e)
 ·cases e
theorem qdx {n:Nat}:∀{cs:List AVal} {off:Nat} {vs cs':List AVal},(∀u∈cs,WfA n u)→(∀u∈vs,WfA n u)→qai cs off vs=some cs'→∀u∈cs',WfA n u
 |cs,0,vs,cs',h,k,e=>by
  have e1:qai cs 0 vs=if vs.length≤cs.length then some (vs++cs.drop vs.length)else none:=by cases cs<;>rfl
  rw[e1]at e
  split at e
  ·cases e
   intro u hu
   rcases wz.1 hu with hu|hu
   ·exact k u hu
   ·exact h u (waa hu)
  ·cases e
 |c::cs,off+1,vs,cs',h,k,e=>by
  simp only[qai]at e
  cases hs:qai cs off vs with
  |none=>rw[hs]at e;cases e
  |some l=>
   rw[hs]at e;cases e
   intro u hu
   rcases wg.1 hu with rfl|hu
   ·exact h _ (by simp)
   ·exact qdx (fun u hu=>h u (by simp[hu])) k hs u hu
 |[],off+1,vs,cs',_,_,e=>by cases e
theorem qdy {n:Nat} {ts:List AVal} {d:Option Tmp} {v:AVal} (h:∀u∈ts,WfA n u) (hv:WfA n v):∀u∈setT ts d v,WfA n u:=by
 intro u hu
 cases d with
 |none=>exact h u hu
 |some d=>
  rcases List.mem_or_eq_of_mem_set hu with hu|rfl
  ·exact h u hu
  ·exact hv
theorem qnd {s:St} (w:Wf s) {l:List Operand} {x y:AVal} (hx:qal s.tmps l=some [x,y]):∀fs tk,y= .slice fs tk→∀c∈fs,∀a∈c,qaq a=true:=by
 intro fs tk hy
 subst hy
 have hy1:WfA s.heap.length (.slice fs tk):=by
  cases hl:l with
  |nil=>rw[hl]at hx;cases hx
  |cons o1 r1=>
   rw[hl]at hx
   simp only[qal]at hx
   cases h2:qab o1 s.tmps with
   |none=>rw[h2]at hx;cases hx
   |some a1=>
    cases r1 with
    |nil=>rw[h2]at hx;simp[qal]at hx
    |cons o2 r2=>
     simp only[qal]at hx
     cases h3:qab o2 s.tmps with
     |none=>rw[h2,h3]at hx;cases hx
     |some a2=>
      cases h4:qal s.tmps r2 with
      |none=>rw[h2,h3,h4]at hx;cases hx
      |some l=>rw[h2,h3,h4]at hx;cases hx;exact qa6 w h3
 cases hy1.1 with
 |slice _ _ h1 _=>exact h1
mutual
theorem qke (σ:Nat→Nat):∀a:AVal,refs (ren σ a)=(refs a).map σ
 | .ptr b o=>rfl
 | .slice es .free=>rfl
 | .slice es .full=>rfl
 | .slice es .zero=>rfl
 | .slice es (.own t)=>rfl
 | .ms es b n m=>rfl
 | .mptr b o n=>rfl
 | .mref b=>rfl
 | .nilm=>rfl
 | .func f a b=>by simp only[ren,refs,w6,qfc σ a,qfc σ b]
 | .iface t v=>by simp only[ren,refs,qke σ v]
 | .agg cs=>by simp only[ren,refs,qfc σ cs]
 | .tuple cs=>by simp only[ren,refs,qfc σ cs]
 | .undef=>rfl
 | .bool _=>rfl
 | .int _ _=>rfl
 | .str _=>rfl
 | .nilp=>rfl
 | .eptr _ _=>rfl
 | .nilf=>rfl
 | .nili=>rfl
theorem qfc (σ:Nat→Nat):∀l:List AVal,qaf (renL σ l)=(qaf l).map σ
 |[]=>rfl
 |v::r=>by simp only[renL,qaf,w6,qke σ v,qfc σ r]
end
theorem okA_ren (σ:Nat→Nat) {a:AVal} (h:OkA a):OkA (ren σ a):=by
 have lst:∀(l:List AVal),(∀x∈l,OkA (ren σ x))→∀x∈renL σ l,OkA x:=by
  intro l hl x hx
  rw[qcq]at hx
  obtain⟨y,hy,rfl⟩:=w9.1 hx
  exact hl y hy
 induction h with
 |slice es tk h1 h2 _=>cases tk<;>exact .slice es _ h1 h2
 |ms es b n m h1 h2 _=>exact .ms es _ n m h1 h2
 |eptr cs o h1 h2 _=>exact .eptr cs o h1 h2
 |func f a b _ _ i1 i2=>exact .func f _ _ (lst a i1) (lst b i2)
 |iface t v _ ih=>exact .iface t _ ih
 |agg cs _ ih=>exact .agg _ (lst cs ih)
 |tuple cs _ ih=>exact .tuple _ (lst cs ih)
 |undef=>exact .undef
 |bool b=>exact .bool b
 |int k n=>exact .int k n
 |str x=>exact .str x
 |nilp=>exact .nilp
 |ptr b o=>exact .ptr _ o
 |mptr b o n=>exact .mptr _ o n
 |mref b=>exact .mref _
 |nilm=>exact .nilm
 |nilf=>exact .nilf
 |nili=>exact .nili
theorem wfA_ren {n m:Nat} {σ:Nat→Nat} (hσ:∀b,b<n→σ b<m) {v:AVal} (h:WfA n v):WfA m (ren σ v):=
 ⟨okA_ren σ h.1,fun b hb=>by
  rw[qke]at hb
  obtain⟨c,hc,rfl⟩:=w9.1 hb
  exact hσ c (h.2 c hc)⟩
theorem qol (σ:Nat→Nat) (x:Blk):qdi (renB σ x)=renL σ (qdi x):=by
 cases x with
 |map ks vs=>simp only[qdi,renB,qcq,w6]
 |_=>rfl
def LowE (call:Call):Prop:=∀f v e,call f [] []=some (.ret v e)→WfA (e.of []).length v∧∀x∈e.of [],∀u∈qdi x,WfA (e.of []).length u
structure Tpl (P:Program) (cmp:List TypeId) (call:Call) (o:Oper) (v0:AVal) (X0:qaa) (sm:Bool):Prop where
 wv:WfA X0.length v0
 wx:∀x∈X0,∀u∈qdi x,WfA X0.length u
 op:∀ts h,∃f,opA P cmp call o ts h=some (.val (ren (h.length+ ·) v0) f)∧f.of h=h++X0.map (renB (h.length+ ·))∧f.dirt=[]∧f.isSame=sm
theorem qfz (n:Nat) (h':qaa):∀(d:List Nat) (h:qaa),qch [] n h' d h=h
 |[],_=>rfl
 |i::r,h=>by simp only[qch];exact qfz n h' r h
theorem mk_tpl (hLE:LowE call) {o:Oper} (hm:isMk o=true) {ts:List AVal} {h:qaa} {v:AVal} {f:Eff} (e:opA P cmp call o ts h=some (.val v f)) (hd:f.dirt=[]):
 ∃v0 X0,Tpl P cmp call o v0 X0 f.isSame:=by
 unfold isMk at hm
 simp only[w4]at hm
 obtain⟨dst,op,type,pos,after,guard⟩:=o
 rcases hm with(hm|hm)|hm
 ·unfold isAl at hm
  split at hm
  ·rename_i t h1 h2
   simp only at h1 h2
   subst h1 h2
   simp only[opA]at e
   split at e
   ·rename_i z hz
    cases e
    have zr:qaf z.cells=[]:=by
     have:=qhc id hz
     cases z with
     |agg cs=>simpa[refs,AVal.cells]using this
     |_=>simp[AVal.cells,qaf,this]
    refine⟨.ptr 0 0,[.box z.cells],⟨⟨.ptr _ _,by simp[refs]⟩,?_,fun ts h=>⟨.heap (h++[.box z.cells]) [],?_,?_,rfl,rfl⟩⟩⟩
    ·intro x hx u hu
     simp only[w7]at hx
     subst hx
     have hz':=hz
     unfold qap at hz'
     split at hz'
     ·split at hz'
      ·exact(qew (n:=0) (qgd hz') u hu).weak (by omega)
      ·cases hz'
     ·cases hz'
    ·simp only[opA,hz,ren,Nat.add_zero]
    ·simp only[Eff.of,wga,wna,renB,qam z.cells (by rw[zr];simp)]
   ·cases e
  ·cases hm
 ·unfold isCt at hm
  split at hm
  ·rename_i g ats h1 h2
   simp only at h1 h2
   subst h1 h2
   have key:∀(ts:List AVal) (h:qaa),opA P cmp call ⟨dst,.call { callee:= .value (.func g),args:=⟨[]⟩,argTypes:=ats },type,pos,after,none⟩ ts h=(match call g [] []with
    |some (.ret v e)=>some (OR.val (ren (h.length+ ·) v) (match e with| .same=> .same| .heap h' d=> .heap (h++h'.map (renB (h.length+ ·))) (d.map (h.length+ ·))))
    |some (.pan v e)=>some (OR.pan (ren (h.length+ ·) v) (match e with| .same=> .same| .heap h' d=> .heap (h++h'.map (renB (h.length+ ·))) (d.map (h.length+ ·))))
    |none=>none):=by
    intro ts h
    have hb:qa3 h.length []=(h.length+ ·):=by funext i;simp[qa3]
    have hc:qba call h g []=match call g [] []with
     |some (.ret v e)=>some (.ret (ren (h.length+ ·) v) (qct h [] e))
     |some (.pan v e)=>some (.pan (ren (h.length+ ·) v) (qct h [] e))
     |none=>none:=by
     unfold qba
     have h1:qaw h 256 (qaf []) []=[]:=rfl
     have h2:qcs h [] []=true:=rfl
     have h3:renL (fun x=>([]:List Nat).idxOf x) []=[]:=rfl
     have h4:subH h []=[]:=rfl
     simp only[h1,h2,h3,h4,if_true,hb]
     rfl
    simp only[opA,qab,qal,wna,wia,hc]
    cases call g [] []with
    |none=>rfl
    |some r=>cases r with
     |ret v e=>
      cases e with
      |same=>rfl
      |heap h' d=>simp only[qg1,qct,qfz,wo,wka,hb]
     |pan v e=>
      cases e with
      |same=>rfl
      |heap h' d=>simp only[qg1,qct,qfz,wo,wka,hb]
   rw[key]at e
   cases hc:call g [] []with
   |none=>rw[hc]at e;cases e
   |some r=>
    cases r with
    |pan v e'=>rw[hc]at e;cases e
    |ret v0 e0=>
     obtain⟨w1,w2⟩:=hLE g v0 e0 hc
     rw[hc]at e
     cases e0 with
     |same=>
      cases e
      refine⟨v0,[],w1,w2,fun ts h=>⟨.same,?_,by simp[Eff.of],rfl,rfl⟩⟩
      rw[key,hc]
     |heap h' d=>
      cases e
      simp only[Eff.dirt,List.map_eq_nil_iff]at hd
      subst hd
      refine⟨v0,h',w1,w2,fun ts h=>⟨.heap (h++h'.map (renB (h.length+ ·))) [],?_,rfl,rfl,rfl⟩⟩
      rw[key,hc]
      rfl
  ·cases hm
 ·split at hm
  ·rename_i t h1 h2
   simp only at h1 h2
   subst h1 h2
   simp only[opA]at e
   cases e
   exact⟨.mref 0,[.map [] []],⟨⟨.mref _,by simp[refs]⟩,(fun x hx u hu=>by simp only[w7]at hx;subst hx;cases hu),fun ts h=>⟨.heap (h++[.map [] []]) [],rfl,rfl,rfl,rfl⟩⟩⟩
  ·cases hm
theorem qpq {o:Oper} (hm:isMk o=true):o.guard=none:=by
 unfold isMk at hm
 simp only[w4]at hm
 rcases hm with(hm|hm)|hm
 ·unfold isAl at hm;split at hm
  ·rename_i h;exact h
  ·cases hm
 ·unfold isCt at hm;split at hm
  ·rename_i h;exact h
  ·cases hm
 ·split at hm
  ·rename_i h;exact h
  ·cases hm
theorem qkf {o:Oper} (hm:isMk o=true):cls o=2∨(cls o=4∧isCt o=true):=by
 have hm0:=hm
 unfold isMk at hm
 simp only[w4]at hm
 rcases hm with(hm|hm)|hm
 ·unfold isAl at hm;split at hm
  ·rename_i h _;left;unfold cls;rw[h]
  ·cases hm
 ·right
  refine⟨?_,hm⟩
  unfold isCt at hm;split at hm
  ·rename_i h _;unfold cls;rw[h]
  ·cases hm
 ·split at hm
  ·rename_i h _;left;unfold cls;rw[h]
  ·cases hm
theorem tpl_wf {o:Oper} {v0:AVal} {X0:qaa} {sm:Bool} (t:Tpl P cmp call o v0 X0 sm) {s:St} (w:Wf s) {d:Option Tmp} {dd:List Nat}:
 Wf ⟨setT s.tmps d (ren (s.heap.length+ ·) v0),s.heap++X0.map (renB (s.heap.length+ ·)),dd⟩ where
 t:=by
  simp only[wc,ws]
  exact qdy (fun u hu=>(w.t u hu).weak (by omega)) (wfA_ren (fun b hb=>by omega) t.wv)
 h b x hb u hu:=by
  simp only[wc,ws]at hb ⊢
  by_cases hlt:b<s.heap.length
  ·rw[wa hlt]at hb
   exact(w.h b x hb u hu).weak (by omega)
  ·rw[wb (by omega)]at hb
   obtain⟨y,hy,rfl⟩:=w9.1 (wj hb)
   rw[qol,qcq]at hu
   obtain⟨z,hz,rfl⟩:=w9.1 hu
   exact wfA_ren (fun b hb=>by omega) (t.wx y hy z hz)
theorem qhe (hLE:LowE call) {ops:List Oper} {j:Nat} {o:Oper} {s t:St} (ho:ops[j]? =some o) (hp:qbn o=true) (w:Wf s) {f:Eff} (e:qd1 P cmp call ops j s t f) (hfd:isCt o=true→f.dirt=[]):Wf t:=by
 obtain⟨o',ho',hc⟩:=e
 rw[ho]at ho';cases ho'
 rcases hc with⟨wx,v,ov,rfl⟩|⟨wx,rfl,rfl⟩
 ·have same:∀u:AVal,WfA s.heap.length u→f= .same→v=u→Wf ⟨setT s.tmps o.dst v,f.of s.heap,f.dirt++s.dirty⟩:=by
   rintro u hu rfl rfl
   exact⟨qdy w.t hu,w.h⟩
  have app1:∀(x:Blk) (u:AVal),WfA (s.heap.length+1) u→(∀z∈qdi x,WfA s.heap.length z)→f= .heap (s.heap++[x]) []→v=u→Wf ⟨setT s.tmps o.dst v,f.of s.heap,f.dirt++s.dirty⟩:=by
   rintro x u hu hx rfl rfl
   refine⟨?_,?_⟩
   ·simp only[Eff.of,wc,wt,wo]
    exact qdy (fun u hu=>(w.t u hu).weak (by omega)) hu
   ·intro b cs hb
    simp only[Eff.of,wc,wt,wo]at hb ⊢
    by_cases hlt:b<s.heap.length
    ·rw[wa hlt]at hb
     exact fun u hu=>(w.h b cs hb u hu).weak (by omega)
    ·rw[wb (by omega)]at hb
     have:=wj hb
     simp only[wg,wh,or_false]at this
     subst this
     exact fun u hu=>(hx u hu).weak (by omega)
  by_cases hct:isCt o=true
  ·obtain⟨v0,X0,tp⟩:=mk_tpl hLE (show isMk o=true by unfold isMk;rw[hct];simp) ov (hfd hct)
   obtain⟨f',g1,g2,g3,_⟩:=tp.op s.tmps s.heap
   rw[ov]at g1
   cases g1
   have:=tpl_wf tp w (d:=o.dst) (dd:=f.dirt++s.dirty)
   rw[g2];exact this
  have hct:isCt o=false:=by simpa using hct
  obtain⟨dst,op,type,pos,after,guard⟩:=o
  cases op with
  |alloc ty=>
   simp only[opA]at ov
   split at ov
   ·rename_i z hz
    cases ov
    have hz':∀u∈z.cells,WfA (s.heap.length+1) u:=by
     unfold qap at hz
     split at hz
     ·split at hz
      ·exact qew (qgd hz)
      ·cases hz
     ·cases hz
    refine⟨?_,?_⟩
    ·simp only[Eff.of,wc,wt,wo]
     refine qdy (fun u hu=>(w.t u hu).weak (by omega)) ⟨.ptr _ _,fun b hb=> ?_⟩
     simp only[refs,wg,wh,or_false]at hb;omega
    ·intro b cs hb
     simp only[Eff.of,wc,wt,wo]at hb ⊢
     by_cases hlt:b<s.heap.length
     ·rw[wa hlt]at hb
      exact fun u hu=>(w.h b cs hb u hu).weak (by omega)
     ·rw[wb (by omega)]at hb
      have:=wj hb
      simp only[wg,wh,or_false]at this
      subst this
      exact hz'
   ·cases ov
  |move x=>
   simp only[opA]at ov
   cases hc:qab x s.tmps with
   |none=>rw[hc]at ov;cases ov
   |some a=>rw[hc]at ov;cases ov;exact same _ (qa6 w hc) rfl rfl
  |assign x=>
   simp only[opA]at ov
   cases hc:qab x s.tmps with
   |none=>rw[hc]at ov;cases ov
   |some a=>rw[hc]at ov;cases ov;exact same _ (qa6 w hc) rfl rfl
  |box ty x=>
   simp only[opA]at ov
   cases hc:qab x s.tmps with
   |none=>rw[hc]at ov;cases ov
   |some a=>
    rw[hc]at ov
    cases ov
    exact app1 (.box a.cells) _ ⟨.ptr _ _,fun b hb=>by simp only[refs,wg,wh,or_false]at hb;omega⟩ (qew (qa6 w hc)) rfl rfl
  |makeMap ty r=>
   cases r with
   |some _=>simp[qbn,qa7,isCt]at hp
   |none=>
    simp only[opA]at ov
    cases ov
    exact app1 (.map [] []) _ ⟨.mref _,fun b hb=>by simp only[refs,wg,wh,or_false]at hb;omega⟩ (fun u hu=>by cases hu) rfl rfl
  |fieldAddr ty x k=>
   simp only[opA]at ov
   split at ov
   ·rename_i off ft b o hfp hcx
    cases ov
    have:=qa6 w hcx
    exact same _ ⟨.ptr _ _,fun c hc=>this.2 c (by simpa[refs]using hc)⟩ rfl rfl
   ·rename_i off ft cs o hfp hcx
    cases ov
    have:=qa6 w hcx
    refine same _ ⟨?_,fun c hc=>by simp[refs]at hc⟩ rfl rfl
    cases this.1 with
    |eptr _ _ h1 h2=>exact .eptr cs _ h1 h2
   ·rename_i off ft b o n hfp hcx
    cases ov
    have:=qa6 w hcx
    exact same _ ⟨.mptr _ _ _,fun c hc=>this.2 c (by simpa[refs]using hc)⟩ rfl rfl
   ·cases ov
  |load ty x=>
   simp only[opA]at ov
   split at ov
   ·rename_i p hcx
    split at ov
    ·rename_i u hu
     cases ov
     have hpw:=qa6 w hcx
     unfold qb9 at hu
     split at hu
     ·split at hu
      ·rename_i hb
       exact same _ (qje (w.h _ _ hb) hu) rfl rfl
      ·cases hu
     ·rename_i cs off
      cases hpw.1 with
      |eptr _ _ h1 h2=>exact same _ (qje (fun a ha=>WfA.pure (h2 a ha) (h1 a ha)) hu) rfl rfl
     ·split at hu
      ·rename_i hb
       split at hu
       ·exact same _ (qje (w.h _ _ hb) hu) rfl rfl
       ·cases hu
      ·cases hu
     ·cases hu
    ·cases ov
   ·cases ov
  |indexAddr ty x y=>
   simp only[opA]at ov
   split at ov
   ·rename_i el es tk k n hu hcx hcy
    split at ov
    ·rename_i cs sz hes hsz
     split at ov
     ·cases ov
      have:=qa6 w hcx
      cases this.1 with
      |slice _ _ h1 h2=>
       have hm:=wj hes
       exact same _ ⟨.eptr cs 0 (h1 cs hm) (h2 cs hm),fun c hc=>by simp[refs]at hc⟩ rfl rfl
     ·cases ov
    ·cases ov
   ·rename_i el es b q m k n hu hcx hcy
    have:=qa6 w hcx
    split at ov
    ·split at ov
     ·split at ov
      ·rename_i cs hes
       split at ov
       ·cases ov
        cases this.1 with
        |ms _ _ _ _ h1 h2=>
         have hm:=wj hes
         exact same _ ⟨.eptr cs 0 (h1 cs hm) (h2 cs hm),fun c hc=>by simp[refs]at hc⟩ rfl rfl
       ·cases ov
      ·cases ov
       exact same _ ⟨.mptr _ _ _,fun c hc=>this.2 c (by simpa[refs]using hc)⟩ rfl rfl
     ·cases ov
    ·cases ov
   ·rename_i len el b o k n hu hcx hcy
    split at ov
    ·split at ov
     ·cases ov
      have:=qa6 w hcx
      exact same _ ⟨.ptr _ _,fun c hc=>this.2 c (by simpa[refs]using hc)⟩ rfl rfl
     ·cases ov
    ·cases ov
   ·cases ov
  |store ty a x=>
   simp only[opA]at ov
   split at ov
   ·rename_i p u hp hu
    split at ov
    ·rename_i h1 b1 hst
     cases ov
     have huw:=qew (qa6 w hu)
     have put:∀(b:Nat) (x0 y:Blk),s.heap[b]? =some x0→(∀v∈qdi y,WfA s.heap.length v)→Wf ⟨setT s.tmps dst .undef,Eff.of s.heap (.heap (s.heap.set b y) [b]),Eff.dirt (.heap (s.heap.set b y) [b])++s.dirty⟩:=by
      intro b x0 y hb hcs
      refine⟨?_,?_⟩
      ·simp only[Eff.of,wq]
       exact qdy w.t ⟨.undef,fun c hc=>by simp[refs]at hc⟩
      ·intro c y2 hc
       simp only[Eff.of,wq]at hc ⊢
       by_cases hbc:b=c
       ·subst hbc
        have hlt:=(wk.1 hb).1
        rw[wl hlt]at hc
        cases hc;exact hcs
       ·rw[ww hbc]at hc
        exact w.h c y2 hc
     unfold qbk at hst
     split at hst
     ·rename_i b off
      split at hst
      ·rename_i cs n hb hn
       split at hst
       ·cases hset:qai cs off u.cells with
        |none=>rw[hset]at hst;cases hst
        |some cs'=>
         rw[hset]at hst
         simp only[wd,Option.some.injEq,wla.injEq]at hst
         obtain⟨rfl,rfl⟩:=hst
         exact put _ _ _ hb (qdx (w.h b _ hb) huw hset)
       ·cases hst
      ·cases hst
     ·rename_i b off k
      split at hst
      ·rename_i p cs l e0 n hb hn
       split at hst
       ·split at hst
        ·cases hset:qai cs (off-p) u.cells with
         |none=>rw[hset]at hst;cases hst
         |some cs'=>
          rw[hset]at hst
          simp only[wd,Option.some.injEq,wla.injEq]at hst
          obtain⟨rfl,rfl⟩:=hst
          exact put _ _ _ hb (qdx (w.h b _ hb) huw hset)
        ·cases hst
       ·cases hst
      ·cases hst
     ·cases hst
    ·cases ov
   ·cases ov
  |build ty ps=>
   have key:∀(pl:Nat→Option (Nat×Nat)) (l:List (Nat×AVal)) (z c:List AVal),(∀u∈z,WfA s.heap.length u)→(∀p∈l,WfA s.heap.length p.2)→qa2 pl z l=some c→∀u∈c,WfA s.heap.length u:=by
    intro pl l
    induction l with
    |nil=>intro z c hz _ e;cases e;exact hz
    |cons p l ih=>
     obtain⟨i,v⟩:=p
     intro z c hz hl e
     simp only[qa2]at e
     split at e
     ·cases e
     ·split at e
      ·split at e
       ·rename_i cs hset
        exact ih cs c (qdx hz (qew (hl (i,v) (by simp))) hset) (fun p hp=>hl p (by simp[hp])) e
       ·cases e
      ·cases e
   have hparts:∀(l:List (Nat×Operand)) (r:List (Nat×AVal)),qar s.tmps l=some r→∀p∈r,WfA s.heap.length p.2:=by
    intro l
    induction l with
    |nil=>intro r e;cases e;intro p hp;cases hp
    |cons q l ih=>
     obtain⟨i,o⟩:=q
     intro r e
     simp only[qar]at e
     cases hc:qab o s.tmps with
     |none=>rw[hc]at e;cases e
     |some a=>
      cases hr:qar s.tmps l with
      |none=>rw[hc,hr]at e;cases e
      |some r'=>
       rw[hc,hr]at e
       cases e
       intro p hp
       rcases wg.1 hp with rfl|hp
       ·exact qa6 w hc
       ·exact ih r' hr p hp
   have agg:∀c:List AVal,(∀u∈c,WfA s.heap.length u)→WfA s.heap.length (.agg c):=fun c hc=>⟨.agg c (fun a ha=>(hc a ha).1),fun b hb=>by simp only[refs]at hb;exact qd3 (fun v hv=>(hc v hv).2) b hb⟩
   have zw:∀{z:List AVal},qap P ty=some (.agg z)→∀u∈z,WfA s.heap.length u:=fun hz=>by
    unfold qap at hz
    split at hz
    ·split at hz
     ·exact qew (qgd hz)
     ·cases hz
    ·cases hz
   simp only[opA]at ov
   split at ov
   ·rename_i z fs pl hz hu hpl
    split at ov
    ·split at ov
     ·rename_i u hu2
      rw[wea]at hu2
      obtain⟨c,hf,rfl⟩:=hu2
      cases ov
      exact same _ (agg c (key _ _ _ _ (zw hz) (hparts _ _ hpl) hf)) rfl rfl
     ·cases ov
    ·cases ov
   ·rename_i z len el pl hz hu hpl
    cases hs:qah P el with
    |none=>rw[hs]at ov;cases ov
    |some sz=>
     rw[hs]at ov
     simp only at ov
     cases hf:qa2 (fun i=>some (i*sz,sz)) z pl with
     |none=>rw[hf]at ov;cases ov
     |some c=>
      rw[hf]at ov
      cases ov
      exact same _ (agg c (key _ _ _ _ (zw hz) (hparts _ _ hpl) hf)) rfl rfl
   ·cases ov
  |call r=>
   have hia:qcd ⟨dst,.call r,type,pos,after,guard⟩=true:=by
    obtain⟨callee,args,ats⟩:=r
    cases callee with
    |builtin b=>cases b<;>first|rfl|exact hp|(simp[qbn,qa7,hct]at hp;first|exact(by simpa[qcd]using hp)|skip)
    |_=>simp[qbn,qa7,hct]at hp
   obtain⟨args,ats,x,y,t0,hop,hx,ht,h1,hg⟩:=qhd hia ov
   have hxy:WfA s.heap.length x∧WfA s.heap.length y:=by
    cases hl:args.toList with
    |nil=>rw[hl]at hx;cases hx
    |cons o1 r1=>
     rw[hl]at hx
     simp only[qal]at hx
     cases h2:qab o1 s.tmps with
     |none=>rw[h2]at hx;cases hx
     |some a1=>
      cases r1 with
      |nil=>rw[h2]at hx;simp[qal]at hx
      |cons o2 r2=>
       simp only[qal]at hx
       cases h3:qab o2 s.tmps with
       |none=>rw[h2,h3]at hx;cases hx
       |some a2=>
        cases h4:qal s.tmps r2 with
        |none=>rw[h2,h3,h4]at hx;cases hx
        |some l=>rw[h2,h3,h4]at hx;cases hx;exact⟨qa6 w h2,qa6 w h3⟩
   obtain⟨hx1,hy1⟩:=hxy
   unfold qbf at hg
   split at hg
   ·rename_i hto
    clear hto
    unfold qcg at hg
    split at hg
    ·rename_i el fs tk' hel
     have hfl:∀n,∀v∈fs.flatten,WfA n v:=fun n v hv=>by
      obtain⟨c,hc,hac⟩:=wda.1 hv
      cases hy1.1 with
      |slice _ _ q1 q2=>exact WfA.pure (q2 c hc v hac) (q1 c hc v hac)
     have add:∀(es:List (List AVal)) (b n p:Nat) (e:TypeId),(OkA (.ms es b n n))→b=s.heap.length→Wf ⟨setT s.tmps dst (.ms es b n n),Eff.of s.heap (.heap (s.heap++[.arr p fs.flatten n e]) []),Eff.dirt (.heap (s.heap++[.arr p fs.flatten n e]) [])++s.dirty⟩:=by
      intro es b n p e ho hb0
      subst hb0
      refine⟨?_,?_⟩
      ·simp only[Eff.of,wc,wt,wo]
       exact qdy (fun u hu=>(w.t u hu).weak (by omega)) ⟨ho,fun b hb=>by simp only[refs,wg,wh,or_false]at hb;omega⟩
      ·intro b x hb
       simp only[Eff.of,wc,wt,wo]at hb ⊢
       by_cases hlt:b<s.heap.length
       ·rw[wa hlt]at hb
        exact fun u hu=>(w.h b x hb u hu).weak (by omega)
       ·rw[wb (by omega)]at hb
        have:=wj hb
        simp only[wg,wh,or_false]at this
        subst this
        exact fun u hu=>hfl _ u hu
     have put:∀(es:List (List AVal)) (b n m p q:Nat) (cs:List AVal) (e:TypeId) (x0:Blk),OkA (.ms es b n m)→s.heap[b]? =some x0→(∀v∈cs,WfA s.heap.length v)→Wf ⟨setT s.tmps dst (.ms es b n m),Eff.of s.heap (.heap (s.heap.set b (.arr p cs q e)) [b]),Eff.dirt (.heap (s.heap.set b (.arr p cs q e)) [b])++s.dirty⟩:=by
      intro es b n m p q cs e x0 ho hb hcs
      have hlt:=(wk.1 hb).1
      refine⟨?_,?_⟩
      ·simp only[Eff.of,wq]
       exact qdy w.t ⟨ho,fun c hc=>by simp only[refs,wg,wh,or_false]at hc;omega⟩
      ·intro c y2 hc
       simp only[Eff.of,wq]at hc ⊢
       by_cases hbc:b=c
       ·subst hbc
        rw[wl hlt]at hc
        cases hc;exact hcs
       ·rw[ww hbc]at hc
        exact w.h c y2 hc
     split at hg
     ·split at hg
      ·split at hg
       ·split at hg
        ·cases hg
         refine add _ _ _ _ _ ?_ rfl
         cases hx1.1 with
         |slice _ _ p1 p2=>exact .ms _ _ _ _ p1 p2
        ·cases hg
       ·split at hg
        ·rename_i hb
         split at hg
         ·cases hg
          refine put _ _ _ _ _ _ _ _ _ ?_ hb (hfl _)
          cases hx1.1 with
          |slice _ _ p1 p2=>exact .ms _ _ _ _ p1 p2
         ·cases hg
        ·cases hg
       ·split at hg
        ·rename_i hb
         split at hg
         ·split at hg
          ·cases hg
           refine put _ _ _ _ _ _ _ _ _ ?_ hb (fun v hv=> ?_)
           ·cases hx1.1 with
            |ms _ _ _ _ p1 p2=>exact .ms _ _ _ _ p1 p2
           ·rcases wz.1 hv with hv|hv
            ·exact w.h _ _ hb v hv
            ·exact hfl _ v hv
          ·split at hg
           ·split at hg
            ·rename_i cs' hset
             cases hg
             refine put _ _ _ _ _ _ _ _ _ ?_ hb (qdx (w.h _ _ hb) (hfl _) hset)
             cases hx1.1 with
             |ms _ _ _ _ p1 p2=>exact .ms _ _ _ _ p1 p2
            ·cases hg
           ·cases hg
         ·cases hg
        ·cases hg
       ·cases hg
      ·unfold qgn at hg
       split at hg
       ·cases hg;exact same _ hx1 rfl rfl
       ·cases hg
     ·cases hg
    ·cases hg
   ·rename_i hto
    clear hto
    unfold qbu at hg
    split at hg
    ·rename_i el es tk fs tk' hel
     split at hg
     ·split at hg
      ·have hes:OkA (.slice es tk):=hx1.1
       have hfs:OkA (.slice fs tk'):=hy1.1
       have all:∀tk2,OkA (.slice (es++fs) tk2):=fun tk2=>by
        cases hes with
        |slice _ _ p1 p2=>
         cases hfs with
         |slice _ _ q1 q2=>
          exact .slice _ _ (fun c hc=>by rcases wz.1 hc with h|h;exact p1 c h;exact q1 c h) (fun c hc=>by rcases wz.1 hc with h|h;exact p2 c h;exact q2 c h)
       split at hg
       ·cases hg;exact same _ hx1 rfl rfl
       ·split at hg
        ·cases hg
         refine⟨?_,?_⟩
         ·simp only[Eff.of,wc,wt,wo]
          exact qdy (fun u hu=>(w.t u hu).weak (by omega)) ⟨all _,fun b hb=>by simp only[refs,wg,wh,or_false]at hb;omega⟩
         ·intro b cs hb
          simp only[Eff.of,wc,wt,wo]at hb ⊢
          by_cases hlt:b<s.heap.length
          ·rw[wa hlt]at hb
           exact fun u hu=>(w.h b cs hb u hu).weak (by omega)
          ·rw[wb (by omega)]at hb
           have:=wj hb
           simp only[wg,wh,or_false]at this
           subst this;intro u hu;cases hu
        ·rename_i b
         split at hg
         ·rename_i n e' hb
          split at hg
          ·cases hg
           have hlt:=(wk.1 hb).1
           refine⟨?_,?_⟩
           ·simp only[Eff.of,wq]
            exact qdy w.t ⟨all _,fun c hc=>by simp only[refs,wg,wh,or_false]at hc;omega⟩
           ·intro c cs hc
            simp only[Eff.of,wq]at hc ⊢
            by_cases hbc:b=c
            ·subst hbc
             rw[wl hlt]at hc;cases hc;intro u hu;cases hu
            ·rw[ww hbc]at hc
             exact w.h c cs hc
          ·cases hg
         ·cases hg
        ·cases hg
        ·cases hg
      ·cases hg
     ·cases hg
    ·cases hg
  |_=>simp[qbn,qa7,hct]at hp
 ·exact⟨qdy w.t ⟨.undef,fun b hb=>by simp[refs]at hb⟩,w.h⟩
theorem step_len (hkeep:qaj call) {lim:Nat} {ops:List Oper} {j:Nat} {s t:St} (e:qat P cmp call lim ops j s=some t):s.heap.length≤t.heap.length:=by
 obtain⟨o',ho',hc⟩:=qbe e
 rcases hc with⟨wx,v,f,ov,av,rfl⟩|⟨wx,rfl⟩
 ·exact(qcp hkeep ov).1
 ·exact wu _
theorem qpr {o:Oper} (h:qa7 o=true):qbn o=true:=by
 unfold qbn
 split
 ·rfl
 ·rw[h];rfl
theorem plain_ct {o:Oper} (h:qa7 o=true):isCt o=false:=by
 cases hc:isCt o with
 |false=>rfl
 |true=>
  exfalso
  unfold isCt at hc
  split at hc
  ·rename_i h1 _;unfold qa7 at h;rw[h1]at h;cases h
  ·cases hc
theorem qne {s s':St} {σ τ:Nat→Nat} {n N:Nat} (hw:Sw n N σ τ) (hr:RenS σ s s') (hN:N≤s.heap.length) (x:Blk):
 (s'.heap++[renB σ x]).length=(s.heap++[x]).length∧(∀b,(s'.heap++[renB σ x])[σ b]? =((s.heap++[x])[b]?).map (renB σ))∧s.heap.length≤(s.heap++[x]).length:=by
 refine⟨by simp[hr.l],fun b=> ?_,by simp⟩
 by_cases hb:b<s.heap.length
 ·have hb':σ b<s'.heap.length:=by
   rw[hr.l]
   by_cases hc:σ b<s.heap.length
   ·exact hc
   ·have h1:=hw.hi (σ b) (by omega)
    have h2:=hw.ts (σ b)
    rw[h1,hw.ts]at h2;omega
  rw[wa hb,wa hb',hr.h b]
 ·have hb':σ b=b:=hw.hi b (by omega)
  rw[hb',wb (by rw[hr.l];omega),wb (by omega),hr.l]
  cases h:b-s.heap.length with
  |zero=>rfl
  |succ k=>rfl
theorem plain_ren {lim n N:Nat} {ops:List Oper} {j:Nat} {o:Oper} {s s' t:St} {σ τ:Nat→Nat} (hw:Sw n N σ τ) (hr:RenS σ s s') (hln:lim≤n) (hN:N≤s.heap.length) (w:Wf s) (ho:ops[j]? =some o) (hp:qa7 o=true) (hdd:∀b,b<lim→b∈s'.dirty→b∈s.dirty)
 (e:qat P cmp call lim ops j s=some t):∃t',qat P cmp call lim ops j s'=some t'∧RenS σ t t'∧s.heap.length≤t.heap.length∧∀b,b<lim→b∈t'.dirty→b∈t.dirty:=by
 obtain⟨o',ho',hc⟩:=qbe e
 rw[ho]at ho';cases ho'
 rcases hc with⟨wx,v,f,ov,av,rfl⟩|⟨wx,rfl⟩
 ·have wx':qak ops o s'.tmps=some true:=by rw[hr.t,qjw];exact wx
  have key:∃f',opA P cmp call o s'.tmps s'.heap=some (.val (ren σ v) f')∧askD lim ops j o s' f'=true∧(f'.of s'.heap).length=(f.of s.heap).length∧(∀b,(f'.of s'.heap)[σ b]? =((f.of s.heap)[b]?).map (renB σ))∧s.heap.length≤(f.of s.heap).length∧∀b,b<lim→b∈f'.dirt→b∈f.dirt:=by
   obtain⟨dst,op,type,pos,after,guard⟩:=o
   cases op with
   |alloc ty=>
    simp only[opA]at ov ⊢
    split at ov
    ·rename_i z hz
     cases ov
     have hzr:qaf z.cells=[]:=by
      unfold qap at hz
      split at hz
      ·split at hz
       ·have:=qhb hz
        cases z with
        |agg cs=>simpa[refs,AVal.cells]using this
        |_=>simp[AVal.cells,qaf,this]
       ·cases hz
      ·cases hz
     have hσ:σ s.heap.length=s.heap.length:=hw.hi _ hN
     refine⟨.heap (s'.heap++[.box z.cells]) [],?_,?_,?_,?_,?_,fun _ _ h=>h⟩
     ·simp only[ren,hσ,hr.l]
     ·unfold askD at av ⊢
      simp only[cls,decide_eq_true_eq]at av ⊢
      rw[hr.l];exact av
     ·simp only[Eff.of,wc,hr.l]
     ·intro b
      simp only[Eff.of]
      by_cases hb:b<s.heap.length
      ·have hb':σ b<s'.heap.length:=by
        rw[hr.l]
        by_cases hc:σ b<s.heap.length
        ·exact hc
        ·have h1:=hw.hi (σ b) (by omega)
         have h2:=hw.ts (σ b)
         rw[h1,hw.ts]at h2;omega
       rw[wa hb,wa hb',hr.h b]
      ·have hb':σ b=b:=hw.hi b (by omega)
       rw[hb',wb (by rw[hr.l];omega),wb (by omega),hr.l]
       cases h:([Blk.box z.cells]:List Blk)[b-s.heap.length]? with
       |none=>rfl
       |some x=>
        have:x= .box z.cells:=by
         have:=wj h
         simpa using this
        subst this
        simp only[wd,renB,qam z.cells (by rw[hzr];simp)]
     ·simp only[Eff.of,wc];omega
    ·cases ov
   |assign x=>
    simp only[opA]at ov ⊢
    have hx:=qbi σ x s.tmps
    cases hc:qab x s.tmps with
    |none=>rw[hc]at ov;cases ov
    |some a=>
     rw[hc]at ov hx
     cases ov
     refine⟨.same,?_,qcc rfl,hr.l,hr.h,wu _,fun _ _ h=>h⟩
     rw[hr.t,hx];rfl
   |box ty x=>
    simp only[opA]at ov ⊢
    have hx:=qbi σ x s.tmps
    cases hc:qab x s.tmps with
    |none=>rw[hc]at ov;cases ov
    |some a=>
     rw[hc]at ov hx
     cases ov
     obtain⟨q1,q2,q3⟩:=qne hw hr hN (.box a.cells)
     refine⟨.heap (s'.heap++[renB σ (.box a.cells)]) [],?_,?_,q1,q2,q3,fun _ _ h=>h⟩
     ·rw[hr.t,hx]
      simp only[wd,ren,hw.hi _ hN,hr.l,renB,qgc]
     ·unfold askD at av ⊢
      simp only[cls,decide_eq_true_eq]at av ⊢
      rw[hr.l];exact av
   |makeMap ty r=>
    cases r with
    |some _=>simp[qa7]at hp
    |none=>
     simp only[opA]at ov ⊢
     cases ov
     obtain⟨q1,q2,q3⟩:=qne hw hr hN (.map [] [])
     refine⟨.heap (s'.heap++[renB σ (.map [] [])]) [],?_,?_,q1,q2,q3,fun _ _ h=>h⟩
     ·simp only[ren,hw.hi _ hN,hr.l,renB,renL]
     ·unfold askD at av ⊢
      simp only[cls,decide_eq_true_eq]at av ⊢
      rw[hr.l];exact av
   |move x=>
    simp only[opA]at ov ⊢
    have hx:=qbi σ x s.tmps
    cases hc:qab x s.tmps with
    |none=>rw[hc]at ov;cases ov
    |some a=>
     rw[hc]at ov hx
     cases ov
     refine⟨.same,?_,qcc rfl,hr.l,hr.h,wu _,fun _ _ h=>h⟩
     rw[hr.t,hx];rfl
   |fieldAddr ty x k=>
    simp only[opA]at ov ⊢
    have hx:=qbi σ x s.tmps
    split at ov
    ·rename_i off ft b o hfp hcx
     cases ov
     refine⟨.same,?_,qcc rfl,hr.l,hr.h,wu _,fun _ _ h=>h⟩
     rw[hr.t,hx,hcx,hfp];rfl
    ·rename_i off ft cs o hfp hcx
     cases ov
     refine⟨.same,?_,qcc rfl,hr.l,hr.h,wu _,fun _ _ h=>h⟩
     rw[hr.t,hx,hcx,hfp];rfl
    ·rename_i off ft b o n hfp hcx
     cases ov
     refine⟨.same,?_,qcc rfl,hr.l,hr.h,wu _,fun _ _ h=>h⟩
     rw[hr.t,hx,hcx,hfp];rfl
    ·cases ov
   |store ty a x=>
    obtain⟨t2,a2,x2,b2,X2,hop2,hp2,rfl,rfl,⟨x0,hx0,_,_⟩,_⟩:=qfk (o:=⟨dst,.store ty a x,type,pos,after,guard⟩) rfl ov
    cases hop2
    have ha:=qbi σ a s.tmps
    have hx:=qbi σ x s.tmps
    simp only[opA]at ov ⊢
    have hlb:b2<s.heap.length:=(wk.1 hx0).1
    cases hca:qab a s.tmps with
    |none=>rw[hca]at ov;cases ov
    |some pa=>
    rw[hca]at ov ha
    cases hcx:qab x s.tmps with
    |none=>rw[hcx]at ov;cases ov
    |some u=>
     rw[hcx]at ov hx
     simp only at ov
     cases hst:qbk P s.heap ty pa u with
     |none=>rw[hst]at ov;cases ov
     |some y=>
      rw[hst]at ov
      obtain⟨h1,b1⟩:=y
      simp only[Option.some.injEq,OR.val.injEq,Eff.heap.injEq,List.cons.injEq,and_true,true_and]at ov
      obtain⟨hh1,hb1⟩:=ov
      subst hb1
      have hX:h1[b1]? =some X2:=by rw[hh1,wl hlb]
      have hst':qbk P s'.heap ty (ren σ pa) (ren σ u)=some (s'.heap.set (σ b1) (renB σ X2),σ b1):=by
       unfold qbk at hst
       split at hst
       ·rename_i b off
        split at hst
        ·rename_i cs m hb hsz
         split at hst
         ·rename_i hcnd
          cases hset:qai cs off u.cells with
          |none=>rw[hset]at hst;cases hst
          |some cs'=>
           rw[hset]at hst
           simp only[wd,Option.some.injEq,wla.injEq]at hst
           obtain⟨rfl,rfl⟩:=hst
           rw[wl hlb]at hX
           cases hX
           unfold qbk
           simp only[ren,hr.h b,hb,wd,renB,hsz]
           rw[qgc,qax,qnb,if_pos hcnd,qdo,hset]
           rfl
         ·cases hst
        ·cases hst
       ·rename_i b off k
        split at hst
        ·rename_i p cs l e0 m hb hsz
         split at hst
         ·rename_i hkl
          split at hst
          ·rename_i hcnd
           cases hset:qai cs (off-p) u.cells with
           |none=>rw[hset]at hst;cases hst
           |some cs'=>
            rw[hset]at hst
            simp only[wd,Option.some.injEq,wla.injEq]at hst
            obtain⟨rfl,rfl⟩:=hst
            rw[wl hlb]at hX
            cases hX
            unfold qbk
            simp only[ren,hr.h b,hb,wd,renB,hsz]
            rw[if_pos hkl,qgc,qax,qnb,if_pos hcnd,qdo,hset]
            rfl
          ·cases hst
         ·cases hst
        ·cases hst
       ·cases hst
      refine⟨.heap (s'.heap.set (σ b1) (renB σ X2)) [σ b1],?_,?_,?_,?_,?_,fun b hb hm=>by
       simp only[Eff.dirt,w7]at hm ⊢
       have h1:=hw.lo b (by omega)
       rw[hm]at h1
       have:=congrArg τ h1
       rw[hw.ts,hw.ts]at this
       rw[hm];exact this⟩
      ·rw[hr.t,ha,hx]
       simp only[wd,ren,hst']
      ·unfold askD at av ⊢
       simp only[cls,w4,w3]at av ⊢
       refine⟨av.1.imp id fun av=> ?_,av.2.imp id fun av=> ?_⟩
       ·have:=qk3 (σ:=σ) (fun a b e=>by have:=congrArg τ e;rwa [hw.ts,hw.ts]at this) 0 j ops av
        rw[hr.t]
        exact this
       ·rw[hr.t,stOk_ren];exact av
      ·simp only[Eff.of,wq,hr.l]
      ·intro b
       simp only[Eff.of]
       by_cases hb:b1=b
       ·subst hb
        have hb':σ b1<s'.heap.length:=by
         rw[hr.l]
         by_cases hc:σ b1<s.heap.length
         ·exact hc
         ·have h1:=hw.hi (σ b1) (by omega)
          have h2:=hw.ts (σ b1)
          rw[h1,hw.ts]at h2;omega
        rw[wl hlb,wl hb'];rfl
       ·have hne:σ b1≠σ b:=fun e=>hb (by have:=congrArg τ e;rwa [hw.ts,hw.ts]at this)
        rw[ww hb,ww hne,hr.h b]
      ·simp only[Eff.of,wq];omega
   |load ty x=>
    have hx:=qbi σ x s.tmps
    have ov0:=ov
    simp only[opA]at ov ⊢
    split at ov
    ·rename_i p hcx
     split at ov
     ·rename_i u hu
      cases ov
      rw[hr.t,hx,hcx]
      simp only[wd]
      have hload:qb9 P s'.heap ty (ren σ p)=some (ren σ v):=by
       unfold qb9 at hu ⊢
       split at hu
       ·rename_i b off
        split at hu
        ·rename_i cs hb
         simp only[ren,hr.h b,hb,wd,renB]
         rw[ql9,hu];rfl
        ·cases hu
       ·rename_i cs off
        simp only[ren]
        have hv:∀b∈refs v,σ b=b:=by
         have hpw:=qa6 w hcx
         cases hpw.1 with
         |eptr _ _ h1 h2=>
          have:=qje (n:=0) (fun a ha=>WfA.pure (h2 a ha) (h1 a ha)) hu
          exact fun b hb=>absurd (this.2 b hb) (by omega)
        rw[hu,qc5 v hv]
       ·rename_i b off n
        split at hu
        ·rename_i p cs l e0 hb
         split at hu
         ·rename_i hkl
          simp only[ren,hr.h b,hb,wd,renB]
          rw[if_pos hkl,ql9,hu];rfl
         ·cases hu
        ·cases hu
       ·cases hu
      refine⟨.same,by rw[hload],?_,hr.l,hr.h,wu _,fun _ _ h=>h⟩
      unfold askD at av ⊢
      simp only[cls,rdOp]at av ⊢
      rw[hr.t,hx,hcx]
      rw[hcx]at av
      have low:∀b,nbA (some p)=some b→σ b=b:=fun b hb=>hw.lo b (by have:=qfx av hb;omega)
      have av2:qbh lim ops j s'.dirty (some p)=true:=qha (fun b hb hn=> .inr fun hm=>hn (hdd b (qfx av hb) hm)) av
      have hp9:nbA (some (ren σ p))=nbA (some p)∧qbh lim ops j s'.dirty (some (ren σ p))=qbh lim ops j s'.dirty (some p):=by
       cases p with
       |ptr b off=>simp only[ren,low b rfl,and_self]
       |mptr b off n=>simp only[ren,low b rfl,and_self]
       |mref b=>simp only[ren,low b rfl,and_self]
       |slice es tk=>cases tk<;>exact⟨rfl,rfl⟩
       |_=>exact⟨rfl,rfl⟩
      simp only[wd]
      rw[hp9.2];exact av2
     ·cases ov
    ·cases ov
   |build ty ps=>
    have hps:=qk4 σ s.tmps ps.toList
    simp only[opA]at ov ⊢
    split at ov
    ·rename_i z fs pl hz hu hpl
     have zr:=qhc σ hz
     simp only[refs]at zr
     rw[hr.t,hps,hpl,hz,hu]
     simp only[wd]
     split at ov
     ·rename_i hall
      rw[if_pos hall]
      have hfr:=fun PF=>qh9 σ PF pl z
      rw[qam z (by rw[zr];simp)]at hfr
      split at ov
      ·rename_i u hu2
       rw[wea]at hu2
       obtain⟨c,hf,rfl⟩:=hu2
       cases ov
       rw[hfr,hf]
       exact⟨.same,rfl,qcc rfl,hr.l,hr.h,wu _,fun _ _ h=>h⟩
      ·cases ov
     ·cases ov
    ·rename_i z len el pl hz hu hpl
     have zr:=qhc σ hz
     simp only[refs]at zr
     rw[hr.t,hps,hpl,hz,hu]
     simp only[wd]
     cases hs:qah P el with
     |none=>rw[hs]at ov;cases ov
     |some sz=>
      rw[hs]at ov
      have hfr:=qh9 σ (fun i=>some (i*sz,sz)) pl z
      rw[qam z (by rw[zr];simp)]at hfr
      simp only at ov ⊢
      rw[hfr]
      cases hf:qa2 (fun i=>some (i*sz,sz)) z pl with
      |none=>rw[hf]at ov;cases ov
      |some c=>
       rw[hf]at ov
       cases ov
       exact⟨.same,rfl,qcc rfl,hr.l,hr.h,wu _,fun _ _ h=>h⟩
    ·cases ov
   |call r=>
    have hia:qcd ⟨dst,.call r,type,pos,after,guard⟩=true:=by
     obtain⟨callee,args,ats⟩:=r
     cases callee with
     |builtin b=>cases b<;>first|rfl|exact hp|(simp[qa7]at hp)
     |_=>simp[qa7]at hp
    obtain⟨args,ats,x,y,t0,hop,hx,ht,h1,hg⟩:=qhd hia ov
    have hσ:σ s.heap.length=s.heap.length:=hw.hi _ hN
    have hinj:∀a b,σ a=σ b→a=b:=fun a b e=>by have:=congrArg τ e;rwa [hw.ts,hw.ts]at this
    obtain⟨f',g1,g2⟩:=qok hinj hr.l hr.h hσ (qnd w hx) hg
    have hx':qal s'.tmps args.toList=some [ren σ x,ren σ y]:=by rw[hr.t,ql8,hx];rfl
    have hlt:∀b,b<s.heap.length→σ b<s'.heap.length:=fun b hb=>by
     rw[hr.l]
     by_cases hc:σ b<s.heap.length
     ·exact hc
     ·have h1:=hw.hi (σ b) (by omega)
      have h2:=hw.ts (σ b)
      rw[h1,hw.ts]at h2;omega
    have hc2:cls ⟨dst,.call r,type,pos,after,guard⟩=2:=by simp only at hop;rw[hop];exact cls_app (by rw[ht];exact h1)
    refine⟨f',qjx hop hx' ht h1 g1,?_,?_,?_,?_,?_⟩
    ·unfold askD at av ⊢
     rw[hc2]at av ⊢
     simp only[decide_eq_true_eq]at av ⊢
     rw[hr.l];exact av
    ·rcases g2 with⟨rfl,rfl⟩|⟨y0,rfl,rfl⟩|⟨b,x0,y0,hb,rfl,rfl⟩
     ·exact hr.l
     ·simp only[Eff.of,wc,hr.l];try rfl
     ·simp only[Eff.of,wq,hr.l]
    ·intro b
     rcases g2 with⟨rfl,rfl⟩|⟨y0,rfl,rfl⟩|⟨c,x0,y0,hc,rfl,rfl⟩
     ·exact hr.h b
     ·simp only[Eff.of]
      by_cases hb:b<s.heap.length
      ·rw[wa hb,wa (hlt b hb),hr.h b]
      ·have hb':σ b=b:=hw.hi b (by omega)
       rw[hb',wb (by rw[hr.l];omega),wb (by omega),hr.l]
       rw[←wca];rfl
     ·simp only[Eff.of]
      have hlc:=(wk.1 hc).1
      by_cases hb:c=b
      ·subst hb
       rw[wl hlc,wl (hlt c hlc)];rfl
      ·have hne:σ c≠σ b:=fun e=>hb (hinj _ _ e)
       rw[ww hb,ww hne,hr.h b]
    ·rcases g2 with⟨rfl,rfl⟩|⟨y0,rfl,rfl⟩|⟨c,x0,y0,hc,rfl,rfl⟩
     ·exact wu _
     ·simp only[Eff.of,wc];omega
     ·simp only[Eff.of,wq];exact wu _
    ·intro b hb hm
     rcases g2 with⟨rfl,rfl⟩|⟨y0,rfl,rfl⟩|⟨c,x0,y0,hc,rfl,rfl⟩
     ·exact hm
     ·exact hm
     ·simp only[Eff.dirt,w7]at hm ⊢
      have h1:=hw.lo b (by omega)
      rw[hm]at h1
      have:=hinj _ _ h1
      rw[hm];exact this
   |_=>simp[qa7]at hp
  obtain⟨f',k1,k2,k3,k4,k5,k6⟩:=key
  refine⟨⟨setT s'.tmps o.dst (ren σ v),f'.of s'.heap,f'.dirt++s'.dirty⟩,?_,⟨?_,k3,k4⟩,k5,fun b hb hm=>by
   rcases wz.1 hm with hm|hm
   ·exact wba _ (k6 b hb hm)
   ·exact w8 _ (hdd b hb hm)⟩
  ·unfold qat;simp only[ho,wx',k1,k2,if_true]
  ·simp only[hr.t,qev]
 ·have wx':qak ops o s'.tmps=some false:=by rw[hr.t,qjw];exact wx
  refine⟨⟨setT s'.tmps o.dst .undef,s'.heap,s'.dirty⟩,?_,⟨?_,hr.l,hr.h⟩,wu _,hdd⟩
  ·unfold qat;simp only[ho,wx']
  ·simp only[hr.t]
   exact qev σ s.tmps o.dst .undef
theorem qhf (hLE:LowE call) {lim n N:Nat} {ops:List Oper} {σ τ:Nat→Nat} (hw:Sw n N σ τ) (hln:lim≤n):∀(l:List Nat) {s s' t:St},RenS σ s s'→N≤s.heap.length→Wf s→(∀j∈l,∀o,ops[j]? =some o→qa7 o=true)→
 (∀b,b<lim→b∈s'.dirty→b∈s.dirty)→opsD P cmp call lim ops l s=some t→∃t',opsD P cmp call lim ops l s'=some t'∧RenS σ t t'∧s.heap.length≤t.heap.length
 |[],s,s',t,hr,_,_,_,_,e=>by cases e;exact⟨s',rfl,hr,wu _⟩
 |j::l,s,s',t,hr,hN,w,hp,hdd,e=>by
  simp only[opsD]at e
  split at e
  ·rename_i s1 h1
   obtain⟨o,ho,_⟩:=qbe h1
   have hpo:=hp j (by simp) o ho
   obtain⟨s1',g1,g2,g3,g4⟩:=plain_ren hw hr hln hN w ho hpo hdd h1
   obtain⟨y,f,hy,hN1,_⟩:=qk2 h1
   obtain⟨t',k1,k2,k3⟩:=qhf hLE hw hln l g2 (by omega) (qhe hLE ho (qpr hpo) w hN1 (fun h=>by rw[plain_ct hpo]at h;cases h)) (fun i hi=>hp i (by simp[hi])) g4 e
   exact⟨t',by simp only[opsD,g1];exact k1,k2,by omega⟩
  ·cases e
def swp (n:Nat) (b:Nat):Nat:=if b=n then n+1 else if b=n+1 then n else b
theorem qgs (n:Nat):Sw n (n+2) (swp n) (swp n) where
 ts b:=by unfold swp;split<;>(try split)<;>(try split)<;>omega
 st b:=by unfold swp;split<;>(try split)<;>(try split)<;>omega
 lo b hb:=by unfold swp;rw[if_neg (by omega),if_neg (by omega)]
 hi b hb:=by unfold swp;rw[if_neg (by omega),if_neg (by omega)]
theorem qk5 {σ τ:Nat→Nat} {x:Blk} (h:∀u∈qdi x,∀c∈refs u,σ c=τ c):renB σ x=renB τ x:=by
 have lst:∀l:List AVal,(∀u∈l,∀c∈refs u,σ c=τ c)→renL σ l=renL τ l:=fun l hl=>qds l (fun c hc=>by
  obtain⟨u,hu,hc⟩:=qma hc
  exact hl u hu c hc)
 cases x with
 |box cs=>simp only[renB,lst cs h]
 |tok=>rfl
 |arr p cs l e=>simp only[renB,lst cs h]
 |map ks vs=>simp only[renB,lst ks (fun u hu=>h u (wba _ hu)),lst vs (fun u hu=>h u (w8 _ hu))]
theorem qex {n:Nat} {σ:Nat→Nat} (hσ:∀b,b<n→σ b=b) {l:List AVal} (h:∀v∈l,WfA n v):renL σ l=l:=
 qam l (fun b hb=>hσ b (qd3 (fun v hv=>(h v hv).2) b hb))
theorem qnf {n:Nat} {σ:Nat→Nat} (hσ:∀b,b<n→σ b=b) {x:Blk} (h:∀v∈qdi x,WfA n v):renB σ x=x:=by
 cases x with
 |box cs=>have:=qex hσ (l:=cs) h;simp only[renB,this]
 |tok=>rfl
 |arr p cs l e=>have:=qex hσ (l:=cs) h;simp only[renB,this]
 |map ks vs=>simp only[renB,qex hσ (fun v hv=>h v (wba _ hv)),qex hσ (fun v hv=>h v (w8 _ hv))]
def rot (n k m b:Nat):Nat:=if b<n then b else if b<n+k then b+m else if b<n+k+m then b-k else b
theorem rot_rot (n k m b:Nat):rot n m k (rot n k m b)=b:=by
 by_cases h1:b<n
 ·have e:rot n k m b=b:=by unfold rot;rw[if_pos h1]
  rw[e];unfold rot;rw[if_pos h1]
 ·by_cases h2:b<n+k
  ·have e:rot n k m b=b+m:=by unfold rot;rw[if_neg h1,if_pos h2]
   rw[e];unfold rot;rw[if_neg (by omega),if_neg (by omega),if_pos (by omega)];omega
  ·by_cases h3:b<n+k+m
   ·have e:rot n k m b=b-k:=by unfold rot;rw[if_neg h1,if_neg h2,if_pos h3]
    rw[e];unfold rot;rw[if_neg (by omega),if_pos (by omega)];omega
   ·have e:rot n k m b=b:=by unfold rot;rw[if_neg h1,if_neg h2,if_neg h3]
    rw[e];unfold rot;rw[if_neg (by omega),if_neg (by omega),if_neg (by omega)]
theorem qia (n k m:Nat):Sw n (n+k+m) (rot n k m) (rot n m k) where
 ts b:=rot_rot n k m b
 st b:=rot_rot n m k b
 lo b hb:=by unfold rot;rw[if_pos hb]
 hi b hb:=by unfold rot;rw[if_neg (by omega),if_neg (by omega),if_neg (by omega)]
theorem qk6 {af:List Edge} {ts:List AVal}:∀(q j:Nat) (l:List Oper),qad af ts [] q j l=true
 |q,0,l=>by unfold qad;rfl
 |q,j+1,[]=>by unfold qad;rfl
 |q,j+1,o::r=>by
  simp only[qad,w3]
  refine⟨?_,qk6 (q+1) j r⟩
  split
  ·rename_i a _
   have:qb0 [] (qab a ts)=true:=by unfold qb0;split<;>rfl
   rw[this];simp
  ·rfl
theorem swapMk (hLE:LowE call) {lim:Nat} {ops:List Oper} {i j:Nat} {x y:Oper} {s s1 s2:St} (hx:ops[i]? =some x) (hy:ops[j]? =some y) (ax:isMk x=true) (ay:isMk y=true) (hin:qfh ops x y=true) (w:Wf s) (hlim:lim≤s.heap.length)
 {fy:Eff} (hyd:isCt y=true→fy.dirt=[]) (e1:qat P cmp call lim ops i s=some s1) (e2:qd1 P cmp call ops j s1 s2 fy):
 ∃s1' s2' fy' N σ τ,qd1 P cmp call ops j s s1' fy'∧fy'.dirt=[]∧fy'.isSame=fy.isSame∧qat P cmp call lim ops i s1'=some s2'∧Sw s.heap.length N σ τ∧N≤s2.heap.length∧RenS σ s2 s2'∧s2'.dirty=s2.dirty:=by
 obtain⟨_,_,d3⟩:=qh6 hin
 have wnt:∀o:Oper,isMk o=true→∀ts,qak ops o ts=some true:=fun o ho ts=>by unfold qak;rw[qpq ho]
 obtain⟨x',fx,hx',n1,a1⟩:=qk2 e1
 rw[hx]at hx';cases hx'
 obtain⟨x',hx',c1⟩:=qbe e1
 rw[hx]at hx';cases hx'
 rcases c1 with⟨_,vx,fx2,ox,askx,rfl⟩|⟨h,_⟩
 rotate_left
 ·rw[wnt x ax]at h;cases h
 obtain⟨x',hx',c1⟩:=n1
 rw[hx]at hx';cases hx'
 rcases c1 with⟨_,vx2,ox2,_⟩|⟨h,_⟩
 rotate_left
 ·rw[wnt x ax]at h;cases h
 rw[ox]at ox2;cases ox2
 obtain⟨y',hy',c2⟩:=e2
 rw[hy]at hy';cases hy'
 rcases c2 with⟨_,vy,oy,rfl⟩|⟨h,_⟩
 rotate_left
 ·rw[wnt y ay]at h;cases h
 have md:∀(o:Oper) (ts:List AVal) (h:qaa) (v:AVal) (f:Eff),isMk o=true→(isCt o=true→f.dirt=[])→opA P cmp call o ts h=some (.val v f)→f.dirt=[]:=by
  intro o ts h v f hm hc e
  rcases qkf hm with h2|⟨_,h2⟩
  ·cases hd:f.dirt with
   |nil=>rfl
   |cons b r=>
    have:=(qk1 h2 e b (by rw[hd];simp)).2
    exfalso
    unfold isMk at hm
    simp only[w4]at hm
    unfold qed at this
    split at this
    ·rename_i h3
     rcases hm with(hm|hm)|hm
     ·unfold isAl at hm;rw[h3]at hm;cases hm
     ·unfold isCt at hm;rw[h3]at hm;cases hm
     ·rw[h3]at hm;cases hm
    ·cases this
  ·exact hc h2
 have hfx:=md x _ _ _ _ ax a1.ct ox
 have hyd:=md y _ _ _ _ ay hyd oy
 obtain⟨v0,X0,tx⟩:=mk_tpl hLE ax ox hfx
 obtain⟨w0,Y0,ty⟩:=mk_tpl hLE ay oy hyd
 obtain⟨f1,p1,p2,p3,p4⟩:=tx.op s.tmps s.heap
 rw[ox]at p1;cases p1
 obtain⟨f2,r1,r2,r3,r4⟩:=ty.op (setT s.tmps x.dst (ren (s.heap.length+ ·) v0)) (fx.of s.heap)
 rw[oy]at r1;cases r1
 obtain⟨g1,q1,q2,q3,q4⟩:=ty.op s.tmps s.heap
 obtain⟨g2,u1,u2,u3,u4⟩:=tx.op (setT s.tmps y.dst (ren (s.heap.length+ ·) w0)) (g1.of s.heap)
 have e2:fy.of (fx.of s.heap)=(s.heap++X0.map (renB (s.heap.length+ ·)))++Y0.map (renB (s.heap.length+X0.length+ ·)):=by
  rw[r2,p2];simp only[wc,ws]
 have e2':g2.of (g1.of s.heap)=(s.heap++Y0.map (renB (s.heap.length+ ·)))++X0.map (renB (s.heap.length+Y0.length+ ·)):=by
  rw[u2,q2];simp only[wc,ws]
 refine⟨⟨setT s.tmps y.dst (ren (s.heap.length+ ·) w0),g1.of s.heap,g1.dirt++s.dirty⟩,⟨setT (setT s.tmps y.dst (ren (s.heap.length+ ·) w0)) x.dst (ren ((g1.of s.heap).length+ ·) v0),g2.of (g1.of s.heap),g2.dirt++(g1.dirt++s.dirty)⟩,g1,
  s.heap.length+X0.length+Y0.length,rot s.heap.length X0.length Y0.length,rot s.heap.length Y0.length X0.length,⟨y,hy,.inl ⟨wnt y ay _,_,q1,rfl⟩⟩,q3,q4,?_,qia _ _ _,?_,⟨?_,?_,?_⟩,?_⟩
 ·unfold qat
  simp only[hx,wnt x ax,u1]
  rw[if_pos]
  have hlen:s.heap.length≤(g1.of s.heap).length:=by rw[q2];simp
  rcases qkf ax with hc|⟨hc,hct⟩
  ·unfold askD;rw[hc]
   simp only[decide_eq_true_eq];omega
  ·unfold askD at askx ⊢
   rw[hc]at askx ⊢
   simp only[w4,w3]at askx ⊢
   refine⟨?_,.inl (by rw[u3];rfl)⟩
   rcases askx.1 with(h|h)|h
   ·exact .inl (.inl (by rw[u4];exact h))
   ·exact .inl (.inr h)
   ·exact .inr ⟨h.1,by rw[u3];exact qk6 _ _ _⟩
 ·simp only[e2,wc,ws];omega
 ·have hlow:=qex (qia s.heap.length X0.length Y0.length).lo w.t
  rw[←qev,←qev,hlow,qja,qja]
  rw[show ren (fun b=>rot s.heap.length X0.length Y0.length (s.heap.length+b)) v0=ren ((g1.of s.heap).length+ ·) v0 from qfb v0 (fun b hb=>by
   have:=tx.wv.2 b hb
   show rot s.heap.length X0.length Y0.length (s.heap.length+b)=(g1.of s.heap).length+b
   rw[q2];simp only[wc,ws]
   unfold rot;rw[if_neg (by omega),if_pos (by omega)];omega)]
  rw[show ren (fun b=>rot s.heap.length X0.length Y0.length ((fx.of s.heap).length+b)) w0=ren (s.heap.length+ ·) w0 from qfb w0 (fun b hb=>by
   have:=ty.wv.2 b hb
   show rot s.heap.length X0.length Y0.length ((fx.of s.heap).length+b)=s.heap.length+b
   rw[p2];simp only[wc,ws]
   unfold rot;rw[if_neg (by omega),if_neg (by omega),if_pos (by omega)];omega)]
  exact(qh5 (fun d hd e=>d3 d hd e)).symm
 ·simp only[e2,e2',wc,ws];omega
 ·intro b
  have low:∀c k,s.heap[c]? =some k→renB (rot s.heap.length X0.length Y0.length) k=k:=fun c k h=>qnf (qia s.heap.length X0.length Y0.length).lo (w.h c k h)
  have hX:∀k∈X0,renB (rot s.heap.length X0.length Y0.length) (renB (s.heap.length+ ·) k)=renB (s.heap.length+Y0.length+ ·) k:=by
   intro k hk
   rw[qh8]
   exact qk5 (fun u hu c hc=>by
    have:=(tx.wx k hk u hu).2 c hc
    unfold rot;rw[if_neg (by omega),if_pos (by omega)];omega)
  have hY:∀k∈Y0,renB (rot s.heap.length X0.length Y0.length) (renB (s.heap.length+X0.length+ ·) k)=renB (s.heap.length+ ·) k:=by
   intro k hk
   rw[qh8]
   exact qk5 (fun u hu c hc=>by
    have:=(ty.wx k hk u hu).2 c hc
    unfold rot;rw[if_neg (by omega),if_neg (by omega),if_pos (by omega)];omega)
  simp only[e2,e2']
  by_cases hb:b<s.heap.length
  ·rw[(qia s.heap.length X0.length Y0.length).lo b hb,wa (by simp;omega),wa hb,wa (by simp;omega),wa hb]
   cases h:s.heap[b]? with
   |none=>rfl
   |some k=>simp only[wd,low b k h]
  ·by_cases hb1:b<s.heap.length+X0.length
   ·have h1:rot s.heap.length X0.length Y0.length b=b+Y0.length:=by unfold rot;rw[if_neg hb,if_pos hb1]
    rw[h1,wb (by simp;omega),wa (by simp;omega),wb (by omega)]
    simp only[wc,ws,wca,show b+Y0.length-(s.heap.length+Y0.length)=b-s.heap.length by omega]
    cases h:X0[b-s.heap.length]? with
    |none=>rfl
    |some k=>simp only[wd,hX k (wj h)]
   ·by_cases hb2:b<s.heap.length+X0.length+Y0.length
    ·have h1:rot s.heap.length X0.length Y0.length b=b-X0.length:=by unfold rot;rw[if_neg hb,if_neg hb1,if_pos hb2]
     rw[h1,wa (by simp;omega),wb (by omega),wb (by simp;omega)]
     simp only[wc,ws,wca,show b-X0.length-s.heap.length=b-(s.heap.length+X0.length) by omega]
     cases h:Y0[b-(s.heap.length+X0.length)]? with
     |none=>rfl
     |some k=>simp only[wd,hY k (wj h)]
    ·rw[(qia s.heap.length X0.length Y0.length).hi b (by omega),w5 (by simp;omega),w5 (by simp;omega)];rfl
 ·simp only[u3,q3,hfx,hyd,wja]
theorem swapAp {lim:Nat} {ops:List Oper} {i j:Nat} {x y:Oper} {s s1 s2:St} (hx:ops[i]? =some x) (hy:ops[j]? =some y) (ax:qcd x=true) (ay:isAl y=true) (hin:qfh ops x y=true) (w:Wf s)
 {fy:Eff} (e1:qat P cmp call lim ops i s=some s1) (e2:qd1 P cmp call ops j s1 s2 fy):
 ∃s1' s2' fy',qd1 P cmp call ops j s s1' fy'∧qat P cmp call lim ops i s1'=some s2'∧(s2'=s2∨(lim≤s.heap.length∧s2.heap.length=s.heap.length+2∧RenS (swp s.heap.length) s2 s2'∧∀b,b<lim→b∈s2'.dirty→b∈s2.dirty)):=by
 obtain⟨d1,d2,d3⟩:=qh6 hin
 have rx:∀{u:AVal} {ts:List AVal},∀t∈qbw ops x,(setT ts y.dst u)[t]? =ts[t]? :=fun t ht=>qc8 fun d hd=>d2 d hd t ht
 have sub:∀t∈qbm x.op.operands.toList,t∈qbw ops x:=fun t ht=>by simp[qbw,ht]
 have comm:∀{ts:List AVal} {u v:AVal},setT (setT ts x.dst u) y.dst v=setT (setT ts y.dst v) x.dst u:=qh5 d3
 obtain⟨ty,oy,gy⟩:∃t,y.op= .alloc t∧y.guard=none:=by
  unfold isAl at ay
  split at ay
  ·rename_i t h1 h2;exact⟨t,h1,h2⟩
  ·cases ay
 have mkN:∀(z:AVal) (a:St),qap P ty=some z→qd1 P cmp call ops j a ⟨setT a.tmps y.dst (.ptr a.heap.length 0),a.heap++[Blk.box z.cells],[]++a.dirty⟩ (.heap (a.heap++[Blk.box z.cells]) []):=by
  intro z a hz
  refine⟨y,hy,.inl ⟨?_,.ptr a.heap.length 0,?_,rfl⟩⟩
  ·simp only[qak,gy]
  ·obtain⟨dst,op,type,pos,after,guard⟩:=y
   simp only at oy
   subst oy
   simp only[opA,hz]
 obtain⟨z,hz,rfl⟩:∃z,qap P ty=some z∧s2=⟨setT s1.tmps y.dst (.ptr s1.heap.length 0),s1.heap++[Blk.box z.cells],[]++s1.dirty⟩:=by
  obtain⟨o',ho',hc⟩:=e2
  rw[hy]at ho';cases ho'
  obtain⟨dst,op,type,pos,after,guard⟩:=y
  simp only at oy gy
  subst oy gy
  rcases hc with⟨wx,v,ov,rfl⟩|⟨wx,_,rfl⟩
  ·simp only[opA]at ov
   split at ov
   ·rename_i z hz
    cases ov
    exact⟨z,hz,rfl⟩
   ·cases ov
  ·simp[qak]at wx
 obtain⟨o',ho',hc⟩:=qbe e1
 rw[hx]at ho';cases ho'
 have hzr:renL (swp s.heap.length) z.cells=z.cells:=by
  refine qam _ (fun b hb=> ?_)
  have h0:=qhc (swp s.heap.length) hz
  have:qaf z.cells=[]:=by
   cases z with
   |agg cs=>simpa[refs,AVal.cells]using h0
   |_=>simp[AVal.cells,qaf,h0]
  rw[this]at hb;cases hb
 rcases hc with⟨wx,v,f,ov,av,rfl⟩|⟨wx,rfl⟩
 ·obtain⟨args,ats,p,q,t0,hop,hpq,ht0,ht1,hg⟩:=qhd ax ov
  have hlim:lim≤s.heap.length:=by
   have hc:cls x=2:=by unfold cls;rw[hop];simp only;rw[if_pos (by rw[ht0];exact ht1)]
   unfold askD at av
   rw[hc]at av;simpa using av
  have again:∀(v':AVal) (f':Eff),qbf P (bigM cmp) (s.heap++[Blk.box z.cells]) t0 p q=some (v',f')→qat P cmp call lim ops i ⟨setT s.tmps y.dst (.ptr s.heap.length 0),s.heap++[Blk.box z.cells],[]++s.dirty⟩=
   some ⟨setT (setT s.tmps y.dst (.ptr s.heap.length 0)) x.dst v',f'.of (s.heap++[Blk.box z.cells]),f'.dirt++s.dirty⟩:=by
   intro v' f' hv
   have ho:opA P cmp call x s.tmps (s.heap++[Blk.box z.cells])=some (.val v' f'):=qjx hop hpq ht0 ht1 hv
   unfold qat
   simp only[hx,qau rx,wx,qd8 (fun t ht=>rx t (sub t ht)),ho]
   have hc:cls x=2:=by unfold cls;rw[hop];simp only;rw[if_pos (by rw[ht0];exact ht1)]
   rw[if_pos (by unfold askD;rw[hc];simp;omega)]
   rfl
  have hqp:=qnd w hpq
  have hpar:∃v' f',qbf P (bigM cmp) (s.heap++[Blk.box z.cells]) t0 p q=some (v',f')∧((f= .same∧f'= .same∧v'=v)∨(∃b x0 y0,s.heap[b]? =some x0∧f= .heap (s.heap.set b y0) [b]∧f'= .heap ((s.heap++[Blk.box z.cells]).set b y0) [b]∧v'=v)∨(∃y0,f= .heap (s.heap++[y0]) []∧renB (swp s.heap.length) y0=y0∧f'= .heap (s.heap++[Blk.box z.cells]++[y0]) []∧v'=ren (swp s.heap.length) v)):=by
   unfold qbf at hg ⊢
   split at hg
   ·rename_i hto
    rw[if_pos hto]
    clear hto
    unfold qcg at hg ⊢
    split at hg
    ·rename_i el fs tk' hel
     have hpu:renL (swp s.heap.length) fs.flatten=fs.flatten:=qam _ (fun b hb=>by
      obtain⟨a,ha,hba⟩:=qc1.1 hb
      obtain⟨c,hc,hac⟩:=wda.1 ha
      have:=hqp fs tk' rfl c hc a hac
      unfold qaq at this
      simp only[w3]at this
      have h0:refs a=[]:=by simpa using this.2
      rw[h0]at hba;cases hba)
     split at hg
     ·rename_i sz by_ z0 hsz hby hz0
      split at hg
      ·rename_i hc
       simp only[hel,hsz,hby,hz0,hc,if_true]
       split at hg
       ·split at hg
        ·rename_i hc2
         cases hg
         rw[if_pos hc2]
         exact⟨_,_,rfl,.inr (.inr ⟨_,rfl,by simp only[renB,hpu],by simp,by simp[ren,swp]⟩)⟩
        ·cases hg
       ·split at hg
        ·rename_i n e' hb
         split at hg
         ·rename_i hcnd
          cases hg
          have hlt:=(wk.1 hb).1
          rw[wa hlt,hb]
          simp only
          rw[if_pos hcnd]
          exact⟨_,_,rfl,.inr (.inl ⟨_,_,_,hb,rfl,rfl,rfl⟩)⟩
         ·cases hg
        ·cases hg
       ·split at hg
        ·rename_i p0 cs l e' hb
         split at hg
         ·rename_i hcnd
          have hlt:=(wk.1 hb).1
          rw[wa hlt,hb]
          simp only
          rw[if_pos hcnd]
          split at hg
          ·rename_i hmn
           cases hg
           rw[if_pos hmn]
           exact⟨_,_,rfl,.inr (.inl ⟨_,_,_,hb,rfl,rfl,rfl⟩)⟩
          ·rename_i hmn
           rw[if_neg hmn]
           split at hg
           ·rename_i hmf
            rw[if_pos hmf]
            split at hg
            ·rename_i cs' hset
             cases hg
             exact⟨_,_,rfl,.inr (.inl ⟨_,_,_,hb,rfl,rfl,rfl⟩)⟩
            ·cases hg
           ·cases hg
         ·cases hg
        ·cases hg
       ·cases hg
      ·rename_i hc
       simp only[hel,hsz,hby,hz0,hc,if_false]
       unfold qgn at hg
       split at hg
       ·cases hg;exact⟨_,_,rfl,.inl ⟨rfl,rfl,rfl⟩⟩
       ·cases hg
     ·cases hg
    ·cases hg
   ·rename_i hto
    rw[if_neg hto]
    clear hto
    unfold qbu at hg ⊢
    split at hg
    ·rename_i el es tk fs tk' hel
     split at hg
     ·rename_i sz by_ z0 hsz hby hz0
      split at hg
      ·rename_i hc
       simp only[hel,hsz,hby,hz0,hc,if_true]
       split at hg
       ·cases hg;exact⟨_,_,rfl,.inl ⟨rfl,rfl,rfl⟩⟩
       ·split at hg
        ·cases hg
         exact⟨_,_,rfl,.inr (.inr ⟨_,rfl,rfl,rfl,by simp[ren,swp]⟩)⟩
        ·rename_i b
         split at hg
         ·rename_i n e' hb
          split at hg
          ·rename_i hcnd
           cases hg
           have hlt:=(wk.1 hb).1
           rw[wa hlt,hb]
           simp only
           rw[if_pos hcnd]
           exact⟨_,_,rfl,.inr (.inl ⟨b,_,_,hb,rfl,rfl,rfl⟩)⟩
          ·cases hg
         ·cases hg
        ·cases hg
        ·cases hg
      ·cases hg
     ·cases hg
    ·cases hg
  obtain⟨v',f',hv,hcase⟩:=hpar
  refine⟨_,_,_,mkN z s hz,again v' f' hv,?_⟩
  rcases hcase with⟨rfl,rfl,rfl⟩|⟨b,x0,y0,hb,rfl,rfl,rfl⟩|⟨y0,rfl,hy0,rfl,rfl⟩
  ·exact .inl (by rw[comm];rfl)
  ·refine .inl ?_
   have hlt:=(wk.1 hb).1
   rw[comm]
   simp only[Eff.of,Eff.dirt,wq,List.set_append_left _ _ hlt]
   rfl
  ·refine .inr ⟨hlim,by simp[Eff.of],⟨?_,?_,?_⟩,fun b _ hm=>hm⟩
   ·have hlow:=qex (qgs s.heap.length).lo w.t
    have h1:swp s.heap.length s.heap.length=s.heap.length+1:=by unfold swp;rw[if_pos rfl]
    have h2:swp s.heap.length (s.heap.length+1)=s.heap.length:=by unfold swp;rw[if_neg (by omega),if_pos rfl]
    simp only[Eff.of,wc,wt,wo]
    rw[←qev,←qev,hlow]
    simp only[ren,h2]
    exact comm.symm
   ·simp[Eff.of]
   ·intro b
    simp only[Eff.of,List.append_assoc,List.cons_append,wja]
    by_cases hb:b<s.heap.length
    ·rw[(qgs s.heap.length).lo b hb,wa hb,wa hb]
     cases h:s.heap[b]? with
     |none=>rfl
     |some k=>simp only[wd,qnf (qgs s.heap.length).lo (w.h b k h)]
    ·by_cases hb1:b=s.heap.length
     ·subst hb1
      have h1:swp s.heap.length s.heap.length=s.heap.length+1:=by unfold swp;rw[if_pos rfl]
      rw[h1,wb (by omega),wb (by omega)]
      simp[hy0]
     ·by_cases hb2:b=s.heap.length+1
      ·subst hb2
       have h2:swp s.heap.length (s.heap.length+1)=s.heap.length:=by unfold swp;rw[if_neg (by omega),if_pos rfl]
       rw[h2,wb (by omega),wb (by omega)]
       simp[renB,hzr]
      ·rw[(qgs s.heap.length).hi b (by omega),wb (by omega)]
       have:([Blk.box z.cells,y0]:List Blk)[b-s.heap.length]? =none:=w5 (by simp;omega)
       have h3:([y0,Blk.box z.cells]:List Blk)[b-s.heap.length]? =none:=w5 (by simp;omega)
       rw[this,wb (by omega),h3];rfl
 ·refine⟨_,_,_,mkN z s hz,?_,.inl rfl⟩
  unfold qat
  simp only[hx,qau rx,wx]
  rw[comm]
end Go.Ab
