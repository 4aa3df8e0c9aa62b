/- Two that are made in one region, in either order: the same but for the numbers of the blocks. -/
import Derived.Test.YtngklkmeknmloaaGreatDoorAbCode1
set_option linter.unusedSimpArgs false
set_option linter.unusedVariables false
set_option maxRecDepth 100000
set_option maxHeartbeats 4000000
open List renaming getElem?_append_right→wa,getElem?_append_left→wc,getElem?_eq_getElem→wd,getElem_of_mem→we,mem_cons→wg,getElem?_eq_some_iff→wh,not_mem_nil→wi,getElem?_set_self→wj,length_append→wk,length_set→wm,mem_of_getElem?→wo,getElem?_set_ne→wt,length_cons→wu,mem_append→wv,length_nil→ww,getElem?_eq_none→w5,mem_of_mem_drop→w6,mem_flatten→w7,mem_of_mem_take→w9,append_assoc→wba,cons_append→wca,map_append→wda,nil_append→wfa,map_cons→wha,map_drop→wia
open Option renaming map_some→wb,map_eq_some_iff→w8
open Array renaming getElem?_eq_getElem→wl
open Nat renaming le_refl→wq
open Bool renaming and_eq_true→wz,not_eq_true'→waa,or_eq_true→wea
open Prod renaming mk→wga
namespace Go.Ab
variable {P:Program} {cmp:List TypeId} {call:Call}
theorem qen (σ:Nat→Nat):∀l:List AVal,renL σ l=l.map (ren σ)
 |[]=>rfl
 |v::r=>by simp only[renL,qen σ r,wha]
theorem qom {v:Value} {a:AVal} (h:ofV0 v=some a):refs a=[]:=by
 unfold ofV0 at h
 split at h<;>cases h<;>rfl
theorem qjr:∀{l:List Value} {as:List AVal},ofVs l=some as→qag as=[]
 |[],as,h=>by cases h;rfl
 |v::r,as,h=>by
  simp only[ofVs]at h
  split at h
  ·rename_i a l h1 h2
   cases h
   simp only[qag,qom h1,qjr h2,List.append_nil]
  ·cases h
theorem qgs {v:Value} {a:AVal} (h:ofV v=some a):refs a=[]:=by
 unfold ofV at h
 split at h
 ·cases hh:ofVs _ with
  |none=>rw[hh]at h;cases h
  |some l=>rw[hh]at h;cases h;simp only[refs,qjr hh]
 ·cases hh:ofVs _ with
  |none=>rw[hh]at h;cases h
  |some l=>rw[hh]at h;cases h;simp only[refs,qjr hh]
 ·exact qom h
theorem qca (σ:Nat→Nat) (x:Operand) (ts:List AVal):qab x (renL σ ts)=(qab x ts).map (ren σ):=by
 cases x with
 |tmp t=>simp only[qab,qc0]
 |const v=>
  simp only[qab]
  cases h:ofV v with
  |none=>rfl
  |some a=>simp only[wb];rw[qcj a (by rw[qgs h];simp)]
 |func f=>simp only[qab];rfl
 | «global» g=>simp only[qab];rfl
structure Sw (n N:Nat) (σ τ:Nat→Nat):Prop where
 ts:∀b,τ (σ b)=b
 st:∀b,σ (τ b)=b
 lo:∀b,b<n→σ b=b
 hi:∀b,N≤b→σ b=b
theorem Sw.up {n N:Nat} {σ τ:Nat→Nat} (h:Sw n N σ τ) {b:Nat} (hb:n≤b):n≤σ b:=by
 by_cases hc:σ b<n
 ·have h1:=h.lo (σ b) hc
  have h2:=h.ts (σ b)
  rw[h1,h.ts]at h2;omega
 ·omega
theorem Sw.inv {n N:Nat} {σ τ:Nat→Nat} (h:Sw n N σ τ):Sw n N τ σ where
 ts:=h.st
 st:=h.ts
 lo b hb:=by have:=h.ts b;rw[h.lo b hb]at this;exact this
 hi b hb:=by have:=h.ts b;rw[h.hi b hb]at this;exact this
theorem Sw.comp {n N:Nat} {σ τ σ' τ':Nat→Nat} (h:Sw n N σ τ) (k:Sw n N σ' τ'):Sw n N (fun b=>σ' (σ b)) (fun b=>τ (τ' b)) where
 ts b:=by rw[k.ts,h.ts]
 st b:=by rw[h.st,k.st]
 lo b hb:=by rw[h.lo b hb,k.lo b hb]
 hi b hb:=by rw[h.hi b hb,k.hi b hb]
theorem Sw.weak {n m N M:Nat} {σ τ:Nat→Nat} (h:Sw n N σ τ) (hm:m≤n) (hN:N≤M):Sw m M σ τ:=
 ⟨h.ts,h.st,fun b hb=>h.lo b (by omega),fun b hb=>h.hi b (by omega)⟩
structure RenS (σ:Nat→Nat) (s s':St):Prop where
 t:s'.tmps=renL σ s.tmps
 l:s'.heap.length=s.heap.length
 h:∀b,s'.heap[σ b]? =(s.heap[b]?).map (renB σ)
theorem renB_renB {σ τ:Nat→Nat} (x:Blk):renB τ (renB σ x)=renB (fun b=>τ (σ b)) x:=by
 cases x<;>simp only[renB,qb5]
theorem RenS.comp {σ σ':Nat→Nat} {s s' s'':St} (h:RenS σ s s') (k:RenS σ' s' s''):RenS (fun b=>σ' (σ b)) s s'' where
 t:=by rw[k.t,h.t,qb5]
 l:=k.l.trans h.l
 h b:=by
  rw[k.h (σ b),h.h b]
  cases s.heap[b]? with
  |none=>rfl
  |some x=>simp only[wb,renB_renB]
theorem ql1 (σ:Nat→Nat) (ops:List Oper) (o:Oper) (ts:List AVal):qap ops o (renL σ ts)=qap ops o ts:=by
 unfold qap
 split
 ·rfl
 ·split
  ·split
   ·rename_i d hd
    rw[qc0]
    cases ts[d]? with
    |none=>rfl
    |some v=>cases v<;>first|rfl|(rename_i es tk;cases tk<;>rfl)
   ·rfl
  ·rfl
theorem qfg (σ:Nat→Nat) (ts:List AVal) (d:Option Tmp) (v:AVal):setT (renL σ ts) d (ren σ v)=renL σ (setT ts d v):=by
 cases d with
 |none=>rfl
 |some d=>simp only[setT,qen,List.map_set]
theorem qjs (σ:Nat→Nat) (v:AVal):(ren σ v).cells=renL σ v.cells:=by
 cases v with
 |slice es tk=>cases tk<;>rfl
 |agg cs=>simp only[ren,AVal.cells]
 |_=>rfl
theorem one_ren (σ:Nat→Nat) (v:AVal):oneA (ren σ v)=oneA v:=by
 cases v with
 |slice es tk=>cases tk<;>rfl
 |_=>rfl
theorem qpv (σ:Nat→Nat) (l:List AVal):(renL σ l).all oneA=l.all oneA:=by
 induction l with
 |nil=>rfl
 |cons v r ih=>simp only[renL,List.all_cons,one_ren,ih]
theorem qdy (σ:Nat→Nat):∀(cs:List AVal) (n:Nat) (vs:List AVal),qaj (renL σ cs) n (renL σ vs)=(qaj cs n vs).map (renL σ)
 |cs,0,vs=>by
  have e:∀(cs:List AVal),qaj cs 0 vs=if vs.length≤cs.length then some (vs++cs.drop vs.length)else none:=fun cs=>by cases cs<;>rfl
  have e':∀(cs:List AVal),qaj cs 0 (renL σ vs)=if(renL σ vs).length≤cs.length then some (renL σ vs++cs.drop (renL σ vs).length)else none:=fun cs=>by cases cs<;>rfl
  rw[e,e',qa1,qa1]
  by_cases h:vs.length≤cs.length
  ·rw[if_pos h,if_pos h];simp only[wb,qen,wda,wia]
  ·rw[if_neg h,if_neg h];rfl
 |c::cs,n+1,vs=>by
  simp only[renL,qaj,qdy σ cs n vs]
  cases qaj cs n vs<;>rfl
 |[],n+1,vs=>rfl
theorem qsf {σ:Nat→Nat} (hinj:∀a b,σ a=σ b→a=b) {d:List Nat} {v:Option AVal} (h:qfu d v=true):qfu (d.map σ) (v.map (ren σ))=true:=by
 cases v with
 |none=>rfl
 |some a=>
  cases a with
  |ptr b o=>
   simp only[qfu,wb,ren,waa,List.contains_eq_mem,decide_eq_false_iff_not]at h ⊢
   intro hm
   obtain⟨c,hc,he⟩:=List.mem_map.1 hm
   exact h (by rw[hinj b c he.symm];exact hc)
  |slice es tk=>cases tk<;>rfl
  |_=>rfl
theorem qm8 {σ:Nat→Nat} (hinj:∀a b,σ a=σ b→a=b) {af:List Edge} {ts:List AVal} {d:List Nat}:∀(q j:Nat) (l:List Oper),qaf af ts d q j l=true→qaf af (renL σ ts) (d.map σ) q j l=true
 |q,0,l,_=>by unfold qaf;rfl
 |q,j+1,[],_=>by unfold qaf;rfl
 |q,j+1,o::r,h=>by
  simp only[qaf,wz]at h ⊢
  refine⟨?_,qm8 hinj (q+1) j r h.2⟩
  have h1:=h.1
  split at h1
  ·rw[wea]at h1 ⊢
   rw[qca]
   exact h1.imp id (qsf hinj)
  ·rfl
theorem isMp_ren (σ:Nat→Nat) (v:Option AVal):isMp (v.map (ren σ))=isMp v:=by
 cases v with
 |none=>rfl
 |some a=>cases a with
  |slice es tk=>cases tk<;>rfl
  |_=>rfl
theorem isPt_ren (σ:Nat→Nat) (v:Option AVal):isPt (v.map (ren σ))=isPt v:=by
 cases v with
 |none=>rfl
 |some a=>cases a with
  |slice es tk=>cases tk<;>rfl
  |_=>rfl
theorem stOk_ren (σ:Nat→Nat) (ops:List Oper) (j:Nat) (o:Oper) (ts:List AVal):stOk ops j o (renL σ ts)=stOk ops j o ts:=by
 unfold stOk
 congr 1
 funext i
 cases ops[i]? with
 |none=>rfl
 |some x=>
  simp only[Option.all_some,stAt]
  split
  ·rw[qca,qca,isMp_ren,isPt_ren]
  ·rfl
theorem qon (σ:Nat→Nat) (ts:List AVal):∀l:List Operand,qao (renL σ ts) l=(qao ts l).map (renL σ)
 |[]=>rfl
 |o::r=>by
  simp only[qao,qca,qon σ ts r]
  cases qab o ts with
  |none=>rfl
  |some a=>cases qao ts r<;>rfl
theorem qm9 (σ:Nat→Nat) (ts:List AVal):∀l:List (Nat×Operand),qau (renL σ ts) l=(qau ts l).map (List.map fun x=>(x.1,ren σ x.2))
 |[]=>rfl
 |(i,o)::r=>by
  simp only[qau,qca,qm9 σ ts r]
  cases qab o ts with
  |none=>rfl
  |some a=>cases qau ts r<;>rfl
theorem qjt (σ:Nat→Nat) (pl:Nat→Option (Nat×Nat)):∀(l:List (Nat×AVal)) (cs:List AVal),qa3 pl (renL σ cs) (l.map fun x=>(x.1,ren σ x.2))=(qa3 pl cs l).map (renL σ)
 |[],cs=>rfl
 |(i,v)::r,cs=>by
  simp only[wha,qa3]
  cases pl i with
  |none=>rfl
  |some p=>
   obtain⟨off,size⟩:=p
   simp only[qjs,qa1,qdy]
   split
   ·cases qaj cs off v.cells with
    |none=>rfl
    |some c=>simp only[wb];exact qjt σ pl r c
   ·rfl
theorem renL_take (σ:Nat→Nat) (n:Nat) (l:List AVal):(renL σ l).take n=renL σ (l.take n):=by simp only[qen,List.map_take]
theorem renL_drop (σ:Nat→Nat) (n:Nat) (l:List AVal):(renL σ l).drop n=renL σ (l.drop n):=by simp only[qen,wia]
theorem qoo (σ:Nat→Nat) (t:TypeId) (cs:List AVal) (off:Nat):qby P t (renL σ cs) off=(qby P t cs off).map (ren σ):=by
 unfold qby
 split
 ·simp only[renL_drop,renL_take,qa1]
  split<;>rfl
 ·rw[qc0]
 ·rfl
theorem qmh (σ:Nat→Nat) {t:TypeId} {z:AVal} (hz:qal P t=some z):refs z=[]:=by
 unfold qal at hz
 split at hz
 ·split at hz
  ·exact qgs hz
  ·cases hz
 ·cases hz
theorem qra {σ:Nat→Nat} (hinj:∀a b,σ a=σ b→a=b) {h h':qaa} (hl:h'.length=h.length) (hh:∀b,h'[σ b]? =(h[b]?).map (renB σ)) (hσ:σ h.length=h.length) {t:TypeId} {s x v:AVal} {f:Eff} (e:qa5 P h t s x=some (v,f)):
 ∃f',qa5 P h' t (ren σ s) (ren σ x)=some (ren σ v,f')∧((f= .same∧f'= .same)∨(∃k T,f= .heap (h++[.tok k T]) []∧f'= .heap (h'++[.tok k T]) [])∨
  ∃b n k T,h[b]? =some (.tok n T)∧f= .heap (h.set b (.tok k T)) [b]∧f'= .heap (h'.set (σ b) (.tok k T)) [σ b]):=by
 unfold qa5 at e
 split at e
 ·rename_i el es tk fs tk' hel
  split at e
  ·rename_i sz by_ z hsz hby hz
   split at e
   ·rename_i hc
    have rs:∃tk2,ren σ (.slice es tk)= .slice es tk2∧(tk= .full→tk2= .full)∧(∀b,tk= .own b→tk2= .own (σ b)):=by
     cases tk with
     |free=>exact⟨.free,rfl,(fun h=>by cases h),(fun b h=>by cases h)⟩
     |full=>exact⟨.full,rfl,(fun _=>rfl),(fun b h=>by cases h)⟩
     |zero=>exact⟨.zero,rfl,(fun h=>by cases h),(fun b h=>by cases h)⟩
     |own b=>exact⟨.own (σ b),rfl,(fun h=>by cases h),(fun c h=>by cases h;rfl)⟩
    have rx:∃tk2,ren σ (.slice fs tk')= .slice fs tk2∧(∀b,(tk'==Tk.own b)=false→(tk2==Tk.own (σ b))=false):=by
     cases tk' with
     |free=>exact⟨.free,rfl,fun b _=>rfl⟩
     |full=>exact⟨.full,rfl,fun b _=>rfl⟩
     |zero=>exact⟨.zero,rfl,fun b _=>rfl⟩
     |own c=>
      refine⟨.own (σ c),rfl,fun b hb=> ?_⟩
      simp only[beq_eq_false_iff_ne,ne_eq,Tk.own.injEq]at hb ⊢
      exact fun h=>hb (hinj _ _ h)
    obtain⟨t2,e2,f2,o2⟩:=rs
    obtain⟨t3,e3,o3⟩:=rx
    rw[e2,e3]
    unfold qa5
    simp only[hel,hsz,hby,hz,hc,if_true]
    split at e
    ·cases e;exact⟨.same,by rw[e2],.inl ⟨rfl,rfl⟩⟩
    ·split at e
     ·cases e
      rw[f2 rfl]
      exact⟨_,by simp only[ren,hσ,hl],.inr (.inl ⟨_,_,rfl,rfl⟩)⟩
     ·rename_i b
      split at e
      ·rename_i n e' hb
       split at e
       ·rename_i hcnd
        simp only[wz,decide_eq_true_eq,waa]at hcnd
        obtain⟨⟨hn,rfl⟩,ht⟩:=hcnd
        cases e
        rw[o2 b rfl]
        simp only[hh b,hb,wb,renB]
        rw[if_pos (by simp only[hn,o3 b ht];simp)]
        exact⟨_,rfl,.inr (.inr ⟨b,n,_,_,hb,rfl,rfl⟩)⟩
       ·cases e
      ·cases e
     ·cases e
     ·cases e
   ·cases e
  ·cases e
 ·cases e
theorem qrb {σ:Nat→Nat} {h h':qaa} (hl:h'.length=h.length) (hh:∀b,h'[σ b]? =(h[b]?).map (renB σ)) (hσ:σ h.length=h.length) {t:TypeId} {s x v:AVal} {f:Eff} (hx:∀fs tk,x= .slice fs tk→∀c∈fs,∀a∈c,qax a=true) (e:qco P h t s x=some (v,f)):
 ∃f',qco P h' t (ren σ s) (ren σ x)=some (ren σ v,f')∧((f= .same∧f'= .same)∨(∃y,f= .heap (h++[y]) []∧f'= .heap (h'++[renB σ y]) [])∨
  ∃b x0 y,h[b]? =some x0∧f= .heap (h.set b y) [b]∧f'= .heap (h'.set (σ b) (renB σ y)) [σ b]):=by
 unfold qco at e
 split at e
 ·rename_i el fs tk' hel
  have hpu:renL σ fs.flatten=fs.flatten:=qas _ (fun b hb=>by
   obtain⟨a,ha,hba⟩:=qes.1 hb
   obtain⟨c,hc,hac⟩:=w7.1 ha
   have:=hx fs tk' rfl c hc a hac
   unfold qax at this
   simp only[wz]at this
   have h0:refs a=[]:=by simpa using this.2
   rw[h0]at hba;cases hba)
  have rx:∃tk2,ren σ (.slice fs tk')= .slice fs tk2:=by cases tk'<;>exact⟨_,rfl⟩
  obtain⟨t3,e3⟩:=rx
  split at e
  ·rename_i sz by_ z hsz hby hz
   split at e
   ·rename_i hc
    rw[e3]
    unfold qco
    simp only[hel,hsz,hby,hz,hc,if_true]
    split at e
    ·rename_i es
     split at e
     ·rename_i hc2
      cases e
      simp only[ren]
      rw[if_pos hc2,hl,hσ]
      exact⟨_,rfl,.inr (.inl ⟨_,rfl,by simp only[renB,hpu]⟩)⟩
     ·cases e
    ·rename_i es b
     split at e
     ·rename_i n e' hb
      split at e
      ·rename_i hc2
       cases e
       simp only[ren,hh b,hb,wb,renB]
       rw[if_pos hc2]
       exact⟨_,rfl,.inr (.inr ⟨b,_,_,hb,rfl,by simp only[renB,hpu]⟩)⟩
      ·cases e
     ·cases e
    ·rename_i es b n m
     split at e
     ·rename_i p cs l e' hb
      split at e
      ·rename_i hc2
       simp only[ren,hh b,hb,wb,renB]
       rw[if_pos hc2]
       split at e
       ·rename_i hmn
        cases e
        rw[if_pos hmn]
        exact⟨_,rfl,.inr (.inr ⟨b,_,_,hb,rfl,by simp only[renB,qen,wda];rw[←qen σ fs.flatten,hpu]⟩)⟩
       ·rename_i hmn
        rw[if_neg hmn]
        split at e
        ·rename_i hmf
         rw[if_pos hmf]
         split at e
         ·rename_i cs' hset
          cases e
          have hset':qaj (renL σ cs) (m*(sz+1)-p) fs.flatten=some (renL σ cs'):=by
           have:=qdy σ cs (m*(sz+1)-p) fs.flatten
           rw[hpu,hset]at this
           exact this
          rw[hset']
          exact⟨_,rfl,.inr (.inr ⟨b,_,_,hb,rfl,rfl⟩)⟩
         ·cases e
        ·cases e
      ·cases e
     ·cases e
    ·cases e
   ·rename_i hc
    rw[e3]
    unfold qco
    simp only[hel,hsz,hby,hz,hc,if_false]
    unfold qhs at e
    split at e
    ·cases e
     exact⟨_,rfl,.inl ⟨rfl,rfl⟩⟩
    ·cases e
  ·cases e
 ·cases e
theorem toM_ren (σ:Nat→Nat) (s x:AVal):toM (ren σ s) (ren σ x)=toM s x:=by
 unfold toM
 congr 1
 ·cases s with
  |slice es tk=>cases tk<;>rfl
  |_=>rfl
 ·cases x with
  |slice es tk=>cases tk<;>rfl
  |_=>rfl
theorem useM_ren (σ:Nat→Nat) (b:Bool) (s x:AVal):useM b (ren σ s) (ren σ x)=useM b s x:=by
 unfold useM
 rw[toM_ren]
 congr 2
 congr 1
 ·cases s with
  |slice es tk=>cases tk<;>rfl
  |_=>rfl
 ·cases x with
  |slice es tk=>cases es<;>cases tk<;>rfl
  |_=>rfl
theorem qrc {σ:Nat→Nat} {bb:Bool} (hinj:∀a b,σ a=σ b→a=b) {h h':qaa} (hl:h'.length=h.length) (hh:∀b,h'[σ b]? =(h[b]?).map (renB σ)) (hσ:σ h.length=h.length) {t:TypeId} {s x v:AVal} {f:Eff} (hx:∀fs tk,x= .slice fs tk→∀c∈fs,∀a∈c,qax a=true) (e:qbo P bb h t s x=some (v,f)):
 ∃f',qbo P bb h' t (ren σ s) (ren σ x)=some (ren σ v,f')∧((f= .same∧f'= .same)∨(∃y,f= .heap (h++[y]) []∧f'= .heap (h'++[renB σ y]) [])∨
  ∃b x0 y,h[b]? =some x0∧f= .heap (h.set b y) [b]∧f'= .heap (h'.set (σ b) (renB σ y)) [σ b]):=by
 have hA:∀{v f},qa5 P h t s x=some (v,f)→∃f',qa5 P h' t (ren σ s) (ren σ x)=some (ren σ v,f')∧((f= .same∧f'= .same)∨(∃y,f= .heap (h++[y]) []∧f'= .heap (h'++[renB σ y]) [])∨
  ∃b x0 y,h[b]? =some x0∧f= .heap (h.set b y) [b]∧f'= .heap (h'.set (σ b) (renB σ y)) [σ b]):=by
  intro v f e
  obtain⟨f',h1,h2⟩:=qra hinj hl hh hσ e
  refine⟨f',h1,?_⟩
  rcases h2 with h2|⟨k,T,h2,h3⟩|⟨b,n,k,T,h2,h3,h4⟩
  ·exact .inl h2
  ·exact .inr (.inl ⟨_,h2,h3⟩)
  ·exact .inr (.inr ⟨b,_,_,h2,h3,h4⟩)
 unfold qbo at e ⊢
 rw[useM_ren]
 split at e
 ·rename_i h;rw[if_pos h];exact qrb hl hh hσ hx e
 ·rename_i h;rw[if_neg h];exact hA e
theorem qk1 {dst:Option Tmp} {args:Array Operand} {ats:Array TypeId} {type:TypeId} {pos:String} {after:Array Edge} {guard:Option (Nat×Bool)} (h:(ats[1]? ==ats[0]?)=true):cls ⟨dst,.call { callee:= .builtin .append,args:=args,argTypes:=ats },type,pos,after,guard⟩=2:=by
 simp only[cls];rw[if_pos h]
theorem qil {o:Oper} {ts:List AVal} {h:qaa} {v:AVal} {f:Eff} (ha:qde o=true) (e:opA P cmp call o ts h=some (.val v f)):
 ∃args ats x y t,o.op= .call { callee:= .builtin .append,args:=args,argTypes:=ats }∧qao ts args.toList=some [x,y]∧ats[0]? =some t∧(ats[1]? ==some t)=true∧qbo P (bigM cmp) h t x y=some (v,f):=by
 obtain⟨dst,op,type,pos,after,guard⟩:=o
 cases op with
 |call r=>
  obtain⟨callee,args,ats⟩:=r
  cases callee with
  |builtin b=>
   cases b with
   |append=>
    simp only[opA]at e
    split at e
    ·rename_i x t hx ht
     simp at e
    ·rename_i x y t hx ht
     split at e
     ·rename_i h1
      split at e
      ·rename_i a g hg
       cases e
       exact⟨args,ats,x,y,t,rfl,hx,ht,h1,hg⟩
      ·cases e
     ·rename_i hne
      exfalso
      simp only[qde]at ha
      rw[ht]at ha
      exact hne ha
    ·cases e
   |_=>simp[qde]at ha
  |_=>simp[qde]at ha
 |_=>simp[qde]at ha
theorem ql2 {o:Oper} {ts:List AVal} {h:qaa} {v:AVal} {f:Eff} {args:Array Operand} {ats:Array TypeId} {x y:AVal} {t:TypeId} (ho:o.op= .call { callee:= .builtin .append,args:=args,argTypes:=ats }) (hx:qao ts args.toList=some [x,y]) (ht:ats[0]? =some t) (h1:(ats[1]? ==some t)=true) (hg:qbo P (bigM cmp) h t x y=some (v,f)):
 opA P cmp call o ts h=some (.val v f):=by
 obtain⟨dst,op,type,pos,after,guard⟩:=o
 simp only at ho
 subst ho
 simp only[opA,hx,ht,h1,if_true,hg]
inductive OkA:AVal→Prop where
 |undef:OkA .undef
 |bool (b:Bool):OkA (.bool b)
 |int (k:IntKind) (n:Int):OkA (.int k n)
 |str (s:List UInt8):OkA (.str s)
 |nilp:OkA .nilp
 |ptr (b o:Nat):OkA (.ptr b o)
 |eptr (cs:List AVal) (o:Nat):(∀a∈cs,qax a=true)→(∀a∈cs,OkA a)→OkA (.eptr cs o)
 |slice (es:List (List AVal)) (tk:Tk):(∀c∈es,∀a∈c,qax a=true)→(∀c∈es,∀a∈c,OkA a)→OkA (.slice es tk)
 |ms (es:List (List AVal)) (b n m:Nat):(∀c∈es,∀a∈c,qax a=true)→(∀c∈es,∀a∈c,OkA a)→OkA (.ms es b n m)
 |mptr (b o n:Nat):OkA (.mptr b o n)
 |mref (b:Nat):OkA (.mref b)
 |nilm:OkA .nilm
 |func (f:FuncId) (a b:List AVal):(∀x∈a,OkA x)→(∀x∈b,OkA x)→OkA (.func f a b)
 |nilf:OkA .nilf
 |iface (t:TypeId) (v:AVal):OkA v→OkA (.iface t v)
 |nili:OkA .nili
 |agg (cs:List AVal):(∀a∈cs,OkA a)→OkA (.agg cs)
 |tuple (cs:List AVal):(∀a∈cs,OkA a)→OkA (.tuple cs)
theorem okA_of {S:Sh} {a:AVal} {v:Value} (k:VR S a v):OkA a:=by
 induction k with
 |undef=>exact .undef
 |bool b=>exact .bool b
 |int k n=>exact .int k n
 |str s l e=>exact .str l
 |nilp=>exact .nilp
 |ptr b o r e=>exact .ptr b o
 |eptr cs o r o0 vs h1 hp _ ih=>
  refine .eptr cs o hp (fun a ha=> ?_)
  obtain⟨j,hj,rfl⟩:=we ha
  exact ih j _ (wd hj)
 |slice es tk ad n cap esz vs hn hc hcm hsp hsz h1 hp _ ht ih=>
  refine .slice es tk hp (fun c hc a ha=> ?_)
  obtain⟨i,hi,rfl⟩:=we hc
  obtain⟨j,hj,rfl⟩:=we ha
  exact ih i _ j _ (wd hi) (wd hj)
 |snil tk e=>exact .slice [] tk (fun c hc=>by cases hc) (fun c hc=>by cases hc)
 |ms es b n m ad cap _ hn hm hc hcm ht hsp ih=>
  cases ih with
  |slice _ _ h1 h2=>exact .ms es b n m h1 h2
 |mptr b o n r o' e=>exact .mptr b o n
 |mref b r e=>exact .mref b
 |nilm=>exact .nilm
 |func f a b x y hx hy _ _ i1 i2=>
  refine .func f a b (fun u hu=> ?_) (fun u hu=> ?_)
  ·obtain⟨j,hj,rfl⟩:=we hu
   exact i1 j _ x[j] (wd hj) (wl (by omega))
  ·obtain⟨j,hj,rfl⟩:=we hu
   exact i2 j _ y[j] (wd hj) (wl (by omega))
 |nilf=>exact .nilf
 |iface t a v _ ih=>exact .iface t a ih
 |nili=>exact .nili
 |agg a x hx _ ih=>
  refine .agg a (fun u hu=> ?_)
  obtain⟨j,hj,rfl⟩:=we hu
  exact ih j _ x[j] (wd hj) (wl (by omega))
 |tuple a x hx _ ih=>
  refine .tuple a (fun u hu=> ?_)
  obtain⟨j,hj,rfl⟩:=we hu
  exact ih j _ x[j] (wd hj) (wl (by omega))
theorem refsL_mem {l:List AVal} {b:Nat} (h:b∈qag l):∃v∈l,b∈refs v:=by
 induction l with
 |nil=>simp[qag]at h
 |cons x r ih=>
  simp only[qag,wv]at h
  rcases h with h|h
  ·exact⟨x,by simp,h⟩
  ·obtain⟨v,hv,hb⟩:=ih h
   exact⟨v,by simp[hv],hb⟩
theorem qeo {l:List AVal} {n:Nat} (h:∀v∈l,∀b∈refs v,b<n):∀b∈qag l,b<n:=fun b hb=>by
 obtain⟨v,hv,hb⟩:=refsL_mem hb
 exact h v hv b hb
theorem refs_lt [Tabs P] {S:Sh} {h:qaa} {w:World} (k:WR P S h w) {a:AVal} {v:Value} (r:VR S a v):∀b∈refs a,b<h.length:=by
 induction r with
 |ptr b o r e=>intro c hc;simp only[refs,wg,wi,or_false]at hc;subst hc;exact(k.lt e).1
 |slice es tk ad n cap esz vs hn hc hcm hsp hsz h1 hp _ ht ih=>
  cases tk with
  |free=>intro c hc;simp[refs]at hc
  |full=>intro c hc;simp[refs]at hc
  |zero=>intro c hc;simp[refs]at hc
  |own t=>
   intro c hc
   simp only[refs,wg,wi,or_false]at hc;subst hc
   obtain⟨r,c,l,t1,_⟩:=ht
   exact(k.ltτ t1).1
 |snil tk e=>intro c hc;rcases e with rfl|rfl<;>simp[refs]at hc
 |ms es b n m ad cap _ hn hm hc hcm ht hsp ih=>
  intro c hc'
  simp only[refs,wg,wi,or_false]at hc';subst hc'
  obtain⟨r,c,l,t1,_⟩:=ht
  exact(k.ltτ t1).1
 |mptr b o n r o' e=>
  intro c hc'
  simp only[refs,wg,wi,or_false]at hc';subst hc'
  obtain⟨r,c,l,t1,_⟩:=e
  exact(k.ltτ t1).1
 |mref b r e=>intro c hc;simp only[refs,wg,wi,or_false]at hc;subst hc;exact(k.lt e).1
 |func f a b x y hx hy _ _ i1 i2=>
  intro c hc
  simp only[refs,wv]at hc
  rcases hc with hc|hc
  ·refine qeo (fun u hu=> ?_) c hc
   obtain⟨j,hj,rfl⟩:=we hu
   exact i1 j _ x[j] (wd hj) (wl (by omega))
  ·refine qeo (fun u hu=> ?_) c hc
   obtain⟨j,hj,rfl⟩:=we hu
   exact i2 j _ y[j] (wd hj) (wl (by omega))
 |iface t a v _ ih=>intro c hc;exact ih c (by simpa[refs]using hc)
 |agg a x hx _ ih=>
  intro c hc
  simp only[refs]at hc
  refine qeo (fun u hu=> ?_) c hc
  obtain⟨j,hj,rfl⟩:=we hu
  exact ih j _ x[j] (wd hj) (wl (by omega))
 |tuple a x hx _ ih=>
  intro c hc
  simp only[refs]at hc
  refine qeo (fun u hu=> ?_) c hc
  obtain⟨j,hj,rfl⟩:=we hu
  exact ih j _ x[j] (wd hj) (wl (by omega))
 |_=>intro c hc;simp[refs]at hc
def WfA (n:Nat) (v:AVal):Prop:=OkA v∧∀b∈refs v,b<n
def qn3:Blk→List AVal
 | .box cs=>cs
 | .tok .. =>[]
 | .arr _ cs _ _=>cs
 | .map ks vs=>ks++vs
structure Wf (s:St):Prop where
 t:∀v∈s.tmps,WfA s.heap.length v
 h:∀(b:Nat) (x:Blk),s.heap[b]? =some x→∀v∈qn3 x,WfA s.heap.length v
theorem WfA.weak {n m:Nat} {v:AVal} (h:WfA n v) (k:n≤m):WfA m v:=⟨h.1,fun b hb=>Nat.lt_of_lt_of_le (h.2 b hb) k⟩
theorem WfA.pure {n:Nat} {v:AVal} (h:OkA v) (p:qax v=true):WfA n v:=by
 refine⟨h,fun b hb=> ?_⟩
 unfold qax at p
 simp only[wz]at p
 have:refs v=[]:=by simpa using p.2
 rw[this]at hb;cases hb
theorem wf_of [Tabs P] {S:Sh} {w:World} {s:St} {x:List Value} (k:WR P S s.heap w) (ht:VRl S s.tmps x):Wf s where
 t v hv:=by
  obtain⟨j,hj,rfl⟩:=we hv
  obtain⟨u,_,hr⟩:=ht.get (wd hj)
  exact⟨okA_of hr,refs_lt k hr⟩
 h b x hb v hv:=by
  have go:∀{l:List AVal} {X:List Value},VRl S l X→v∈l→WfA s.heap.length v:=by
   intro l X hl hv
   obtain⟨j,hj,rfl⟩:=we hv
   obtain⟨u,_,hr⟩:=hl.get (wd hj)
   exact⟨okA_of hr,refs_lt k hr⟩
  cases x with
  |box cs=>obtain⟨r,C,T,_,_,hl,_⟩:=k.box b cs hb;exact go hl hv
  |tok len e=>cases hv
  |arr p cs len e=>obtain⟨r,cap,C,i,_,_,_,_,_,_,_,_,hl,_⟩:=k.arr b p cs len e hb;exact go hl hv
  |map ks vs=>
   obtain⟨r,E,q,_,_,h1,h2,_⟩:=k.map b ks vs hb
   rcases wv.1 hv with hv|hv
   ·exact go h1 hv
   ·exact go h2 hv
theorem qpw {v:Value} {a:AVal} (h:ofV0 v=some a):OkA a:=by
 unfold ofV0 at h
 split at h<;>cases h
 ·exact .bool _
 ·exact .int _ _
 ·exact .str _
 ·exact .nilp
 ·exact .slice [] .full (fun c hc=>by cases hc) (fun c hc=>by cases hc)
 ·exact .nilf
 ·exact .nili
 ·exact .nilm
theorem qmi:∀{l:List Value} {as:List AVal},ofVs l=some as→∀a∈as,OkA a
 |[],as,h=>by cases h;intro a ha;cases ha
 |v::r,as,h=>by
  simp only[ofVs]at h
  split at h
  ·rename_i a l h1 h2
   cases h
   intro b hb
   rcases wg.1 hb with rfl|hb
   ·exact qpw h1
   ·exact qmi h2 b hb
  ·cases h
theorem okA_ofV {v:Value} {a:AVal} (h:ofV v=some a):OkA a:=by
 unfold ofV at h
 split at h
 ·cases hh:ofVs _ with
  |none=>rw[hh]at h;cases h
  |some l=>rw[hh]at h;cases h;exact .agg _ (qmi hh)
 ·cases hh:ofVs _ with
  |none=>rw[hh]at h;cases h
  |some l=>rw[hh]at h;cases h;exact .tuple _ (qmi hh)
 ·exact qpw h
theorem qju {n:Nat} {v:Value} {a:AVal} (h:ofV v=some a):WfA n a:=⟨okA_ofV h,fun b hb=>by rw[qgs h]at hb;cases hb⟩
theorem qbn {s:St} (w:Wf s) {x:Operand} {a:AVal} (h:qab x s.tmps=some a):WfA s.heap.length a:=by
 cases x with
 |tmp t=>exact w.t a (wo h)
 |const v=>exact qju h
 |func f=>cases h;exact⟨.func f [] [] (fun x hx=>by cases hx) (fun x hx=>by cases hx),fun b hb=>by simp[refs,qag]at hb⟩
 | «global» g=>cases h
theorem qim {n:Nat} {v:AVal} (h:WfA n v):∀u∈v.cells,WfA n u:=by
 intro u hu
 cases v with
 |agg cs=>
  obtain⟨h1,h2⟩:=h
  cases h1 with
  |agg _ h1=>exact⟨h1 u hu,fun b hb=>h2 b (by
   simp only[refs]
   have hu':u∈cs:=hu
   clear hu h2 h1
   induction cs with
   |nil=>cases hu'
   |cons x r ih=>
    simp only[qag,wv]
    rcases wg.1 hu' with rfl|hu'
    ·exact .inl hb
    ·exact .inr (ih hu'))⟩
 |_=>simp only[AVal.cells,wg,wi,or_false]at hu;subst hu;exact h
theorem qk2 {n:Nat} {t:TypeId} {cs:List AVal} {off:Nat} {v:AVal} (h:∀u∈cs,WfA n u) (e:qby P t cs off=some v):WfA n v:=by
 unfold qby at e
 split at e
 ·simp only at e
  split at e
  ·cases e
   refine⟨.agg _ (fun a ha=>(h a (w6 (w9 ha))).1),fun b hb=> ?_⟩
   simp only[refs]at hb
   exact qeo (fun u hu=>(h u (w6 (w9 hu))).2) b hb
  ·cases e
 ·exact h v (wo e)
 ·cases e
theorem qec {n:Nat}:∀{cs:List AVal} {off:Nat} {vs cs':List AVal},(∀u∈cs,WfA n u)→(∀u∈vs,WfA n u)→qaj cs off vs=some cs'→∀u∈cs',WfA n u
 |cs,0,vs,cs',h,k,e=>by
  have e1:qaj cs 0 vs=if vs.length≤cs.length then some (vs++cs.drop vs.length)else none:=by cases cs<;>rfl
  rw[e1]at e
  split at e
  ·cases e
   intro u hu
   rcases wv.1 hu with hu|hu
   ·exact k u hu
   ·exact h u (w6 hu)
  ·cases e
 |c::cs,off+1,vs,cs',h,k,e=>by
  simp only[qaj]at e
  cases hs:qaj cs off vs with
  |none=>rw[hs]at e;cases e
  |some l=>
   rw[hs]at e;cases e
   intro u hu
   rcases wg.1 hu with rfl|hu
   ·exact h _ (by simp)
   ·exact qec (fun u hu=>h u (by simp[hu])) k hs u hu
 |[],off+1,vs,cs',_,_,e=>by cases e
theorem qfw {n:Nat} {ts:List AVal} {d:Option Tmp} {v:AVal} (h:∀u∈ts,WfA n u) (hv:WfA n v):∀u∈setT ts d v,WfA n u:=by
 intro u hu
 cases d with
 |none=>exact h u hu
 |some d=>
  rcases List.mem_or_eq_of_mem_set hu with hu|rfl
  ·exact h u hu
  ·exact hv
theorem qpx {s:St} (w:Wf s) {l:List Operand} {x y:AVal} (hx:qao s.tmps l=some [x,y]):∀fs tk,y= .slice fs tk→∀c∈fs,∀a∈c,qax a=true:=by
 intro fs tk hy
 subst hy
 have hy1:WfA s.heap.length (.slice fs tk):=by
  cases hl:l with
  |nil=>rw[hl]at hx;cases hx
  |cons o1 r1=>
   rw[hl]at hx
   simp only[qao]at hx
   cases h2:qab o1 s.tmps with
   |none=>rw[h2]at hx;cases hx
   |some a1=>
    cases r1 with
    |nil=>rw[h2]at hx;simp[qao]at hx
    |cons o2 r2=>
     simp only[qao]at hx
     cases h3:qab o2 s.tmps with
     |none=>rw[h2,h3]at hx;cases hx
     |some a2=>
      cases h4:qao s.tmps r2 with
      |none=>rw[h2,h3,h4]at hx;cases hx
      |some l=>rw[h2,h3,h4]at hx;cases hx;exact qbn w h3
 cases hy1.1 with
 |slice _ _ h1 _=>exact h1
theorem qmj {ops:List Oper} {j:Nat} {o:Oper} {s t:St} (ho:ops[j]? =some o) (hp:qa8 o=true) (w:Wf s) {f:Eff} (e:qeh P cmp call ops j s t f):Wf t:=by
 obtain⟨o',ho',hc⟩:=e
 rw[ho]at ho';cases ho'
 rcases hc with⟨wx,v,ov,rfl⟩|⟨wx,rfl,rfl⟩
 ·have same:∀u:AVal,WfA s.heap.length u→f= .same→v=u→Wf ⟨setT s.tmps o.dst v,f.of s.heap,f.dirt++s.dirty⟩:=by
   rintro u hu rfl rfl
   exact⟨qfw w.t hu,w.h⟩
  obtain⟨dst,op,type,pos,after,guard⟩:=o
  cases op with
  |alloc ty=>
   simp only[opA]at ov
   split at ov
   ·rename_i z hz
    cases ov
    have hz':∀u∈z.cells,WfA (s.heap.length+1) u:=by
     unfold qal at hz
     split at hz
     ·split at hz
      ·exact qim (qju hz)
      ·cases hz
     ·cases hz
    refine⟨?_,?_⟩
    ·simp only[Eff.of,wk,wu,ww]
     refine qfw (fun u hu=>(w.t u hu).weak (by omega)) ⟨.ptr _ _,fun b hb=> ?_⟩
     simp only[refs,wg,wi,or_false]at hb;omega
    ·intro b cs hb
     simp only[Eff.of,wk,wu,ww]at hb ⊢
     by_cases hlt:b<s.heap.length
     ·rw[wc hlt]at hb
      exact fun u hu=>(w.h b cs hb u hu).weak (by omega)
     ·rw[wa (by omega)]at hb
      have:=wo hb
      simp only[wg,wi,or_false]at this
      subst this
      exact hz'
   ·cases ov
  |move x=>
   simp only[opA]at ov
   cases hc:qab x s.tmps with
   |none=>rw[hc]at ov;cases ov
   |some a=>rw[hc]at ov;cases ov;exact same _ (qbn w hc) rfl rfl
  |fieldAddr ty x k=>
   simp only[opA]at ov
   split at ov
   ·rename_i off ft b o hfp hcx
    cases ov
    have:=qbn w hcx
    exact same _ ⟨.ptr _ _,fun c hc=>this.2 c (by simpa[refs]using hc)⟩ rfl rfl
   ·rename_i off ft cs o hfp hcx
    cases ov
    have:=qbn w hcx
    refine same _ ⟨?_,fun c hc=>by simp[refs]at hc⟩ rfl rfl
    cases this.1 with
    |eptr _ _ h1 h2=>exact .eptr cs _ h1 h2
   ·rename_i off ft b o n hfp hcx
    cases ov
    have:=qbn w hcx
    exact same _ ⟨.mptr _ _ _,fun c hc=>this.2 c (by simpa[refs]using hc)⟩ rfl rfl
   ·cases ov
  |load ty x=>
   simp only[opA]at ov
   split at ov
   ·rename_i p hcx
    split at ov
    ·rename_i u hu
     cases ov
     have hpw:=qbn w hcx
     unfold qck at hu
     split at hu
     ·split at hu
      ·rename_i hb
       exact same _ (qk2 (w.h _ _ hb) hu) rfl rfl
      ·cases hu
     ·rename_i cs off
      cases hpw.1 with
      |eptr _ _ h1 h2=>exact same _ (qk2 (fun a ha=>WfA.pure (h2 a ha) (h1 a ha)) hu) rfl rfl
     ·split at hu
      ·rename_i hb
       split at hu
       ·exact same _ (qk2 (w.h _ _ hb) hu) rfl rfl
       ·cases hu
      ·cases hu
     ·cases hu
    ·cases ov
   ·cases ov
  |indexAddr ty x y=>
   simp only[opA]at ov
   split at ov
   ·rename_i el es tk k n hu hcx hcy
    split at ov
    ·rename_i cs sz hes hsz
     split at ov
     ·cases ov
      have:=qbn w hcx
      cases this.1 with
      |slice _ _ h1 h2=>
       have hm:=wo hes
       exact same _ ⟨.eptr cs 0 (h1 cs hm) (h2 cs hm),fun c hc=>by simp[refs]at hc⟩ rfl rfl
     ·cases ov
    ·cases ov
   ·rename_i el es b q m k n hu hcx hcy
    have:=qbn w hcx
    split at ov
    ·split at ov
     ·split at ov
      ·rename_i cs hes
       split at ov
       ·cases ov
        cases this.1 with
        |ms _ _ _ _ h1 h2=>
         have hm:=wo hes
         exact same _ ⟨.eptr cs 0 (h1 cs hm) (h2 cs hm),fun c hc=>by simp[refs]at hc⟩ rfl rfl
       ·cases ov
      ·cases ov
       exact same _ ⟨.mptr _ _ _,fun c hc=>this.2 c (by simpa[refs]using hc)⟩ rfl rfl
     ·cases ov
    ·cases ov
   ·rename_i len el b o k n hu hcx hcy
    split at ov
    ·split at ov
     ·cases ov
      have:=qbn w hcx
      exact same _ ⟨.ptr _ _,fun c hc=>this.2 c (by simpa[refs]using hc)⟩ rfl rfl
     ·cases ov
    ·cases ov
   ·cases ov
  |store ty a x=>
   simp only[opA]at ov
   split at ov
   ·rename_i p u hp hu
    split at ov
    ·rename_i h1 b1 hst
     cases ov
     have huw:=qim (qbn w hu)
     have put:∀(b:Nat) (x0 y:Blk),s.heap[b]? =some x0→(∀v∈qn3 y,WfA s.heap.length v)→Wf ⟨setT s.tmps dst .undef,Eff.of s.heap (.heap (s.heap.set b y) [b]),Eff.dirt (.heap (s.heap.set b y) [b])++s.dirty⟩:=by
      intro b x0 y hb hcs
      refine⟨?_,?_⟩
      ·simp only[Eff.of,wm]
       exact qfw w.t ⟨.undef,fun c hc=>by simp[refs]at hc⟩
      ·intro c y2 hc
       simp only[Eff.of,wm]at hc ⊢
       by_cases hbc:b=c
       ·subst hbc
        have hlt:=(wh.1 hb).1
        rw[wj hlt]at hc
        cases hc;exact hcs
       ·rw[wt hbc]at hc
        exact w.h c y2 hc
     unfold qbv at hst
     split at hst
     ·rename_i b off
      split at hst
      ·rename_i cs n hb hn
       split at hst
       ·cases hset:qaj cs off u.cells with
        |none=>rw[hset]at hst;cases hst
        |some cs'=>
         rw[hset]at hst
         simp only[wb,Option.some.injEq,wga.injEq]at hst
         obtain⟨rfl,rfl⟩:=hst
         exact put _ _ _ hb (qec (w.h b _ hb) huw hset)
       ·cases hst
      ·cases hst
     ·rename_i b off k
      split at hst
      ·rename_i p cs l e0 n hb hn
       split at hst
       ·split at hst
        ·cases hset:qaj cs (off-p) u.cells with
         |none=>rw[hset]at hst;cases hst
         |some cs'=>
          rw[hset]at hst
          simp only[wb,Option.some.injEq,wga.injEq]at hst
          obtain⟨rfl,rfl⟩:=hst
          exact put _ _ _ hb (qec (w.h b _ hb) huw hset)
        ·cases hst
       ·cases hst
      ·cases hst
     ·cases hst
    ·cases ov
   ·cases ov
  |build ty ps=>
   have key:∀(pl:Nat→Option (Nat×Nat)) (l:List (Nat×AVal)) (z c:List AVal),(∀u∈z,WfA s.heap.length u)→(∀p∈l,WfA s.heap.length p.2)→qa3 pl z l=some c→∀u∈c,WfA s.heap.length u:=by
    intro pl l
    induction l with
    |nil=>intro z c hz _ e;cases e;exact hz
    |cons p l ih=>
     obtain⟨i,v⟩:=p
     intro z c hz hl e
     simp only[qa3]at e
     split at e
     ·cases e
     ·split at e
      ·split at e
       ·rename_i cs hset
        exact ih cs c (qec hz (qim (hl (i,v) (by simp))) hset) (fun p hp=>hl p (by simp[hp])) e
       ·cases e
      ·cases e
   have hparts:∀(l:List (Nat×Operand)) (r:List (Nat×AVal)),qau s.tmps l=some r→∀p∈r,WfA s.heap.length p.2:=by
    intro l
    induction l with
    |nil=>intro r e;cases e;intro p hp;cases hp
    |cons q l ih=>
     obtain⟨i,o⟩:=q
     intro r e
     simp only[qau]at e
     cases hc:qab o s.tmps with
     |none=>rw[hc]at e;cases e
     |some a=>
      cases hr:qau s.tmps l with
      |none=>rw[hc,hr]at e;cases e
      |some r'=>
       rw[hc,hr]at e
       cases e
       intro p hp
       rcases wg.1 hp with rfl|hp
       ·exact qbn w hc
       ·exact ih r' hr p hp
   have agg:∀c:List AVal,(∀u∈c,WfA s.heap.length u)→WfA s.heap.length (.agg c):=fun c hc=>⟨.agg c (fun a ha=>(hc a ha).1),fun b hb=>by simp only[refs]at hb;exact qeo (fun v hv=>(hc v hv).2) b hb⟩
   have zw:∀{z:List AVal},qal P ty=some (.agg z)→∀u∈z,WfA s.heap.length u:=fun hz=>by
    unfold qal at hz
    split at hz
    ·split at hz
     ·exact qim (qju hz)
     ·cases hz
    ·cases hz
   simp only[opA]at ov
   split at ov
   ·rename_i z fs pl hz hu hpl
    split at ov
    ·split at ov
     ·rename_i u hu2
      rw[w8]at hu2
      obtain⟨c,hf,rfl⟩:=hu2
      cases ov
      exact same _ (agg c (key _ _ _ _ (zw hz) (hparts _ _ hpl) hf)) rfl rfl
     ·cases ov
    ·cases ov
   ·rename_i z len el pl hz hu hpl
    cases hs:qai P el with
    |none=>rw[hs]at ov;cases ov
    |some sz=>
     rw[hs]at ov
     simp only at ov
     cases hf:qa3 (fun i=>some (i*sz,sz)) z pl with
     |none=>rw[hf]at ov;cases ov
     |some c=>
      rw[hf]at ov
      cases ov
      exact same _ (agg c (key _ _ _ _ (zw hz) (hparts _ _ hpl) hf)) rfl rfl
   ·cases ov
  |call r=>
   have hia:qde ⟨dst,.call r,type,pos,after,guard⟩=true:=by
    obtain⟨callee,args,ats⟩:=r
    cases callee with
    |builtin b=>cases b<;>first|rfl|exact hp|(simp[qa8,qa4]at hp)
    |_=>simp[qa8,qa4]at hp
   obtain⟨args,ats,x,y,t0,hop,hx,ht,h1,hg⟩:=qil hia ov
   have hxy:WfA s.heap.length x∧WfA s.heap.length y:=by
    cases hl:args.toList with
    |nil=>rw[hl]at hx;cases hx
    |cons o1 r1=>
     rw[hl]at hx
     simp only[qao]at hx
     cases h2:qab o1 s.tmps with
     |none=>rw[h2]at hx;cases hx
     |some a1=>
      cases r1 with
      |nil=>rw[h2]at hx;simp[qao]at hx
      |cons o2 r2=>
       simp only[qao]at hx
       cases h3:qab o2 s.tmps with
       |none=>rw[h2,h3]at hx;cases hx
       |some a2=>
        cases h4:qao s.tmps r2 with
        |none=>rw[h2,h3,h4]at hx;cases hx
        |some l=>rw[h2,h3,h4]at hx;cases hx;exact⟨qbn w h2,qbn w h3⟩
   obtain⟨hx1,hy1⟩:=hxy
   unfold qbo at hg
   split at hg
   ·rename_i hto
    clear hto
    unfold qco at hg
    split at hg
    ·rename_i el fs tk' hel
     have hfl:∀n,∀v∈fs.flatten,WfA n v:=fun n v hv=>by
      obtain⟨c,hc,hac⟩:=w7.1 hv
      cases hy1.1 with
      |slice _ _ q1 q2=>exact WfA.pure (q2 c hc v hac) (q1 c hc v hac)
     have add:∀(es:List (List AVal)) (b n p:Nat) (e:TypeId),(OkA (.ms es b n n))→b=s.heap.length→Wf ⟨setT s.tmps dst (.ms es b n n),Eff.of s.heap (.heap (s.heap++[.arr p fs.flatten n e]) []),Eff.dirt (.heap (s.heap++[.arr p fs.flatten n e]) [])++s.dirty⟩:=by
      intro es b n p e ho hb0
      subst hb0
      refine⟨?_,?_⟩
      ·simp only[Eff.of,wk,wu,ww]
       exact qfw (fun u hu=>(w.t u hu).weak (by omega)) ⟨ho,fun b hb=>by simp only[refs,wg,wi,or_false]at hb;omega⟩
      ·intro b x hb
       simp only[Eff.of,wk,wu,ww]at hb ⊢
       by_cases hlt:b<s.heap.length
       ·rw[wc hlt]at hb
        exact fun u hu=>(w.h b x hb u hu).weak (by omega)
       ·rw[wa (by omega)]at hb
        have:=wo hb
        simp only[wg,wi,or_false]at this
        subst this
        exact fun u hu=>hfl _ u hu
     have put:∀(es:List (List AVal)) (b n m p q:Nat) (cs:List AVal) (e:TypeId) (x0:Blk),OkA (.ms es b n m)→s.heap[b]? =some x0→(∀v∈cs,WfA s.heap.length v)→Wf ⟨setT s.tmps dst (.ms es b n m),Eff.of s.heap (.heap (s.heap.set b (.arr p cs q e)) [b]),Eff.dirt (.heap (s.heap.set b (.arr p cs q e)) [b])++s.dirty⟩:=by
      intro es b n m p q cs e x0 ho hb hcs
      have hlt:=(wh.1 hb).1
      refine⟨?_,?_⟩
      ·simp only[Eff.of,wm]
       exact qfw w.t ⟨ho,fun c hc=>by simp only[refs,wg,wi,or_false]at hc;omega⟩
      ·intro c y2 hc
       simp only[Eff.of,wm]at hc ⊢
       by_cases hbc:b=c
       ·subst hbc
        rw[wj hlt]at hc
        cases hc;exact hcs
       ·rw[wt hbc]at hc
        exact w.h c y2 hc
     split at hg
     ·split at hg
      ·split at hg
       ·split at hg
        ·cases hg
         refine add _ _ _ _ _ ?_ rfl
         cases hx1.1 with
         |slice _ _ p1 p2=>exact .ms _ _ _ _ p1 p2
        ·cases hg
       ·split at hg
        ·rename_i hb
         split at hg
         ·cases hg
          refine put _ _ _ _ _ _ _ _ _ ?_ hb (hfl _)
          cases hx1.1 with
          |slice _ _ p1 p2=>exact .ms _ _ _ _ p1 p2
         ·cases hg
        ·cases hg
       ·split at hg
        ·rename_i hb
         split at hg
         ·split at hg
          ·cases hg
           refine put _ _ _ _ _ _ _ _ _ ?_ hb (fun v hv=> ?_)
           ·cases hx1.1 with
            |ms _ _ _ _ p1 p2=>exact .ms _ _ _ _ p1 p2
           ·rcases wv.1 hv with hv|hv
            ·exact w.h _ _ hb v hv
            ·exact hfl _ v hv
          ·split at hg
           ·split at hg
            ·rename_i cs' hset
             cases hg
             refine put _ _ _ _ _ _ _ _ _ ?_ hb (qec (w.h _ _ hb) (hfl _) hset)
             cases hx1.1 with
             |ms _ _ _ _ p1 p2=>exact .ms _ _ _ _ p1 p2
            ·cases hg
           ·cases hg
         ·cases hg
        ·cases hg
       ·cases hg
      ·unfold qhs at hg
       split at hg
       ·cases hg;exact same _ hx1 rfl rfl
       ·cases hg
     ·cases hg
    ·cases hg
   ·rename_i hto
    clear hto
    unfold qa5 at hg
    split at hg
    ·rename_i el es tk fs tk' hel
     split at hg
     ·split at hg
      ·have hes:OkA (.slice es tk):=hx1.1
       have hfs:OkA (.slice fs tk'):=hy1.1
       have all:∀tk2,OkA (.slice (es++fs) tk2):=fun tk2=>by
        cases hes with
        |slice _ _ p1 p2=>
         cases hfs with
         |slice _ _ q1 q2=>
          exact .slice _ _ (fun c hc=>by rcases wv.1 hc with h|h;exact p1 c h;exact q1 c h) (fun c hc=>by rcases wv.1 hc with h|h;exact p2 c h;exact q2 c h)
       split at hg
       ·cases hg;exact same _ hx1 rfl rfl
       ·split at hg
        ·cases hg
         refine⟨?_,?_⟩
         ·simp only[Eff.of,wk,wu,ww]
          exact qfw (fun u hu=>(w.t u hu).weak (by omega)) ⟨all _,fun b hb=>by simp only[refs,wg,wi,or_false]at hb;omega⟩
         ·intro b cs hb
          simp only[Eff.of,wk,wu,ww]at hb ⊢
          by_cases hlt:b<s.heap.length
          ·rw[wc hlt]at hb
           exact fun u hu=>(w.h b cs hb u hu).weak (by omega)
          ·rw[wa (by omega)]at hb
           have:=wo hb
           simp only[wg,wi,or_false]at this
           subst this;intro u hu;cases hu
        ·rename_i b
         split at hg
         ·rename_i n e' hb
          split at hg
          ·cases hg
           have hlt:=(wh.1 hb).1
           refine⟨?_,?_⟩
           ·simp only[Eff.of,wm]
            exact qfw w.t ⟨all _,fun c hc=>by simp only[refs,wg,wi,or_false]at hc;omega⟩
           ·intro c cs hc
            simp only[Eff.of,wm]at hc ⊢
            by_cases hbc:b=c
            ·subst hbc
             rw[wj hlt]at hc;cases hc;intro u hu;cases hu
            ·rw[wt hbc]at hc
             exact w.h c cs hc
          ·cases hg
         ·cases hg
        ·cases hg
        ·cases hg
      ·cases hg
     ·cases hg
    ·cases hg
  |_=>simp[qa8,qa4]at hp
 ·exact⟨qfw w.t ⟨.undef,fun b hb=>by simp[refs]at hb⟩,w.h⟩
theorem qk3 {lim:Nat} {ops:List Oper} {j:Nat} {o:Oper} {s t:St} (ho:ops[j]? =some o) (hp:qa8 o=true) (w:Wf s) (e:qay P cmp call lim ops j s=some t):Wf t:=by
 obtain⟨y,f,hy,h1,_⟩:=asked0 e
 exact qmj ho hp w h1
theorem qgt {lim:Nat} {ops:List Oper} {j:Nat} {o:Oper} {s t:St} (ho:ops[j]? =some o) (hp:qa8 o=true) (e:qay P cmp call lim ops j s=some t):s.heap.length≤t.heap.length:=by
 obtain⟨o',ho',hc⟩:=qbe e
 rw[ho]at ho';cases ho'
 rcases hc with⟨wx,v,f,ov,av,rfl⟩|⟨wx,rfl⟩
 ·show s.heap.length≤(f.of s.heap).length
  by_cases h0:cls o=0
  ·obtain⟨_,v',hv⟩:=qcv h0 ov
   cases hv;exact wq _
  by_cases h1:cls o=1
  ·obtain⟨⟨v',hv⟩,_⟩:=qcg h1 ov
   cases hv;exact wq _
  by_cases h2:cls o=2
  ·exact(qjq h2 ov).1
  by_cases h3:cls o=3
  ·obtain⟨t,a,x,b,X,_,_,rfl,rfl,_,_⟩:=qd3 h3 ov
   simp[Eff.of]
  ·obtain⟨dst,op,type,pos,after,guard⟩:=o
   cases op<;>first|(exact absurd rfl h0)|(exact absurd rfl h1)|(exact absurd rfl h2)|(exact absurd rfl h3)|(simp[qa8,qa4]at hp;done)|skip
   rename_i r
   obtain⟨callee,args,ats⟩:=r
   cases callee with
   |builtin b=>cases b<;>first|(exact absurd (qk1 hp) h2)|(exact absurd rfl h0)|(simp[qa8,qa4]at hp)
   |_=>simp[qa8,qa4]at hp
 ·exact wq _
theorem qsg {o:Oper} (h:qa4 o=true):qa8 o=true:=by
 unfold qa8
 split
 ·rfl
 ·exact h
theorem plain_ren {lim n N:Nat} {ops:List Oper} {j:Nat} {o:Oper} {s s' t:St} {σ τ:Nat→Nat} (hw:Sw n N σ τ) (hr:RenS σ s s') (hln:lim≤n) (hN:N≤s.heap.length) (w:Wf s) (ho:ops[j]? =some o) (hp:qa4 o=true)
 (e:qay P cmp call lim ops j s=some t):∃t',qay P cmp call lim ops j s'=some t'∧RenS σ t t'∧s.heap.length≤t.heap.length:=by
 obtain⟨o',ho',hc⟩:=qbe e
 rw[ho]at ho';cases ho'
 rcases hc with⟨wx,v,f,ov,av,rfl⟩|⟨wx,rfl⟩
 ·have wx':qap ops o s'.tmps=some true:=by rw[hr.t,ql1];exact wx
  have key:∃f',opA P cmp call o s'.tmps s'.heap=some (.val (ren σ v) f')∧askD lim ops j o s' f'=true∧(f'.of s'.heap).length=(f.of s.heap).length∧(∀b,(f'.of s'.heap)[σ b]? =((f.of s.heap)[b]?).map (renB σ))∧s.heap.length≤(f.of s.heap).length:=by
   obtain⟨dst,op,type,pos,after,guard⟩:=o
   cases op with
   |alloc ty=>
    simp only[opA]at ov ⊢
    split at ov
    ·rename_i z hz
     cases ov
     have hzr:qag z.cells=[]:=by
      unfold qal at hz
      split at hz
      ·split at hz
       ·have:=qgs hz
        cases z with
        |agg cs=>simpa[refs,AVal.cells]using this
        |_=>simp[AVal.cells,qag,this]
       ·cases hz
      ·cases hz
     have hσ:σ s.heap.length=s.heap.length:=hw.hi _ hN
     refine⟨.heap (s'.heap++[.box z.cells]) [],?_,?_,?_,?_,?_⟩
     ·simp only[ren,hσ,hr.l]
     ·unfold askD at av ⊢
      simp only[cls,decide_eq_true_eq]at av ⊢
      rw[hr.l];exact av
     ·simp only[Eff.of,wk,hr.l]
     ·intro b
      simp only[Eff.of]
      by_cases hb:b<s.heap.length
      ·have hb':σ b<s'.heap.length:=by
        rw[hr.l]
        by_cases hc:σ b<s.heap.length
        ·exact hc
        ·have h1:=hw.hi (σ b) (by omega)
         have h2:=hw.ts (σ b)
         rw[h1,hw.ts]at h2;omega
       rw[wc hb,wc hb',hr.h b]
      ·have hb':σ b=b:=hw.hi b (by omega)
       rw[hb',wa (by rw[hr.l];omega),wa (by omega),hr.l]
       cases h:([Blk.box z.cells]:List Blk)[b-s.heap.length]? with
       |none=>rfl
       |some x=>
        have:x= .box z.cells:=by
         have:=wo h
         simpa using this
        subst this
        simp only[wb,renB,qas z.cells (by rw[hzr];simp)]
     ·simp only[Eff.of,wk];omega
    ·cases ov
   |move x=>
    simp only[opA]at ov ⊢
    have hx:=qca σ x s.tmps
    cases hc:qab x s.tmps with
    |none=>rw[hc]at ov;cases ov
    |some a=>
     rw[hc]at ov hx
     cases ov
     refine⟨.same,?_,qc3 rfl,hr.l,hr.h,wq _⟩
     rw[hr.t,hx];rfl
   |fieldAddr ty x k=>
    simp only[opA]at ov ⊢
    have hx:=qca σ x s.tmps
    split at ov
    ·rename_i off ft b o hfp hcx
     cases ov
     refine⟨.same,?_,qc3 rfl,hr.l,hr.h,wq _⟩
     rw[hr.t,hx,hcx,hfp];rfl
    ·rename_i off ft cs o hfp hcx
     cases ov
     refine⟨.same,?_,qc3 rfl,hr.l,hr.h,wq _⟩
     rw[hr.t,hx,hcx,hfp];rfl
    ·rename_i off ft b o n hfp hcx
     cases ov
     refine⟨.same,?_,qc3 rfl,hr.l,hr.h,wq _⟩
     rw[hr.t,hx,hcx,hfp];rfl
    ·cases ov
   |store ty a x=>
    obtain⟨t2,a2,x2,b2,X2,hop2,hp2,rfl,rfl,⟨x0,hx0,_,_⟩,_⟩:=qd3 (o:=⟨dst,.store ty a x,type,pos,after,guard⟩) rfl ov
    cases hop2
    have ha:=qca σ a s.tmps
    have hx:=qca σ x s.tmps
    simp only[opA]at ov ⊢
    have hlb:b2<s.heap.length:=(wh.1 hx0).1
    cases hca:qab a s.tmps with
    |none=>rw[hca]at ov;cases ov
    |some pa=>
    rw[hca]at ov ha
    cases hcx:qab x s.tmps with
    |none=>rw[hcx]at ov;cases ov
    |some u=>
     rw[hcx]at ov hx
     simp only at ov
     cases hst:qbv P s.heap ty pa u with
     |none=>rw[hst]at ov;cases ov
     |some y=>
      rw[hst]at ov
      obtain⟨h1,b1⟩:=y
      simp only[Option.some.injEq,OR.val.injEq,Eff.heap.injEq,List.cons.injEq,and_true,true_and]at ov
      obtain⟨hh1,hb1⟩:=ov
      subst hb1
      have hX:h1[b1]? =some X2:=by rw[hh1,wj hlb]
      have hst':qbv P s'.heap ty (ren σ pa) (ren σ u)=some (s'.heap.set (σ b1) (renB σ X2),σ b1):=by
       unfold qbv at hst
       split at hst
       ·rename_i b off
        split at hst
        ·rename_i cs m hb hsz
         split at hst
         ·rename_i hcnd
          cases hset:qaj cs off u.cells with
          |none=>rw[hset]at hst;cases hst
          |some cs'=>
           rw[hset]at hst
           simp only[wb,Option.some.injEq,wga.injEq]at hst
           obtain⟨rfl,rfl⟩:=hst
           rw[wj hlb]at hX
           cases hX
           unfold qbv
           simp only[ren,hr.h b,hb,wb,renB,hsz]
           rw[qjs,qa1,qpv,if_pos hcnd,qdy,hset]
           rfl
         ·cases hst
        ·cases hst
       ·rename_i b off k
        split at hst
        ·rename_i p cs l e0 m hb hsz
         split at hst
         ·rename_i hkl
          split at hst
          ·rename_i hcnd
           cases hset:qaj cs (off-p) u.cells with
           |none=>rw[hset]at hst;cases hst
           |some cs'=>
            rw[hset]at hst
            simp only[wb,Option.some.injEq,wga.injEq]at hst
            obtain⟨rfl,rfl⟩:=hst
            rw[wj hlb]at hX
            cases hX
            unfold qbv
            simp only[ren,hr.h b,hb,wb,renB,hsz]
            rw[if_pos hkl,qjs,qa1,qpv,if_pos hcnd,qdy,hset]
            rfl
          ·cases hst
         ·cases hst
        ·cases hst
       ·cases hst
      refine⟨.heap (s'.heap.set (σ b1) (renB σ X2)) [σ b1],?_,?_,?_,?_,?_⟩
      ·rw[hr.t,ha,hx]
       simp only[wb,ren,hst']
      ·unfold askD at av ⊢
       simp only[cls,wea,wz]at av ⊢
       refine⟨av.1.imp id fun av=> ?_,av.2.imp id fun av=> ?_⟩
       ·have:=qm8 (σ:=σ) (fun a b e=>by have:=congrArg τ e;rwa [hw.ts,hw.ts]at this) 0 j ops av
        rw[hr.t]
        exact this
       ·rw[hr.t,stOk_ren];exact av
      ·simp only[Eff.of,wm,hr.l]
      ·intro b
       simp only[Eff.of]
       by_cases hb:b1=b
       ·subst hb
        have hb':σ b1<s'.heap.length:=by
         rw[hr.l]
         by_cases hc:σ b1<s.heap.length
         ·exact hc
         ·have h1:=hw.hi (σ b1) (by omega)
          have h2:=hw.ts (σ b1)
          rw[h1,hw.ts]at h2;omega
        rw[wj hlb,wj hb'];rfl
       ·have hne:σ b1≠σ b:=fun e=>hb (by have:=congrArg τ e;rwa [hw.ts,hw.ts]at this)
        rw[wt hb,wt hne,hr.h b]
      ·simp only[Eff.of,wm];omega
   |load ty x=>
    have hx:=qca σ x s.tmps
    have ov0:=ov
    simp only[opA]at ov ⊢
    split at ov
    ·rename_i p hcx
     split at ov
     ·rename_i u hu
      cases ov
      rw[hr.t,hx,hcx]
      simp only[wb]
      have hload:qck P s'.heap ty (ren σ p)=some (ren σ v):=by
       unfold qck at hu ⊢
       split at hu
       ·rename_i b off
        split at hu
        ·rename_i cs hb
         simp only[ren,hr.h b,hb,wb,renB]
         rw[qoo,hu];rfl
        ·cases hu
       ·rename_i cs off
        simp only[ren]
        have hv:∀b∈refs v,σ b=b:=by
         have hpw:=qbn w hcx
         cases hpw.1 with
         |eptr _ _ h1 h2=>
          have:=qk2 (n:=0) (fun a ha=>WfA.pure (h2 a ha) (h1 a ha)) hu
          exact fun b hb=>absurd (this.2 b hb) (by omega)
        rw[hu,qcj v hv]
       ·rename_i b off n
        split at hu
        ·rename_i p cs l e0 hb
         split at hu
         ·rename_i hkl
          simp only[ren,hr.h b,hb,wb,renB]
          rw[if_pos hkl,qoo,hu];rfl
         ·cases hu
        ·cases hu
       ·cases hu
      refine⟨.same,by rw[hload],?_,hr.l,hr.h,wq _⟩
      unfold askD at av ⊢
      simp only[cls]at av ⊢
      rw[hr.t,hx,hcx]
      rw[hcx]at av
      simp only[wb]
      cases p with
      |ptr b off=>
       simp only[decide_eq_true_eq]at av
       simp only[ren,decide_eq_true_eq]
       rw[hw.lo b (by omega)];exact av
      |slice es tk=>cases tk<;>rfl
      |mptr b o n=>cases av
      |_=>rfl
     ·cases ov
    ·cases ov
   |build ty ps=>
    have hps:=qm9 σ s.tmps ps.toList
    simp only[opA]at ov ⊢
    split at ov
    ·rename_i z fs pl hz hu hpl
     have zr:=qmh σ hz
     simp only[refs]at zr
     rw[hr.t,hps,hpl,hz,hu]
     simp only[wb]
     split at ov
     ·rename_i hall
      rw[if_pos hall]
      have hfr:=fun PF=>qjt σ PF pl z
      rw[qas z (by rw[zr];simp)]at hfr
      split at ov
      ·rename_i u hu2
       rw[w8]at hu2
       obtain⟨c,hf,rfl⟩:=hu2
       cases ov
       rw[hfr,hf]
       exact⟨.same,rfl,qc3 rfl,hr.l,hr.h,wq _⟩
      ·cases ov
     ·cases ov
    ·rename_i z len el pl hz hu hpl
     have zr:=qmh σ hz
     simp only[refs]at zr
     rw[hr.t,hps,hpl,hz,hu]
     simp only[wb]
     cases hs:qai P el with
     |none=>rw[hs]at ov;cases ov
     |some sz=>
      rw[hs]at ov
      have hfr:=qjt σ (fun i=>some (i*sz,sz)) pl z
      rw[qas z (by rw[zr];simp)]at hfr
      simp only at ov ⊢
      rw[hfr]
      cases hf:qa3 (fun i=>some (i*sz,sz)) z pl with
      |none=>rw[hf]at ov;cases ov
      |some c=>
       rw[hf]at ov
       cases ov
       exact⟨.same,rfl,qc3 rfl,hr.l,hr.h,wq _⟩
    ·cases ov
   |call r=>
    have hia:qde ⟨dst,.call r,type,pos,after,guard⟩=true:=by
     obtain⟨callee,args,ats⟩:=r
     cases callee with
     |builtin b=>cases b<;>first|rfl|exact hp|(simp[qa4]at hp)
     |_=>simp[qa4]at hp
    obtain⟨args,ats,x,y,t0,hop,hx,ht,h1,hg⟩:=qil hia ov
    have hσ:σ s.heap.length=s.heap.length:=hw.hi _ hN
    have hinj:∀a b,σ a=σ b→a=b:=fun a b e=>by have:=congrArg τ e;rwa [hw.ts,hw.ts]at this
    obtain⟨f',g1,g2⟩:=qrc hinj hr.l hr.h hσ (qpx w hx) hg
    have hx':qao s'.tmps args.toList=some [ren σ x,ren σ y]:=by rw[hr.t,qon,hx];rfl
    have hlt:∀b,b<s.heap.length→σ b<s'.heap.length:=fun b hb=>by
     rw[hr.l]
     by_cases hc:σ b<s.heap.length
     ·exact hc
     ·have h1:=hw.hi (σ b) (by omega)
      have h2:=hw.ts (σ b)
      rw[h1,hw.ts]at h2;omega
    have hc2:cls ⟨dst,.call r,type,pos,after,guard⟩=2:=by simp only at hop;rw[hop];exact qk1 (by rw[ht];exact h1)
    refine⟨f',ql2 hop hx' ht h1 g1,?_,?_,?_,?_⟩
    ·unfold askD at av ⊢
     rw[hc2]at av ⊢
     simp only[decide_eq_true_eq]at av ⊢
     rw[hr.l];exact av
    ·rcases g2 with⟨rfl,rfl⟩|⟨y0,rfl,rfl⟩|⟨b,x0,y0,hb,rfl,rfl⟩
     ·exact hr.l
     ·simp only[Eff.of,wk,hr.l];try rfl
     ·simp only[Eff.of,wm,hr.l]
    ·intro b
     rcases g2 with⟨rfl,rfl⟩|⟨y0,rfl,rfl⟩|⟨c,x0,y0,hc,rfl,rfl⟩
     ·exact hr.h b
     ·simp only[Eff.of]
      by_cases hb:b<s.heap.length
      ·rw[wc hb,wc (hlt b hb),hr.h b]
      ·have hb':σ b=b:=hw.hi b (by omega)
       rw[hb',wa (by rw[hr.l];omega),wa (by omega),hr.l]
       rw[←List.getElem?_map];rfl
     ·simp only[Eff.of]
      have hlc:=(wh.1 hc).1
      by_cases hb:c=b
      ·subst hb
       rw[wj hlc,wj (hlt c hlc)];rfl
      ·have hne:σ c≠σ b:=fun e=>hb (hinj _ _ e)
       rw[wt hb,wt hne,hr.h b]
    ·rcases g2 with⟨rfl,rfl⟩|⟨y0,rfl,rfl⟩|⟨c,x0,y0,hc,rfl,rfl⟩
     ·exact wq _
     ·simp only[Eff.of,wk];omega
     ·simp only[Eff.of,wm];exact wq _
   |_=>simp[qa4]at hp
  obtain⟨f',k1,k2,k3,k4,k5⟩:=key
  refine⟨⟨setT s'.tmps o.dst (ren σ v),f'.of s'.heap,f'.dirt++s'.dirty⟩,?_,⟨?_,k3,k4⟩,k5⟩
  ·unfold qay;simp only[ho,wx',k1,k2,if_true]
  ·simp only[hr.t,qfg]
 ·have wx':qap ops o s'.tmps=some false:=by rw[hr.t,ql1];exact wx
  refine⟨⟨setT s'.tmps o.dst .undef,s'.heap,s'.dirty⟩,?_,⟨?_,hr.l,hr.h⟩,wq _⟩
  ·unfold qay;simp only[ho,wx']
  ·simp only[hr.t]
   exact qfg σ s.tmps o.dst .undef
theorem qin {lim n N:Nat} {ops:List Oper} {σ τ:Nat→Nat} (hw:Sw n N σ τ) (hln:lim≤n):∀(l:List Nat) {s s' t:St},RenS σ s s'→N≤s.heap.length→Wf s→(∀j∈l,∀o,ops[j]? =some o→qa4 o=true)→
 opsD P cmp call lim ops l s=some t→∃t',opsD P cmp call lim ops l s'=some t'∧RenS σ t t'∧s.heap.length≤t.heap.length
 |[],s,s',t,hr,_,_,_,e=>by cases e;exact⟨s',rfl,hr,wq _⟩
 |j::l,s,s',t,hr,hN,w,hp,e=>by
  simp only[opsD]at e
  split at e
  ·rename_i s1 h1
   obtain⟨o,ho,_⟩:=qbe h1
   obtain⟨s1',g1,g2,g3⟩:=plain_ren hw hr hln hN w ho (hp j (by simp) o ho) h1
   obtain⟨t',k1,k2,k3⟩:=qin hw hln l g2 (by omega) (qk3 ho (qsg (hp j (by simp) o ho)) w h1) (fun i hi=>hp i (by simp[hi])) e
   exact⟨t',by simp only[opsD,g1];exact k1,k2,by omega⟩
  ·cases e
def swp (n:Nat) (b:Nat):Nat:=if b=n then n+1 else if b=n+1 then n else b
theorem qdk (n:Nat):Sw n (n+2) (swp n) (swp n) where
 ts b:=by unfold swp;split<;>(try split)<;>(try split)<;>omega
 st b:=by unfold swp;split<;>(try split)<;>(try split)<;>omega
 lo b hb:=by unfold swp;rw[if_neg (by omega),if_neg (by omega)]
 hi b hb:=by unfold swp;rw[if_neg (by omega),if_neg (by omega)]
theorem qfh {n:Nat} {σ:Nat→Nat} (hσ:∀b,b<n→σ b=b) {l:List AVal} (h:∀v∈l,WfA n v):renL σ l=l:=
 qas l (fun b hb=>hσ b (qeo (fun v hv=>(h v hv).2) b hb))
theorem qpy {n:Nat} {σ:Nat→Nat} (hσ:∀b,b<n→σ b=b) {x:Blk} (h:∀v∈qn3 x,WfA n v):renB σ x=x:=by
 cases x with
 |box cs=>have:=qfh hσ (l:=cs) h;simp only[renB,this]
 |tok=>rfl
 |arr p cs l e=>have:=qfh hσ (l:=cs) h;simp only[renB,this]
 |map ks vs=>simp only[renB,qfh hσ (fun v hv=>h v (List.mem_append_left _ hv)),qfh hσ (fun v hv=>h v (List.mem_append_right _ hv))]
theorem swapAl {lim:Nat} {ops:List Oper} {i j:Nat} {x y:Oper} {s s1 s2:St} (hx:ops[i]? =some x) (hy:ops[j]? =some y) (ax:isAl x=true) (ay:isAl y=true) (hin:qf3 ops x y=true) (w:Wf s)
 {fy:Eff} (e1:qay P cmp call lim ops i s=some s1) (e2:qeh P cmp call ops j s1 s2 fy):
 lim≤s.heap.length∧s2.heap.length=s.heap.length+2∧∃s1' s2',qay P cmp call lim ops j s=some s1'∧qay P cmp call lim ops i s1'=some s2'∧RenS (swp s.heap.length) s2 s2':=by
 obtain⟨_,_,d3⟩:=qjp hin
 have al:∀o:Oper,isAl o=true→∃t,o.op= .alloc t∧o.guard=none:=by
  intro o h
  unfold isAl at h
  split at h
  ·rename_i t h1 h2;exact⟨t,h1,h2⟩
  ·cases h
 obtain⟨tx,ox,gx⟩:=al x ax
 obtain⟨ty,oy,gy⟩:=al y ay
 have stp:∀(k:Nat) (o:Oper) (t:TypeId) (a b:St),ops[k]? =some o→o.op= .alloc t→o.guard=none→qay P cmp call lim ops k a=some b→
  ∃z,qal P t=some z∧lim≤a.heap.length∧b=⟨setT a.tmps o.dst (.ptr a.heap.length 0),a.heap++[.box z.cells],[]++a.dirty⟩:=by
  intro k o t a b hk ho hg e
  obtain⟨o',ho',hc⟩:=qbe e
  rw[hk]at ho';cases ho'
  obtain⟨dst,op,type,pos,after,guard⟩:=o
  simp only at ho hg
  subst ho hg
  rcases hc with⟨wx,v,f,ov,av,rfl⟩|⟨wx,rfl⟩
  ·simp only[opA]at ov
   split at ov
   ·rename_i z hz
    cases ov
    refine⟨z,hz,?_,rfl⟩
    unfold askD at av
    simpa[cls]using av
   ·cases ov
  ·simp[qap]at wx
 have stpN:∀(k:Nat) (o:Oper) (t:TypeId) (a b:St) (f:Eff),ops[k]? =some o→o.op= .alloc t→o.guard=none→qeh P cmp call ops k a b f→
  ∃z,qal P t=some z∧b=⟨setT a.tmps o.dst (.ptr a.heap.length 0),a.heap++[.box z.cells],[]++a.dirty⟩:=by
  intro k o t a b f hk ho hg e
  obtain⟨o',ho',hc⟩:=e
  rw[hk]at ho';cases ho'
  obtain⟨dst,op,type,pos,after,guard⟩:=o
  simp only at ho hg
  subst ho hg
  rcases hc with⟨wx,v,ov,rfl⟩|⟨wx,_,rfl⟩
  ·simp only[opA]at ov
   split at ov
   ·rename_i z hz
    cases ov
    exact⟨z,hz,rfl⟩
   ·cases ov
  ·simp[qap]at wx
 obtain⟨zx,hzx,hl,rfl⟩:=stp i x tx s s1 hx ox gx e1
 obtain⟨zy,hzy,rfl⟩:=stpN j y ty _ s2 fy hy oy gy e2
 have mk:∀(k:Nat) (o:Oper) (t:TypeId) (z:AVal) (a:St),ops[k]? =some o→o.op= .alloc t→o.guard=none→qal P t=some z→lim≤a.heap.length→
  qay P cmp call lim ops k a=some ⟨setT a.tmps o.dst (.ptr a.heap.length 0),a.heap++[.box z.cells],[]++a.dirty⟩:=by
  intro k o t z a hk ho hg hz hl
  obtain⟨dst,op,type,pos,after,guard⟩:=o
  simp only at ho hg
  subst ho hg
  unfold qay
  simp only[hk,qap,opA,hz]
  rw[if_pos (by unfold askD;simpa[cls]using hl)]
  rfl
 refine⟨hl,by simp,_,_,mk j y ty zy s hy oy gy hzy hl,mk i x tx zx _ hx ox gx hzx (by simp;omega),?_,?_,?_⟩
 ·have hlow:=qfh (qdk s.heap.length).lo w.t
  have h1:swp s.heap.length s.heap.length=s.heap.length+1:=by unfold swp;rw[if_pos rfl]
  have h2:swp s.heap.length (s.heap.length+1)=s.heap.length:=by unfold swp;rw[if_neg (by omega),if_pos rfl]
  simp only[wk,wu,ww]
  rw[←qfg,←qfg,hlow]
  simp only[ren,h1,h2]
  exact(qjo (fun d hd e=>d3 d hd e)).symm
 ·simp
 ·intro b
  have zr:∀{t:TypeId} {z:AVal},qal P t=some z→renL (swp s.heap.length) z.cells=z.cells:=by
   intro t z hz
   refine qas _ (fun b hb=> ?_)
   have:qag z.cells=[]:=by
    unfold qal at hz
    split at hz
    ·split at hz
     ·have:=qgs hz
      cases z with
      |agg cs=>simpa[refs,AVal.cells]using this
      |_=>simp[AVal.cells,qag,this]
     ·cases hz
    ·cases hz
   rw[this]at hb;cases hb
  simp only[wba,wca,wfa]
  by_cases hb:b<s.heap.length
  ·rw[(qdk s.heap.length).lo b hb,wc hb,wc hb]
   cases h:s.heap[b]? with
   |none=>rfl
   |some k=>simp only[wb,qpy (qdk s.heap.length).lo (w.h b k h)]
  ·by_cases hb1:b=s.heap.length
   ·subst hb1
    have h1:swp s.heap.length s.heap.length=s.heap.length+1:=by unfold swp;rw[if_pos rfl]
    rw[h1,wa (by omega),wa (by omega)]
    simp[renB,zr hzx]
   ·by_cases hb2:b=s.heap.length+1
    ·subst hb2
     have h2:swp s.heap.length (s.heap.length+1)=s.heap.length:=by unfold swp;rw[if_neg (by omega),if_pos rfl]
     rw[h2,wa (by omega),wa (by omega)]
     simp[renB,zr hzy]
    ·rw[(qdk s.heap.length).hi b (by omega),wa (by omega)]
     have:([Blk.box zy.cells,Blk.box zx.cells]:List Blk)[b-s.heap.length]? =none:=w5 (by simp;omega)
     have h3:([Blk.box zx.cells,Blk.box zy.cells]:List Blk)[b-s.heap.length]? =none:=w5 (by simp;omega)
     rw[this,wa (by omega),h3];rfl
theorem swapAp {lim:Nat} {ops:List Oper} {i j:Nat} {x y:Oper} {s s1 s2:St} (hx:ops[i]? =some x) (hy:ops[j]? =some y) (ax:qde x=true) (ay:isAl y=true) (hin:qf3 ops x y=true) (w:Wf s)
 {fy:Eff} (e1:qay P cmp call lim ops i s=some s1) (e2:qeh P cmp call ops j s1 s2 fy):
 ∃s1' s2' fy',qeh P cmp call ops j s s1' fy'∧qay P cmp call lim ops i s1'=some s2'∧(s2'=s2∨(lim≤s.heap.length∧s2.heap.length=s.heap.length+2∧RenS (swp s.heap.length) s2 s2')):=by
 obtain⟨d1,d2,d3⟩:=qjp hin
 have rx:∀{u:AVal} {ts:List AVal},∀t∈qb4 ops x,(setT ts y.dst u)[t]? =ts[t]? :=fun t ht=>qc2 fun d hd=>d2 d hd t ht
 have sub:∀t∈qbw x.op.operands.toList,t∈qb4 ops x:=fun t ht=>by simp[qb4,ht]
 have comm:∀{ts:List AVal} {u v:AVal},setT (setT ts x.dst u) y.dst v=setT (setT ts y.dst v) x.dst u:=qjo d3
 obtain⟨ty,oy,gy⟩:∃t,y.op= .alloc t∧y.guard=none:=by
  unfold isAl at ay
  split at ay
  ·rename_i t h1 h2;exact⟨t,h1,h2⟩
  ·cases ay
 have mkN:∀(z:AVal) (a:St),qal P ty=some z→qeh P cmp call ops j a ⟨setT a.tmps y.dst (.ptr a.heap.length 0),a.heap++[Blk.box z.cells],[]++a.dirty⟩ (.heap (a.heap++[Blk.box z.cells]) []):=by
  intro z a hz
  refine⟨y,hy,.inl ⟨?_,.ptr a.heap.length 0,?_,rfl⟩⟩
  ·simp only[qap,gy]
  ·obtain⟨dst,op,type,pos,after,guard⟩:=y
   simp only at oy
   subst oy
   simp only[opA,hz]
 obtain⟨z,hz,rfl⟩:∃z,qal P ty=some z∧s2=⟨setT s1.tmps y.dst (.ptr s1.heap.length 0),s1.heap++[Blk.box z.cells],[]++s1.dirty⟩:=by
  obtain⟨o',ho',hc⟩:=e2
  rw[hy]at ho';cases ho'
  obtain⟨dst,op,type,pos,after,guard⟩:=y
  simp only at oy gy
  subst oy gy
  rcases hc with⟨wx,v,ov,rfl⟩|⟨wx,_,rfl⟩
  ·simp only[opA]at ov
   split at ov
   ·rename_i z hz
    cases ov
    exact⟨z,hz,rfl⟩
   ·cases ov
  ·simp[qap]at wx
 obtain⟨o',ho',hc⟩:=qbe e1
 rw[hx]at ho';cases ho'
 have hzr:renL (swp s.heap.length) z.cells=z.cells:=by
  refine qas _ (fun b hb=> ?_)
  have h0:=qmh (swp s.heap.length) hz
  have:qag z.cells=[]:=by
   cases z with
   |agg cs=>simpa[refs,AVal.cells]using h0
   |_=>simp[AVal.cells,qag,h0]
  rw[this]at hb;cases hb
 rcases hc with⟨wx,v,f,ov,av,rfl⟩|⟨wx,rfl⟩
 ·obtain⟨args,ats,p,q,t0,hop,hpq,ht0,ht1,hg⟩:=qil ax ov
  have hlim:lim≤s.heap.length:=by
   have hc:cls x=2:=by unfold cls;rw[hop];simp only;rw[if_pos (by rw[ht0];exact ht1)]
   unfold askD at av
   rw[hc]at av;simpa using av
  have again:∀(v':AVal) (f':Eff),qbo P (bigM cmp) (s.heap++[Blk.box z.cells]) t0 p q=some (v',f')→qay P cmp call lim ops i ⟨setT s.tmps y.dst (.ptr s.heap.length 0),s.heap++[Blk.box z.cells],[]++s.dirty⟩=
   some ⟨setT (setT s.tmps y.dst (.ptr s.heap.length 0)) x.dst v',f'.of (s.heap++[Blk.box z.cells]),f'.dirt++s.dirty⟩:=by
   intro v' f' hv
   have ho:opA P cmp call x s.tmps (s.heap++[Blk.box z.cells])=some (.val v' f'):=ql2 hop hpq ht0 ht1 hv
   unfold qay
   simp only[hx,qa0 rx,wx,qet (fun t ht=>rx t (sub t ht)),ho]
   have hc:cls x=2:=by unfold cls;rw[hop];simp only;rw[if_pos (by rw[ht0];exact ht1)]
   rw[if_pos (by unfold askD;rw[hc];simp;omega)]
   rfl
  have hqp:=qpx w hpq
  have hpar:∃v' f',qbo P (bigM cmp) (s.heap++[Blk.box z.cells]) t0 p q=some (v',f')∧((f= .same∧f'= .same∧v'=v)∨(∃b x0 y0,s.heap[b]? =some x0∧f= .heap (s.heap.set b y0) [b]∧f'= .heap ((s.heap++[Blk.box z.cells]).set b y0) [b]∧v'=v)∨(∃y0,f= .heap (s.heap++[y0]) []∧renB (swp s.heap.length) y0=y0∧f'= .heap (s.heap++[Blk.box z.cells]++[y0]) []∧v'=ren (swp s.heap.length) v)):=by
   unfold qbo at hg ⊢
   split at hg
   ·rename_i hto
    rw[if_pos hto]
    clear hto
    unfold qco at hg ⊢
    split at hg
    ·rename_i el fs tk' hel
     have hpu:renL (swp s.heap.length) fs.flatten=fs.flatten:=qas _ (fun b hb=>by
      obtain⟨a,ha,hba⟩:=qes.1 hb
      obtain⟨c,hc,hac⟩:=w7.1 ha
      have:=hqp fs tk' rfl c hc a hac
      unfold qax at this
      simp only[wz]at this
      have h0:refs a=[]:=by simpa using this.2
      rw[h0]at hba;cases hba)
     split at hg
     ·rename_i sz by_ z0 hsz hby hz0
      split at hg
      ·rename_i hc
       simp only[hel,hsz,hby,hz0,hc,if_true]
       split at hg
       ·split at hg
        ·rename_i hc2
         cases hg
         rw[if_pos hc2]
         exact⟨_,_,rfl,.inr (.inr ⟨_,rfl,by simp only[renB,hpu],by simp,by simp[ren,swp]⟩)⟩
        ·cases hg
       ·split at hg
        ·rename_i n e' hb
         split at hg
         ·rename_i hcnd
          cases hg
          have hlt:=(wh.1 hb).1
          rw[wc hlt,hb]
          simp only
          rw[if_pos hcnd]
          exact⟨_,_,rfl,.inr (.inl ⟨_,_,_,hb,rfl,rfl,rfl⟩)⟩
         ·cases hg
        ·cases hg
       ·split at hg
        ·rename_i p0 cs l e' hb
         split at hg
         ·rename_i hcnd
          have hlt:=(wh.1 hb).1
          rw[wc hlt,hb]
          simp only
          rw[if_pos hcnd]
          split at hg
          ·rename_i hmn
           cases hg
           rw[if_pos hmn]
           exact⟨_,_,rfl,.inr (.inl ⟨_,_,_,hb,rfl,rfl,rfl⟩)⟩
          ·rename_i hmn
           rw[if_neg hmn]
           split at hg
           ·rename_i hmf
            rw[if_pos hmf]
            split at hg
            ·rename_i cs' hset
             cases hg
             exact⟨_,_,rfl,.inr (.inl ⟨_,_,_,hb,rfl,rfl,rfl⟩)⟩
            ·cases hg
           ·cases hg
         ·cases hg
        ·cases hg
       ·cases hg
      ·rename_i hc
       simp only[hel,hsz,hby,hz0,hc,if_false]
       unfold qhs at hg
       split at hg
       ·cases hg;exact⟨_,_,rfl,.inl ⟨rfl,rfl,rfl⟩⟩
       ·cases hg
     ·cases hg
    ·cases hg
   ·rename_i hto
    rw[if_neg hto]
    clear hto
    unfold qa5 at hg ⊢
    split at hg
    ·rename_i el es tk fs tk' hel
     split at hg
     ·rename_i sz by_ z0 hsz hby hz0
      split at hg
      ·rename_i hc
       simp only[hel,hsz,hby,hz0,hc,if_true]
       split at hg
       ·cases hg;exact⟨_,_,rfl,.inl ⟨rfl,rfl,rfl⟩⟩
       ·split at hg
        ·cases hg
         exact⟨_,_,rfl,.inr (.inr ⟨_,rfl,rfl,rfl,by simp[ren,swp]⟩)⟩
        ·rename_i b
         split at hg
         ·rename_i n e' hb
          split at hg
          ·rename_i hcnd
           cases hg
           have hlt:=(wh.1 hb).1
           rw[wc hlt,hb]
           simp only
           rw[if_pos hcnd]
           exact⟨_,_,rfl,.inr (.inl ⟨b,_,_,hb,rfl,rfl,rfl⟩)⟩
          ·cases hg
         ·cases hg
        ·cases hg
        ·cases hg
      ·cases hg
     ·cases hg
    ·cases hg
  obtain⟨v',f',hv,hcase⟩:=hpar
  refine⟨_,_,_,mkN z s hz,again v' f' hv,?_⟩
  rcases hcase with⟨rfl,rfl,rfl⟩|⟨b,x0,y0,hb,rfl,rfl,rfl⟩|⟨y0,rfl,hy0,rfl,rfl⟩
  ·exact .inl (by rw[comm];rfl)
  ·refine .inl ?_
   have hlt:=(wh.1 hb).1
   rw[comm]
   simp only[Eff.of,Eff.dirt,wm,List.set_append_left _ _ hlt]
   rfl
  ·refine .inr ⟨hlim,by simp[Eff.of],?_,?_,?_⟩
   ·have hlow:=qfh (qdk s.heap.length).lo w.t
    have h1:swp s.heap.length s.heap.length=s.heap.length+1:=by unfold swp;rw[if_pos rfl]
    have h2:swp s.heap.length (s.heap.length+1)=s.heap.length:=by unfold swp;rw[if_neg (by omega),if_pos rfl]
    simp only[Eff.of,wk,wu,ww]
    rw[←qfg,←qfg,hlow]
    simp only[ren,h2]
    exact comm.symm
   ·simp[Eff.of]
   ·intro b
    simp only[Eff.of,wba,wca,wfa]
    by_cases hb:b<s.heap.length
    ·rw[(qdk s.heap.length).lo b hb,wc hb,wc hb]
     cases h:s.heap[b]? with
     |none=>rfl
     |some k=>simp only[wb,qpy (qdk s.heap.length).lo (w.h b k h)]
    ·by_cases hb1:b=s.heap.length
     ·subst hb1
      have h1:swp s.heap.length s.heap.length=s.heap.length+1:=by unfold swp;rw[if_pos rfl]
      rw[h1,wa (by omega),wa (by omega)]
      simp[hy0]
     ·by_cases hb2:b=s.heap.length+1
      ·subst hb2
       have h2:swp s.heap.length (s.heap.length+1)=s.heap.length:=by unfold swp;rw[if_neg (by omega),if_pos rfl]
       rw[h2,wa (by omega),wa (by omega)]
       simp[renB,hzr]
      ·rw[(qdk s.heap.length).hi b (by omega),wa (by omega)]
       have:([Blk.box z.cells,y0]:List Blk)[b-s.heap.length]? =none:=w5 (by simp;omega)
       have h3:([y0,Blk.box z.cells]:List Blk)[b-s.heap.length]? =none:=w5 (by simp;omega)
       rw[this,wa (by omega),h3];rfl
 ·refine⟨_,_,_,mkN z s hz,?_,.inl rfl⟩
  unfold qay
  simp only[hx,qa0 rx,wx]
  rw[comm]
end Go.Ab
