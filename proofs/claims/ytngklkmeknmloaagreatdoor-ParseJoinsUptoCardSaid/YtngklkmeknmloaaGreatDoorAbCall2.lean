/- Soundness of the single operations: all of them. -/
import Derived.Test.YtngklkmeknmloaaGreatDoorAbOp5
set_option linter.unusedSimpArgs false
set_option linter.unusedVariables false
set_option maxRecDepth 100000
set_option maxHeartbeats 4000000
open List renaming mem_of_getElem?→wa,getD_eq_getElem?_getD→wb,getElem?_eq_some_iff→wc,getElem?_eq_getElem→wd,getElem?_append_left→we,all_eq_true→wg,idxOf_lt_length_of_mem→wi,getElem?_eq_none→wm,mem_append_left→wo,getElem?_map→wt,getElem_mem→wu,nodup_nil→wv
open Bool renaming and_eq_true→wf
open Option renaming map_some→wh,getD_some→wj,map_eq_some_iff→wk
open Array renaming ext'→wq
open Nat renaming le_refl→ww
namespace Go.Ab
variable {P:Program} {call:Call}
def qhk (P:Program) [Tabs P] (S:Sh) (h:qab) (w:World) (r:CR) (e:Ending) (w':World):Prop:=
 match r with
 | .ret u f=>∃v S',e= .returned v∧Step P S w S' (f.of h) w'∧VR S' u v
 | .pan u f=>∃v S',e= .panicked [{ v,recovered:=false }]∧Step P S w S' (f.of h) w'∧VR S' u v
def KeepH (h h':qab) (d:List Nat):Prop:=h.length≤h'.length∧∀b,b<h.length→b∉d→h'[b]? =h[b]?
theorem KeepH.refl (h:qab) (d:List Nat):KeepH h h d:=⟨ww _,fun _ _ _=>rfl⟩
def qg9 (h:qab) (f:Eff):Prop:=KeepH h (f.of h) f.dirt
def qd7 (P:Program) [Tabs P] (call:Call):Prop:=
 ∀(f:FuncId) (args:List AVal) (h:qab) (r:CR),call f args h=some r→
  (∃fn,P.funcs[f]? =some fn∧fn.body.isSome=true∧(fn.name== "runtime.NumGoroutine")=false)∧
  ∀(S:Sh) (w:World) (vs:Array Value),WR P S h w→VRl S args vs.toList→Calls P f vs w (qhk P S h w r)
def CR.eff:CR→Eff
 | .ret _ e=>e
 | .pan _ e=>e
def LowC (h:qab) (r:CR):Prop:=∀v,r= .ret v .same→lowA h.length v=true
def qa4 (call:Call):Prop:=∀f args h r,call f args h=some r→qg9 h r.eff∧LowC h r
theorem qe5 {f:FuncId} {args:Array Value} {w:World} {R R':Ending→World→Prop} (hc:Calls P f args w R) (hr:∀e w',R e w'→R' e w'):Calls P f args w R':=
 fun cs=>let⟨e,w',fr,r,s⟩:=hc cs;⟨e,w',fr,hr _ _ r,s⟩
def Sh.sub (S:Sh) (idx:List Nat):Sh:={ M:=S.M,ρ:=fun i=>(idx[i]?).bind S.ρ,τ:=fun i=>(idx[i]?).bind S.τ,F:=S.F }
def Sh.back (S S1:Sh) (n:Nat) (idx:List Nat):Sh:=
 { M:=S1.M,ρ:=fun b=>if b<n then S.ρ b else S1.ρ (idx.length+(b-n)),τ:=fun b=>if b<n then(if b∈idx then S1.τ (idx.idxOf b)else S.τ b)else S1.τ (idx.length+(b-n)),F:=S.F }
structure qtl (h:qab) (idx:List Nat):Prop where
 nd:idx.Nodup
 blk:∀b∈idx,∃x,h[b]? =some x∧∀c∈qdq x,c∈idx
theorem qla {h:qab} {idx:List Nat} {args:List AVal} (hn:idx.Nodup) (e:qc2 h idx args=true):qtl h idx∧∀b∈qad args,b∈idx:=by
 unfold qc2 at e
 simp only[wf,wg,List.contains_eq_mem,decide_eq_true_eq]at e
 refine⟨⟨hn,fun b hb=> ?_⟩,e.1⟩
 have:=e.2 b hb
 cases hx:h[b]? with
 |none=>simp[hx]at this
 |some x=>simp only[hx,wg,decide_eq_true_eq]at this;exact⟨x,rfl,this⟩
theorem qqh {h:qab} {idx:List Nat} {i b:Nat} {x:Blk} (hi:idx[i]? =some b) (hx:h[b]? =some x):(subH h idx)[i]? =some (renB (fun y=>idx.idxOf y) x):=by
 unfold subH
 rw[wt,hi]
 simp[wb,hx]
theorem qje (h:qab) (idx:List Nat):(subH h idx).length=idx.length:=by simp[subH]
theorem q0m {h:qab} {idx:List Nat} (ok:qtl h idx) {i:Nat} {y:Blk} (hy:(subH h idx)[i]? =some y):∃b x,idx[i]? =some b∧h[b]? =some x∧(∀c∈qdq x,c∈idx)∧y=renB (fun z=>idx.idxOf z) x:=by
 have hi:i<idx.length:=by have:=(wc.1 hy).1;rwa [qje]at this
 obtain⟨x,hx,hr⟩:=ok.blk idx[i] (wu hi)
 have:=qqh (wd hi) hx
 rw[hy]at this
 exact⟨idx[i],x,wd hi,hx,hr,Option.some.inj this⟩
theorem qtm {S:Sh} {idx:List Nat} {b:Nat} (hb:b∈idx):(∀r,S.ρ b=some r→(S.sub idx).ρ (idx.idxOf b)=some r)∧∀x,S.τ b=some x→(S.sub idx).τ (idx.idxOf b)=some x:=by
 have h1:=qeq hb
 exact⟨fun r hr=>by simp only[Sh.sub,h1];exact hr,fun x hx=>by simp only[Sh.sub,h1];exact hx⟩
theorem sub_wr [Tabs P] {S:Sh} {h:qab} {w:World} (k:WR P S h w) {idx:List Nat} (ok:qtl h idx):WR P (S.sub idx) (subH h idx) w:=by
 have gρ:∀i r,(S.sub idx).ρ i=some r→∃b,idx[i]? =some b∧S.ρ b=some r:=by
  intro i r hi
  simp only[Sh.sub]at hi
  cases hb:idx[i]? with
  |none=>simp[hb]at hi
  |some b=>simp[hb]at hi;exact⟨b,rfl,hi⟩
 have gτ:∀i x,(S.sub idx).τ i=some x→∃b,idx[i]? =some b∧S.τ b=some x:=by
  intro i r hi
  simp only[Sh.sub]at hi
  cases hb:idx[i]? with
  |none=>simp[hb]at hi
  |some b=>simp[hb]at hi;exact⟨b,rfl,hi⟩
 constructor
 ·exact k.imm
 ·intro i cs hi
  obtain⟨b,x,h1,h2,h3,h4⟩:=q0m ok hi
  cases x with
  |tok l e=>simp[renB]at h4
  |box cs0=>
   simp only[renB,Blk.box.injEq]at h4
   subst h4
   obtain⟨r,C,T,g1,g2,g3,g4⟩:=k.box b cs0 h2
   exact⟨r,C,T,by simp only[Sh.sub,h1];exact g1,g2,g3.ren (S:=S) (S':=S.sub idx) _ (fun _ _ h=>h) (fun c hc=>qtm (h3 c hc)),g4⟩
 ·intro i l e hi
  obtain⟨b,x,h1,h2,h3,h4⟩:=q0m ok hi
  cases x with
  |box cs0=>simp[renB]at h4
  |tok l0 e0=>
   simp only[renB,Blk.tok.injEq]at h4
   obtain⟨rfl,rfl⟩:=h4
   obtain⟨r,cap,C,q,g1,g2⟩:=k.tok b l e h2
   exact⟨r,cap,C,q,by simp only[Sh.sub,h1];exact g1,g2⟩
 ·intro i r hi
  obtain⟨b,h1,h2⟩:=gρ i r hi
  obtain⟨cs,h3⟩:=k.ρdom b r h2
  exact⟨_,qqh h1 h3⟩
 ·intro i x hi
  obtain⟨b,h1,h2⟩:=gτ i x hi
  obtain⟨e,h3⟩:=k.τdom b x h2
  exact⟨e,qqh h1 h3⟩
 ·intro i i' r hi hi'
  obtain⟨b,h1,h2⟩:=gρ i r hi
  obtain⟨b',h1',h2'⟩:=gρ i' r hi'
  have:=k.injρ b b' r h2 h2'
  subst this
  exact(qgn ok.nd h1).symm.trans (qgn ok.nd h1')
 ·intro i i' r c c' l l' hi hi'
  obtain⟨b,h1,h2⟩:=gτ i _ hi
  obtain⟨b',h1',h2'⟩:=gτ i' _ hi'
  have:=k.injτ b b' r c c' l l' h2 h2'
  subst this
  exact(qgn ok.nd h1).symm.trans (qgn ok.nd h1')
 ·intro i i' r c l hi hi'
  obtain⟨b,h1,h2⟩:=gρ i _ hi
  obtain⟨b',h1',h2'⟩:=gτ i' _ hi'
  exact k.apart b b' r c l h2 h2'
 ·intro x o hx
  obtain⟨h1,h2,h3⟩:=k.frz x o hx
  refine⟨h1,fun i hi=> ?_,fun i c l hi=> ?_⟩
  ·obtain⟨b,_,g⟩:=gρ i x hi;exact h2 b g
  ·obtain⟨b,_,g⟩:=gτ i _ hi;exact h3 b c l g
 ·exact k.laid
structure BackH (h:qab) (idx:List Nat) (h1 h2:qab):Prop where
 len:h.length≤h2.length
 inn:∀i b:Nat,idx[i]? =some b→h2[b]? =(h1[i]?).map (renB (qe9 h.length idx))
 out:∀b,b<h.length→b∉idx→h2[b]? =h[b]?
 new:∀b,h.length≤b→h2[b]? =(h1[idx.length+(b-h.length)]?).map (renB (qe9 h.length idx))
theorem qju {h:qab} {idx:List Nat} (ok:qtl h idx) {f:Eff} (hk:qg9 (subH h idx) f):BackH h idx (f.of (subH h idx)) ((qge h idx f).of h):=by
 have hlt:∀(i b:Nat),idx[i]? =some b→b<h.length:=fun i b hb=>by
  obtain⟨x,hx,_⟩:=ok.blk b (wa hb)
  exact(wc.1 hx).1
 have hold:∀(i b:Nat),idx[i]? =some b→h[b]? =((subH h idx)[i]?).map (renB (qe9 h.length idx)):=by
  intro i b hb
  obtain⟨x,hx,hr⟩:=ok.blk b (wa hb)
  rw[qqh hb hx,hx]
  simp only[wh,renB_back hr]
 cases f with
 |same=>
  refine⟨ww _,hold,fun _ _ _=>rfl,fun b hb=> ?_⟩
  simp only[qge,Eff.of]
  rw[wm hb,wm (by rw[qje];omega)]
  rfl
 |heap h' d=>
  simp only[qge,Eff.of]
  have hpl:=qk9 idx h.length h' d h
  have hl':idx.length≤h'.length:=by have:=hk.1;rw[qje]at this;exact this
  refine⟨by rw[List.length_append,hpl];omega,fun i b hb=> ?_,fun b hb hn=> ?_,fun b hb=> ?_⟩
  ·rw[we (by rw[hpl];exact hlt i b hb)]
   have hi:=(wc.1 hb).1
   by_cases hd:i∈d
   ·rw[qr6 idx ok.nd h.length h' hb (wd (by omega)) d h hd (hlt i b hb),wd (by omega)]
    rfl
   ·rw[qhz]
    ·rw[hold i b hb,←hk.2 i (by rw[qje];exact hi) hd]
     rfl
    ·intro j hj e
     have:=(qgn ok.nd e).symm.trans (qgn ok.nd hb)
     subst this;exact hd hj
  ·rw[we (by rw[hpl];exact hb),qhz]
   intro j _ e
   exact hn (wa e)
  ·rw[List.getElem?_append_right (by rw[hpl];exact hb),hpl,wt,List.getElem?_drop]
theorem back_wr [Tabs P] {S S1:Sh} {h h1 h2:qab} {w w':World} {idx:List Nat} (k:WR P S h w) (ok:qtl h idx) (st:Step P (S.sub idx) w S1 h1 w') (bk:BackH h idx h1 h2):
 Step P S w (S.back S1 h.length idx) h2 w'∧(∀{a:AVal} {v:Value},VR S1 a v→VR (S.back S1 h.length idx) (ren (qe9 h.length idx) a) v):=by
 have hlt:∀(i b:Nat),idx[i]? =some b→b<h.length:=fun i b hb=>by
  obtain⟨x,hx,_⟩:=ok.blk b (wa hb)
  exact(wc.1 hx).1
 have k1:=st.wr
 have inρ:∀i b r,idx[i]? =some b→(S1.ρ i=some r↔S.ρ b=some r):=by
  intro i b r hb
  have hsub:(S.sub idx).ρ i=S.ρ b:=by simp only[Sh.sub,hb];rfl
  have hsubτ:(S.sub idx).τ i=S.τ b:=by simp only[Sh.sub,hb];rfl
  constructor
  ·intro h3
   obtain⟨x,hx,_⟩:=ok.blk b (wa hb)
   cases x with
   |box cs=>
    obtain⟨r0,_,_,g1,_⟩:=k.box b cs hx
    have:=st.ext.ρ i r0 (by rw[hsub];exact g1)
    rw[h3]at this;cases this;exact g1
   |tok l e=>
    exfalso
    obtain⟨r0,c0,_,_,g1,_⟩:=k.tok b l e hx
    obtain⟨r',c',l',g2,_⟩:=st.ext.τ i r0 c0 l (by rw[hsubτ];exact g1)
    obtain⟨cs,g3⟩:=k1.ρdom i r h3
    obtain⟨e',g4⟩:=k1.τdom i _ g2
    rw[g3]at g4;cases g4
  ·intro h3;exact st.ext.ρ i r (by rw[hsub];exact h3)
 have bρ:∀b r,(S.back S1 h.length idx).ρ b=some r→(b<h.length∧S.ρ b=some r)∨(h.length≤b∧S1.ρ (idx.length+(b-h.length))=some r):=by
  intro b r hb
  simp only[Sh.back]at hb
  split at hb
  ·exact .inl ⟨‹_›,hb⟩
  ·exact .inr ⟨by omega,hb⟩
 have bτ:∀b x,(S.back S1 h.length idx).τ b=some x→(b<h.length∧b∈idx∧S1.τ (idx.idxOf b)=some x)∨(b<h.length∧b∉idx∧S.τ b=some x)∨(h.length≤b∧S1.τ (idx.length+(b-h.length))=some x):=by
  intro b x hb
  simp only[Sh.back]at hb
  split at hb
  ·split at hb
   ·exact .inl ⟨‹_›,‹_›,hb⟩
   ·exact .inr (.inl ⟨‹_›,‹_›,hb⟩)
  ·exact .inr (.inr ⟨by omega,hb⟩)
 have sub0:∀q,(S.sub idx).ρ (idx.length+q)=none∧(S.sub idx).τ (idx.length+q)=none:=fun q=>by
  simp[Sh.sub]
 have hM2:∀a,(S.back S1 h.length idx).M a=S1.M a:=fun _=>rfl
 have hext:Ex S w.heap.size (S.back S1 h.length idx):=by
  refine⟨st.ext.M,fun b r hb=> ?_,fun t r c l ht=> ?_,fun b r hb=> ?_,fun t r c l ht=> ?_,fun a v ha=> ?_,rfl⟩
  ·simp only[Sh.back];rw[if_pos (k.lt hb).1];exact hb
  ·have htl:=(k.ltτ ht).1
   by_cases hm:t∈idx
   ·have h3:=(qtm (S:=S) hm).2 _ ht
    obtain⟨r',c',l',g1,g2⟩:=st.ext.τ _ _ _ _ h3
    exact⟨r',c',l',by simp only[Sh.back];rw[if_pos htl,if_pos hm];exact g1,g2⟩
   ·exact⟨r,c,l,by simp only[Sh.back];rw[if_pos htl,if_neg hm];exact ht,.inr ⟨rfl,rfl,rfl⟩⟩
  ·rcases bρ b r hb with⟨_,h3⟩|⟨_,h3⟩
   ·exact .inl h3
   ·rcases st.ext.newρ _ _ h3 with h4|h4
    ·rw[(sub0 _).1]at h4;cases h4
    ·exact .inr h4
  ·rcases bτ t _ ht with⟨_,hm,h3⟩|⟨_,_,h3⟩|⟨_,h3⟩
   ·rcases st.ext.newτ _ _ _ _ h3 with⟨c0,l0,h4⟩|h4
    ·refine .inl ⟨c0,l0,?_⟩
     simp only[Sh.sub,qeq hm]at h4
     exact h4
    ·exact .inr h4
   ·exact .inl ⟨c,l,h3⟩
   ·rcases st.ext.newτ _ _ _ _ h3 with⟨c0,l0,h4⟩|h4
    ·rw[(sub0 _).2]at h4;cases h4
    ·exact .inr h4
  ·rcases st.ext.newM a v ha with h3|h3|⟨t,c,l,h3⟩
   ·exact .inl h3
   ·exact .inr (.inl h3)
   ·simp only[Sh.sub]at h3
    cases hb:idx[t]? with
    |none=>simp[hb]at h3
    |some b=>simp[hb]at h3;exact .inr (.inr ⟨b,c,l,h3⟩)
 have back:∀{a:AVal} {v:Value},VR S1 a v→VR (S.back S1 h.length idx) (ren (qe9 h.length idx) a) v:=by
  intro a v hv
  refine hv.ren (S:=S1) (S':=S.back S1 h.length idx) _ (fun _ _ h=>h) (fun i _=>⟨fun r hr=> ?_,fun x hx=> ?_⟩)
  ·simp only[qe9]
   split
   ·rename_i hi
    have hb:=wd hi
    rw[wb,hb,wj]
    simp only[Sh.back]
    rw[if_pos (hlt i _ hb)]
    exact(inρ i _ r hb).1 hr
   ·simp only[Sh.back]
    rw[if_neg (by omega),show idx.length+(h.length+(i-idx.length)-h.length)=i by omega]
    exact hr
  ·simp only[qe9]
   split
   ·rename_i hi
    have hb:=wd hi
    rw[wb,hb,wj]
    simp only[Sh.back]
    rw[if_pos (hlt i _ hb),if_pos (wu hi),qgn ok.nd hb]
    exact hx
   ·simp only[Sh.back]
    rw[if_neg (by omega),show idx.length+(h.length+(i-idx.length)-h.length)=i by omega]
    exact hx
 have backl:∀{l:List AVal} {x:List Value},VRl S1 l x→VRl (S.back S1 h.length idx) (renL (qe9 h.length idx) l) x:=by
  intro l x hl
  refine⟨by rw[qd4];exact hl.1,fun j u v hu hv=> ?_⟩
  rw[qg6]at hu
  cases ha:l[j]? with
  |none=>simp[ha]at hu
  |some a=>simp[ha]at hu;subst hu;exact back (hl.2 j a v ha hv)
 have keepB:∀b r,b∉idx→(S.ρ b=some r∨∃c l,S.τ b=some (r,c,l))→w'.heap[r]? =w.heap[r]? :=by
  intro b r hn hb
  have hr:r<w.heap.size:=by
   rcases hb with hb|⟨c,l,hb⟩
   ·exact(k.lt hb).2
   ·exact(k.ltτ hb).2
  refine st.fr.block r hr (fun i hi=> ?_) (fun i c l hi=> ?_)
  ·simp only[Sh.sub]at hi
   cases hq:idx[i]? with
   |none=>simp[hq]at hi
   |some q=>
    simp[hq]at hi
    rcases hb with hb|⟨c,l,hb⟩
    ·have:=k.injρ q b r hi hb;subst this;exact hn (wa hq)
    ·exact k.apart q b r c l hi hb
  ·simp only[Sh.sub]at hi
   cases hq:idx[i]? with
   |none=>simp[hq]at hi
   |some q=>
    simp[hq]at hi
    rcases hb with hb|⟨c',l',hb⟩
    ·exact k.apart b q r c l hb hi
    ·have:=k.injτ q b r c c' l l' hi hb;subst this;exact hn (wa hq)
 have keepM:∀b r o,b∉idx→(S.ρ b=some r∨∃c l,S.τ b=some (r,c,l))→S.M ⟨r,o,none⟩=none→S1.M ⟨r,o,none⟩=none:=by
  intro b r o hn hb hM
  have hr:r<w.heap.size:=by
   rcases hb with hb|⟨c,l,hb⟩
   ·exact(k.lt hb).2
   ·exact(k.ltτ hb).2
  cases hv:S1.M ⟨r,o,none⟩with
  |none=>rfl
  |some v=>
   exfalso
   rcases st.ext.newM _ v hv with h3|h3|⟨t,c,l,h3⟩
   ·have h4:S.M ⟨r,o,none⟩=some v:=h3
    rw[hM]at h4;cases h4
   ·simp at h3;omega
   ·simp only[Sh.sub]at h3
    cases hq:idx[t]? with
    |none=>simp[hq]at h3
    |some q=>
     simp[hq]at h3
     rcases hb with hb|⟨c',l',hb⟩
     ·exact k.apart b q r c l hb h3
     ·have:=k.injτ q b r c c' l l' h3 hb;subst this;exact hn (wa hq)
 have hfr:Fr S w w':=by
  refine⟨st.fr.os,st.fr.tape,st.fr.output,st.fr.size,fun q hq g1 g2=>st.fr.block q hq (fun i hi=> ?_) (fun i c l hi=> ?_)⟩
  ·simp only[Sh.sub]at hi
   cases hb:idx[i]? with
   |none=>simp[hb]at hi
   |some b=>simp[hb]at hi;exact g1 b hi
  ·simp only[Sh.sub]at hi
   cases hb:idx[i]? with
   |none=>simp[hb]at hi
   |some b=>simp[hb]at hi;exact g2 b c l hi
 refine⟨⟨hext,hfr,?_⟩,back⟩
 constructor
 ·exact k1.imm
 ·intro b cs hb
  by_cases hbl:b<h.length
  ·by_cases hm:b∈idx
   ·have hi:=qeq hm
    rw[bk.inn _ _ hi]at hb
    cases hx:h1[idx.idxOf b]? with
    |none=>simp[hx]at hb
    |some x=>
     simp only[hx,wh,Option.some.injEq]at hb
     cases x with
     |tok l e=>simp[renB]at hb
     |box cs1=>
      simp only[renB,Blk.box.injEq]at hb
      subst hb
      obtain⟨r,C,T,g1,g2,g3,g4⟩:=k1.box _ cs1 hx
      exact⟨r,C,T,by simp only[Sh.back];rw[if_pos hbl];exact(inρ _ _ r hi).1 g1,g2,backl g3,g4⟩
   ·rw[bk.out b hbl hm]at hb
    obtain⟨r,C,T,g1,g2,g3,g4⟩:=k.box b cs hb
    exact⟨r,C,T,by simp only[Sh.back];rw[if_pos hbl];exact g1,(keepB b r hm (.inl g1)).trans g2,g3.ext hext,fun o=>keepM b r o hm (.inl g1) (g4 o)⟩
  ·rw[bk.new b (by omega)]at hb
   cases hx:h1[idx.length+(b-h.length)]? with
   |none=>simp[hx]at hb
   |some x=>
    simp only[hx,wh,Option.some.injEq]at hb
    cases x with
    |tok l e=>simp[renB]at hb
    |box cs1=>
     simp only[renB,Blk.box.injEq]at hb
     subst hb
     obtain⟨r,C,T,g1,g2,g3,g4⟩:=k1.box _ cs1 hx
     exact⟨r,C,T,by simp only[Sh.back];rw[if_neg hbl];exact g1,g2,backl g3,g4⟩
 ·intro b len e hb
  by_cases hbl:b<h.length
  ·by_cases hm:b∈idx
   ·have hi:=qeq hm
    rw[bk.inn _ _ hi]at hb
    cases hx:h1[idx.idxOf b]? with
    |none=>simp[hx]at hb
    |some x=>
     simp only[hx,wh,Option.some.injEq]at hb
     cases x with
     |box cs1=>simp[renB]at hb
     |tok l0 e0=>
      simp only[renB,Blk.tok.injEq]at hb
      obtain⟨rfl,rfl⟩:=hb
      obtain⟨r,cap,C,q,g1,g2⟩:=k1.tok _ _ _ hx
      exact⟨r,cap,C,q,by simp only[Sh.back];rw[if_pos hbl,if_pos hm];exact g1,g2⟩
   ·rw[bk.out b hbl hm]at hb
    obtain⟨r,cap,C,q,g1,g2,g3,g4,g5,g6,g7,g8⟩:=k.tok b len e hb
    exact⟨r,cap,C,q,by simp only[Sh.back];rw[if_pos hbl,if_neg hm];exact g1,(keepB b r hm (.inr ⟨cap,len,g1⟩)).trans g2,g3,g4,g5,g6,g7,fun o ho=>keepM b r o hm (.inr ⟨cap,len,g1⟩) (g8 o ho)⟩
  ·rw[bk.new b (by omega)]at hb
   cases hx:h1[idx.length+(b-h.length)]? with
   |none=>simp[hx]at hb
   |some x=>
    simp only[hx,wh,Option.some.injEq]at hb
    cases x with
    |box cs1=>simp[renB]at hb
    |tok l0 e0=>
     simp only[renB,Blk.tok.injEq]at hb
     obtain⟨rfl,rfl⟩:=hb
     obtain⟨r,cap,C,q,g1,g2⟩:=k1.tok _ _ _ hx
     exact⟨r,cap,C,q,by simp only[Sh.back];rw[if_neg hbl];exact g1,g2⟩
 ·intro b r hb
  rcases bρ b r hb with⟨hbl,h3⟩|⟨hbl,h3⟩
  ·by_cases hm:b∈idx
   ·have hi:=qeq hm
    obtain⟨cs,h4⟩:=k1.ρdom _ r ((inρ _ _ r hi).2 h3)
    exact⟨_,by rw[bk.inn _ _ hi,h4];rfl⟩
   ·obtain⟨cs,h4⟩:=k.ρdom b r h3
    exact⟨cs,by rw[bk.out b hbl hm];exact h4⟩
  ·obtain⟨cs,h4⟩:=k1.ρdom _ r h3
   exact⟨_,by rw[bk.new b hbl,h4];rfl⟩
 ·intro b x hb
  rcases bτ b x hb with⟨hbl,hm,h3⟩|⟨hbl,hm,h3⟩|⟨hbl,h3⟩
  ·obtain⟨e,h4⟩:=k1.τdom _ x h3
   exact⟨e,by rw[bk.inn _ _ (qeq hm),h4];rfl⟩
  ·obtain⟨e,h4⟩:=k.τdom b x h3
   exact⟨e,by rw[bk.out b hbl hm];exact h4⟩
  ·obtain⟨e,h4⟩:=k1.τdom _ x h3
   exact⟨e,by rw[bk.new b hbl,h4];rfl⟩
 ·intro b b' r hb hb'
  have fresh:∀q,S1.ρ (idx.length+q)=some r→w.heap.size≤r:=fun q hq=>by
   rcases st.ext.newρ _ _ hq with h4|h4
   ·rw[(sub0 _).1]at h4;cases h4
   ·exact h4
  rcases bρ b r hb with⟨h3,h4⟩|⟨h3,h4⟩
  ·rcases bρ b' r hb' with⟨h5,h6⟩|⟨h5,h6⟩
   ·exact k.injρ b b' r h4 h6
   ·have:=fresh _ h6;have:=(k.lt h4).2;omega
  ·rcases bρ b' r hb' with⟨h5,h6⟩|⟨h5,h6⟩
   ·have:=fresh _ h4;have:=(k.lt h6).2;omega
   ·have:=k1.injρ _ _ r h4 h6;omega
 ·intro b b' r c c' l l' hb hb'
  have fresh:∀q c l,S1.τ (idx.length+q)=some (r,c,l)→w.heap.size≤r:=fun q c l hq=>by
   rcases st.ext.newτ _ _ _ _ hq with⟨_,_,h4⟩|h4
   ·rw[(sub0 _).2]at h4;cases h4
   ·exact h4
  have known:∀b c l,b∈idx→S1.τ (idx.idxOf b)=some (r,c,l)→(∃c0 l0,S.τ b=some (r,c0,l0))∨w.heap.size≤r:=fun b c l hm hq=>by
   rcases st.ext.newτ _ _ _ _ hq with⟨c0,l0,h4⟩|h4
   ·simp only[Sh.sub,qeq hm]at h4;exact .inl ⟨c0,l0,h4⟩
   ·exact .inr h4
  rcases bτ b _ hb with⟨h3,hm,h4⟩|⟨h3,hm,h4⟩|⟨h3,h4⟩
  ·rcases bτ b' _ hb' with⟨h5,hm',h6⟩|⟨h5,hm',h6⟩|⟨h5,h6⟩
   ·have:=k1.injτ _ _ r c c' l l' h4 h6
    have e1:=qeq hm
    have e2:=qeq hm'
    rw[this,e2]at e1
    exact(Option.some.inj e1).symm
   ·exfalso
    rcases known b c l hm h4 with⟨c0,l0,h7⟩|h7
    ·have:=k.injτ b b' r c0 c' l0 l' h7 h6;subst this;exact hm' hm
    ·have:=(k.ltτ h6).2;omega
   ·exfalso
    have:=k1.injτ _ _ r c c' l l' h4 h6
    have:=wi hm
    omega
  ·rcases bτ b' _ hb' with⟨h5,hm',h6⟩|⟨h5,hm',h6⟩|⟨h5,h6⟩
   ·exfalso
    rcases known b' c' l' hm' h6 with⟨c0,l0,h7⟩|h7
    ·have:=k.injτ b b' r c c0 l l0 h4 h7;subst this;exact hm hm'
    ·have:=(k.ltτ h4).2;omega
   ·exact k.injτ b b' r c c' l l' h4 h6
   ·have:=fresh _ _ _ h6;have:=(k.ltτ h4).2;omega
  ·rcases bτ b' _ hb' with⟨h5,hm',h6⟩|⟨h5,hm',h6⟩|⟨h5,h6⟩
   ·exfalso
    have:=k1.injτ _ _ r c c' l l' h4 h6
    have:=wi hm'
    omega
   ·have:=fresh _ _ _ h4;have:=(k.ltτ h6).2;omega
   ·have:=k1.injτ _ _ r c c' l l' h4 h6;omega
 ·intro b b' r c l hb hb'
  rcases bρ b r hb with⟨h3,h4⟩|⟨h3,h4⟩
  ·rcases bτ b' _ hb' with⟨h5,hm',h6⟩|⟨h5,hm',h6⟩|⟨h5,h6⟩
   ·by_cases hm:b∈idx
    ·exact k1.apart _ _ r c l ((inρ _ _ r (qeq hm)).2 h4) h6
    ·rcases st.ext.newτ _ _ _ _ h6 with⟨c0,l0,h7⟩|h7
     ·simp only[Sh.sub,qeq hm']at h7
      exact k.apart b b' r c0 l0 h4 h7
     ·have:=(k.lt h4).2;omega
   ·exact k.apart b b' r c l h4 h6
   ·rcases st.ext.newτ _ _ _ _ h6 with⟨c0,l0,h7⟩|h7
    ·rw[(sub0 _).2]at h7;cases h7
    ·have:=(k.lt h4).2;omega
  ·rcases bτ b' _ hb' with⟨h5,hm',h6⟩|⟨h5,hm',h6⟩|⟨h5,h6⟩
   ·exact k1.apart _ _ r c l h4 h6
   ·rcases st.ext.newρ _ _ h4 with h7|h7
    ·rw[(sub0 _).1]at h7;cases h7
    ·have:=(k.ltτ h6).2;omega
   ·exact k1.apart _ _ r c l h4 h6
 ·exact qjt k hext hfr
 ·exact qmd k hext
theorem q2s [Tabs P] (hcall:qd7 P call) (hkeep:qa4 call) {g:FuncId} {args:List AVal} {h:qab} {r:CR} (e:qai call h g args=some r):
 (∃fn,P.funcs[g]? =some fn∧fn.body.isSome=true∧(fn.name== "runtime.NumGoroutine")=false)∧
 ∀(S:Sh) (w:World) (vs:Array Value),WR P S h w→VRl S args vs.toList→Calls P g vs w (qhk P S h w r):=by
 unfold qai at e
 simp only at e
 generalize hidx:qbv h 256 (qad args) []=idx at e
 have hnd:idx.Nodup:=by rw[←hidx];exact qlp h _ _ _ wv
 split at e
 ·rename_i hok
  obtain⟨ok,hargs⟩:=qla hnd hok
  split at e
  ·rename_i v f hr
   cases e
   obtain⟨h1,h2⟩:=hcall _ _ _ _ hr
   refine⟨h1,fun S w vs k ha=>qe5 (h2 (S.sub idx) w vs (sub_wr k ok) (ha.ren (S:=S) (S':=S.sub idx) _ (fun _ _ h=>h) (fun b hb=>qtm (hargs b hb)))) ?_⟩
   rintro e' w' ⟨u,S1,rfl,st,hv⟩
   obtain⟨g1,g2⟩:=back_wr k ok st (qju ok (hkeep _ _ _ _ hr).1)
   exact⟨u,_,rfl,g1,g2 hv⟩
  ·rename_i v f hr
   cases e
   obtain⟨h1,h2⟩:=hcall _ _ _ _ hr
   refine⟨h1,fun S w vs k ha=>qe5 (h2 (S.sub idx) w vs (sub_wr k ok) (ha.ren (S:=S) (S':=S.sub idx) _ (fun _ _ h=>h) (fun b hb=>qtm (hargs b hb)))) ?_⟩
   rintro e' w' ⟨u,S1,rfl,st,hv⟩
   obtain⟨g1,g2⟩:=back_wr k ok st (qju ok (hkeep _ _ _ _ hr).1)
   exact⟨u,_,rfl,g1,g2 hv⟩
  ·cases e
 ·cases e
theorem qwp {h:qab} {idx:List Nat} (ok:qtl h idx) {f:Eff} (hk:qg9 (subH h idx) f):qg9 h (qge h idx f):=by
 cases f with
 |same=>exact KeepH.refl _ _
 |heap h' d=>
  have bk:=qju ok hk
  refine⟨bk.len,fun b hb hd=> ?_⟩
  simp only[qge,Eff.of,Eff.dirt]at hd ⊢
  rw[we (by rw[qk9];exact hb),qhz]
  intro i hi e
  refine hd (List.mem_map.2 ⟨i,hi,?_⟩)
  have:=(wc.1 e).1
  simp only[qe9,this,if_true,wb,e,wj]
theorem q30 (hkeep:qa4 call) {g:FuncId} {args:List AVal} {h:qab} {r:CR} (e:qai call h g args=some r):qg9 h r.eff:=by
 unfold qai at e
 simp only at e
 generalize hidx:qbv h 256 (qad args) []=idx at e
 have hnd:idx.Nodup:=by rw[←hidx];exact qlp h _ _ _ wv
 split at e
 ·rename_i hok
  obtain⟨ok,hargs⟩:=qla hnd hok
  split at e
  ·rename_i v f hr;cases e;exact qwp ok (hkeep _ _ _ _ hr).1
  ·rename_i v f hr;cases e;exact qwp ok (hkeep _ _ _ _ hr).1
  ·cases e
 ·cases e
theorem qmf {h:qab} {b:Nat}:∀(n:Nat) (l done:List Nat),b∈done→b∈qbv h n l done
 |0,_,_,hb=>by unfold qbv;exact hb
 |n+1,[],_,hb=>by unfold qbv;exact hb
 |n+1,c::r,done,hb=>by
  unfold qbv
  split
  ·exact qmf n _ _ hb
  ·split
   ·exact qmf n _ _ (wo _ hb)
   ·exact qmf n _ _ (wo _ hb)
theorem qmg {h t:qab}:∀(n:Nat) (l done:List Nat),(∀b∈qbv h n l done,b<h.length)→qbv (h++t) n l done=qbv h n l done
 |0,_,_,_=>by unfold qbv;rfl
 |n+1,[],_,_=>by unfold qbv;rfl
 |n+1,c::r,done,hb=>by
  unfold qbv at hb ⊢
  split
  ·rename_i hc
   rw[if_pos hc]at hb
   exact qmg n _ _ hb
  ·rename_i hc
   rw[if_neg hc]at hb
   have hlt:c<h.length:=by
    split at hb
    ·exact hb c (qmf n _ _ (by simp))
    ·exact hb c (qmf n _ _ (by simp))
   rw[we hlt]
   cases hx:h[c]? with
   |none=>rw[hx]at hb;exact qmg n _ _ hb
   |some x=>
    rw[hx]at hb
    cases x with
    |box cs=>exact qmg n _ _ hb
    |tok l e=>exact qmg n _ _ hb
theorem callA_app (hkeep:qa4 call) {g:FuncId} {args:List AVal} {h t:qab} {v:AVal} (e:qai call h g args=some (.ret v .same)):qai call (h++t) g args=some (.ret v .same):=by
 unfold qai at e ⊢
 simp only at e ⊢
 generalize hidx:qbv h 256 (qad args) []=idx at e
 split at e
 ·rename_i hok
  have hlt:∀b∈idx,b<h.length:=by
   intro b hb
   unfold qc2 at hok
   simp only[wf]at hok
   have:=wg.1 hok.2 b hb
   split at this
   ·rename_i x hx;exact(wc.1 hx).1
   ·cases this
  have hre:qbv (h++t) 256 (qad args) []=idx:=by rw[qmg _ _ _ (by rw[hidx];exact hlt),hidx]
  have hget:∀b∈idx,(h++t)[b]? =h[b]? :=fun b hb=>we (hlt b hb)
  have hsub:subH (h++t) idx=subH h idx:=by
   unfold subH
   refine List.map_congr_left (fun b hb=> ?_)
   rw[wb,wb,hget b hb]
  have hok2:qc2 (h++t) idx args=true:=by
   unfold qc2 at hok ⊢
   simp only[wf]at hok ⊢
   refine⟨hok.1,?_⟩
   refine wg.2 (fun b hb=> ?_)
   have:=wg.1 hok.2 b hb
   rw[hget b hb];exact this
  rw[hre,if_pos hok2,hsub]
  split at e
  ·rename_i v0 e0 hr
   cases e0 with
   |same=>
    simp only[qge,Option.some.injEq,CR.ret.injEq,and_true]at e ⊢
    have hl:=(hkeep _ _ _ _ hr).2 v0 rfl
    rw[qje]at hl
    unfold lowA at hl
    rw[←e]
    refine qr5 v0 (fun b hb=> ?_)
    have:=wg.1 hl b hb
    simp only[decide_eq_true_eq]at this
    simp only[qe9,this,if_true]
   |heap h' d=>simp only[qge,Option.some.injEq,CR.ret.injEq]at e;cases e.2
  ·cases e
  ·cases e
 ·cases e
end Go.Ab
namespace Go.Ab
variable {P:Program} {S:Sh} {h:qab} {w:World}
section
variable {o:Oper} {a:Act} {next:Act→World→Prop} {Q:Exit→Act→World→Prop}
theorem qnm {v:Value} {w':World} (hr:(execOp a.eval o).run P w= .ok (.value v) w') (hn:next (a.put o.dst v) w'):o.wp P a w next Q:=by
 unfold Oper.wp;rw[hr];exact hn
theorem wp_skip' {w':World} (hr:(execOp a.eval o).run P w= .ok .skip w') (hn:next (a.put o.dst undef) w'):o.wp P a w next Q:=by
 unfold Oper.wp;rw[hr];exact hn
end
def After (P:Program) [Tabs P] (S:Sh) (h:qab) (w:World) (o:Oper) (a:Act) (next:Act→World→Prop) (Q:Exit→Act→World→Prop):OR→Prop
 | .val u f=>∀v S' w',Step P S w S' (f.of h) w'→VR S' u v→next (a.put o.dst v) w'
 | .pan u f=>∀v S' w',Step P S w S' (f.of h) w'→VR S' u v→Q (.panic [{ v,recovered:=false }]) a w'
theorem len_sound {t:TypeId} {x:AVal} {vx:Value} {n:Nat} (hx:VR S x vx) (ty:TypeId) (ats:Array TypeId) (hat:ats[0]? =some t):
 ((∃s,x= .str s∧P.underlying t=some .string∧n=s.length)∨(∃es tk e,x= .slice es tk∧P.underlying t=some (.slice e)∧n=es.length))→
 (Builtin.len_ ats ty #[vx]).run P w= .ok (.int .i64 n) w:=by
 rintro(⟨s,rfl,hu,rfl⟩|⟨es,tk,e,rfl,hu,rfl⟩)
 ·cases hx with
  |str bs _ hb=>
   have:=qmt hb
   simp[Builtin.len_,hat,run_underlying hu,goInt,this]
 ·cases hx with
  |slice _ _ ad m cap _ _ hn=>simp[Builtin.len_,hat,run_underlying hu,goInt,hn]
  |snil=>simp[Builtin.len_,hat,run_underlying hu,goInt]
theorem qr7 {f:FuncId} {fn:Func} (hfn:P.funcs[f]? =some fn) (hb:fn.body.isNone=false) (hname:(fn.name== "runtime.NumGoroutine")=false) (args:Array Value):
 (callFunc f args).run P w= .ok (.enter f args) w:=by
 simp only[callFunc,Sem.run_bind,run_program,Result.andThen_ok,hfn,hname,hb,Bool.false_eq_true,if_false,Sem.run_pure]
theorem qgo [Tabs P] {cmp:List TypeId} (hcmp:∀t∈cmp,qgg P t=true) {call:Call} (hcall:qd7 P call) (hkeep:qa4 call) {o:Oper} {a:Act} {ts:List AVal} {r:OR}
 {next:Act→World→Prop} {Q:Exit→Act→World→Prop} (k:WR P S h w) (ht:VRl S ts a.tmps.toList) (e:opA P cmp call o ts h=some r)
 (hn:After P S h w o a next Q r):o.wp P a w next Q:=by
 have val:∀{u:AVal} {v:Value},(some (OR.val u .same)=some r)→(execOp a.eval o).run P w= .ok (.value v) w→VR S u v→o.wp P a w next Q:=by
  intro u v e hr hv
  cases e
  exact qnm hr (hn v S w (.refl k) hv)
 obtain⟨dst,op,type,pos,after,guard⟩:=o
 cases op with
 |move x=>
  simp only[opA]at e
  split at e
  ·rename_i u hu
   exact val e rfl (qas ht hu)
  ·cases e
 |assign x=>
  simp only[opA]at e
  split at e
  ·rename_i u hu
   exact val e rfl (qas ht hu)
  ·cases e
 |pick c x y=>
  simp only[opA]at e
  split at e
  ·rename_i hc
   have hcv:=qas ht hc
   split at e
   ·rename_i u hu
    refine val e ?_ (qas ht hu)
    generalize hve:a.eval c=vc at hcv
    cases hcv
    simp[execOp,hve,asBool]
   ·cases e
  ·rename_i hc
   have hcv:=qas ht hc
   split at e
   ·rename_i u hu
    refine val e ?_ (qas ht hu)
    generalize hve:a.eval c=vc at hcv
    cases hcv
    simp[execOp,hve,asBool]
   ·cases e
  ·cases e
 |alloc t=>
  simp only[opA]at e
  split at e
  ·rename_i z hz
   cases e
   obtain⟨v,hv,hr⟩:=qj3 hz w S
   obtain⟨h1,h2⟩:=newBox k (C:=v.cells) (T:=t) hr.cells
   exact qnm (by simp[execOp,Instr.alloc,hv,newVar,newRow]) (hn _ _ _ h1 h2)
  ·cases e
 |box t x=>
  simp only[opA]at e
  split at e
  ·rename_i u hu
   cases e
   obtain⟨h1,h2⟩:=newBox k (C:=(a.eval x).cells) (T:=t) (qas ht hu).cells
   exact qnm (by simp[execOp,Instr.box,newVar,newRow]) (hn _ _ _ h1 h2)
  ·cases e
 |build t ps=>
  simp only[opA]at e
  split at e
  ·rename_i z fs us hz hu hp
   split at e
   ·rename_i hall
    split at e
    ·rename_i u hm
     rw[wk]at hm
     obtain⟨r',hr',rfl⟩:=hm
     obtain⟨v,hv,hvr⟩:=q0j (w:=w) ht hz hu hp hall hr'
     exact val e (by simp only[execOp,Sem.run_bind,hv,Result.andThen_ok,Sem.run_pure]) hvr
    ·cases e
   ·cases e
  ·rename_i z n el us hz hu hp
   split at e
   ·rename_i u hm
    split at hm
    ·rename_i s hs
     rw[wk]at hm
     obtain⟨r',hr',rfl⟩:=hm
     obtain⟨v,hv,hvr⟩:=q2r (w:=w) ht hz hu hp hs hr'
     exact val e (by simp only[execOp,Sem.run_bind,hv,Result.andThen_ok,Sem.run_pure]) hvr
    ·cases hm
   ·cases e
  ·cases e
 |buildSlice t n ps=>
  simp only[opA]at e
  split at e
  ·rename_i el hel
   have hu:P.underlying t=some (.slice el):=by
    unfold qg8 at hel
    split at hel
    ·rename_i e' he;cases hel;exact he
    ·cases hel
   split at e
   ·rename_i s z us hs hz hp
    split at e
    ·rename_i hc
     simp only[wf,decide_eq_true_eq,beq_iff_eq]at hc
     split at e
     ·rename_i cs hcs
      split at e
      ·rename_i es hes
       cases e
       obtain⟨v,w',S',h1,h2,h3⟩:=qvb k ht hu hs hz hp hc.1 hc.2 hcs hes
       exact qnm (by simp only[execOp,Sem.run_bind,h1,Result.andThen_ok,Sem.run_pure]) (hn _ _ _ h2 h3)
      ·cases e
     ·cases e
    ·cases e
   ·cases e
  ·cases e
 |load t x=>
  simp only[opA]at e
  split at e
  ·rename_i p hp
   split at e
   ·rename_i u hu
    obtain⟨v,hv,hvr⟩:=quz k (qas ht hp) hu
    exact val e (by simp only[execOp,Sem.run_bind,hv,Result.andThen_ok,Sem.run_pure]) hvr
   ·cases e
  ·cases e
 |store t x y=>
  simp only[opA]at e
  split at e
  ·rename_i p u hp hu
   split at e
   ·rename_i h' b hs
    cases e
    obtain⟨w',h1,h2⟩:=q0k k (qas ht hp) (qas ht hu) hs
    exact wp_skip' (by simp only[execOp,Sem.run_bind,h1,Result.andThen_ok,Sem.run_pure]) (hn _ _ _ h2 .undef)
   ·cases e
  ·cases e
 |nilCheck x=>
  simp only[opA]at e
  split at e
  ·rename_i b o hx
   have hv:=qas ht hx
   generalize hve:a.eval x=vx at hv
   cases hv with
   |ptr _ _ r hr=>exact val e (by simp[execOp,hve]) (.ptr _ _ r hr)
  ·rename_i cs o hx
   have hv:=qas ht hx
   generalize hve:a.eval x=vx at hv
   cases hv with
   |eptr _ _ r o0 vs h1 hp h2=>exact val e (by simp[execOp,hve]) (.eptr _ _ r o0 vs h1 hp h2)
  ·rename_i f p q hx
   have hv:=qas ht hx
   obtain⟨x1,y1,hve,h1,h2⟩:=hv.inv_func
   refine val e (by simp[execOp,hve];rfl) ?_
   rw[hve]at hv;exact hv
  ·cases e
 |binOp op t x y t2=>
  simp only[opA]at e
  split at e
  ·rename_i u1 u2 h1 h2
   split at e
   ·rename_i u hu
    obtain⟨v,hv,hvr⟩:=q3x (w:=w) hcmp (x:=x) (y:=y) (qas ht h1) (qas ht h2) hu
    refine val e ?_ hvr
    simp only[execOp]
    rw[Sem.run_bind,hv]
    rfl
   ·cases e
  ·cases e
 |unOp op t x=>
  simp only[opA]at e
  split at e
  ·rename_i u1 h1
   split at e
   ·rename_i u hu
    obtain⟨v,hv,hvr⟩:=unA_sound (P:=P) (w:=w) (qas ht h1) hu
    exact val e (by simp only[execOp,Sem.run_bind,hv,Result.andThen_ok,Sem.run_pure]) hvr
   ·cases e
  ·cases e
 |convert s d x=>
  simp only[opA]at e
  split at e
  ·rename_i u1 h1
   split at e
   ·rename_i u hu
    obtain⟨v,hv,hvr⟩:=q2o (P:=P) (w:=w) (qas ht h1) hu
    exact val e (by simp only[execOp,Sem.run_bind,hv,Result.andThen_ok,Sem.run_pure]) hvr
   ·cases e
  ·cases e
 |makeInterface t x=>
  simp only[opA]at e
  split at e
  ·cases e
  ·rename_i u d hni hu hd
   refine val e ?_ (.iface t _ _ (qas ht hu))
   have:(Instr.makeInterface t (a.eval x)).run P w= .ok (.iface t (a.eval x)) w:=by
    simp only[Instr.makeInterface,Sem.run_bind,run_underlying hd,Result.andThen_ok]
    rfl
   simp only[execOp,Sem.run_bind,this,Result.andThen_ok,Sem.run_pure]
  ·cases e
 |makeFunc fn first cap=>
  cases fn with
  |func f=>
   simp only[opA]at e
   split at e
   ·rename_i u1 u2 h1 h2
    have g1:=qh4 ht h1
    have g2:=qh4 ht h2
    have:=VR.func' (f:=f) g1 g2
    refine val e (v:= .func (.func f) (first.map a.eval) (cap.map a.eval)) (by simp[execOp,Instr.makeFunc]) ?_
    have e1:(first.toList.map a.eval).toArray=first.map a.eval:=by apply wq;simp
    have e2:(cap.toList.map a.eval).toArray=cap.map a.eval:=by apply wq;simp
    rw[←e1,←e2];exact this
   ·cases e
  |method=>simp[opA]at e
  |methodOf=>simp[opA]at e
  |via=>simp[opA]at e
  |yield=>simp[opA]at e
 |slice t x lo hi mx=>
  simp only[opA]at e
  split at e
  ·rename_i u1 l1 h1 m1 hx hlo hhi hmx
   split at e
   ·rename_i u hu
    obtain⟨v,hv,hvr⟩:=q0h (P:=P) (w:=w) (qas ht hx) (qqg ht hlo) (qqg ht hhi) (qqg ht hmx) hu
    exact val e (by simp only[execOp,Sem.run_bind,hv,Result.andThen_ok,Sem.run_pure]) hvr
   ·cases e
  ·cases e
 |fieldAddr s x f=>
  simp only[opA]at e
  split at e
  ·rename_i off ft b o hf hx
   have hv:=qas ht hx
   generalize hve:a.eval x=vx at hv
   cases hv with
   |ptr _ _ r hr=>
    exact val e (by simp only[execOp,hve,Sem.run_bind,qrx hf,Result.andThen_ok,Sem.run_pure]) (.ptr _ _ r hr)
  ·rename_i off ft cs o hf hx
   have hv:=qas ht hx
   generalize hve:a.eval x=vx at hv
   cases hv with
   |eptr _ _ r o0 vs h1 hp h2=>
    refine val e (v:= .pointer (some ⟨r,o0+(o+off),none⟩)) ?_ (.eptr _ _ r o0 vs h1 hp h2)
    simp only[execOp,hve,Sem.run_bind,qrx hf,Result.andThen_ok,Sem.run_pure,Nat.add_assoc]
  ·cases e
 |field t x f=>
  simp only[opA]at e
  split at e
  ·rename_i off ft cs hf hx
   split at e
   ·rename_i u hu
    obtain⟨y,hve,hy⟩:=(qas ht hx).inv_agg
    obtain⟨v,hv,hvr⟩:=q2p (P:=P) (w:=w) hf hy hu
    exact val e (by simp only[execOp,hve,Sem.run_bind,hv,Result.andThen_ok,Sem.run_pure]) hvr
   ·cases e
  ·cases e
 |indexAddr t x i=>
  simp only[opA]at e
  split at e
  ·rename_i el es tk kd n hu hx hi
   split at e
   ·rename_i cs s hc hs
    split at e
    ·rename_i hb
     simp only[wf,decide_eq_true_eq,beq_iff_eq]at hb
     have hiv:=qas ht hi
     generalize hie:a.eval i=vi at hiv
     cases hiv
     obtain⟨v,hv,hvr⟩:=qwl (P:=P) (w:=w) (k:=kd) hu (qas ht hx) hc (hb.2▸hs) hb.1
     exact val e (by simp only[execOp,hie,Sem.run_bind,hv,Result.andThen_ok,Sem.run_pure]) hvr
    ·cases e
   ·cases e
  ·rename_i len el b o kd n hu hx hi
   split at e
   ·rename_i s hs
    split at e
    ·rename_i hb
     simp only[wf,decide_eq_true_eq]at hb
     have hiv:=qas ht hi
     generalize hie:a.eval i=vi at hiv
     cases hiv
     have hv:=qas ht hx
     generalize hve:a.eval x=vx at hv
     cases hv with
     |ptr _ _ r hr=>
      exact val e (by simp only[execOp,hve,hie,Sem.run_bind,qwm hu hs hb.1 hb.2,Result.andThen_ok,Sem.run_pure]) (.ptr _ _ r hr)
    ·cases e
   ·cases e
  ·cases e
 |index t x i=>
  simp only[opA]at e
  split at e
  ·rename_i s kd n hu hx hi
   split at e
   ·rename_i b hb
    split at e
    ·rename_i h0
     have hiv:=qas ht hi
     generalize hie:a.eval i=vi at hiv
     cases hiv
     exact val e (by simp only[execOp,hie,Sem.run_bind,q0i hu (qas ht hx) hb h0,Result.andThen_ok,Sem.run_pure]) (.int _ _)
    ·cases e
   ·cases e
  ·rename_i len el cs kd n hu hx hi
   split at e
   ·rename_i s hs
    split at e
    ·rename_i hb
     simp only[wf,decide_eq_true_eq]at hb
     split at e
     ·rename_i u hu'
      have hiv:=qas ht hi
      generalize hie:a.eval i=vi at hiv
      cases hiv
      obtain⟨y,hve,hy⟩:=(qas ht hx).inv_agg
      obtain⟨v,hv,hvr⟩:=q2q (P:=P) (w:=w) (k:=kd) hu hs hy hb.1 hb.2 hu'
      exact val e (by simp only[execOp,hve,hie,Sem.run_bind,hv,Result.andThen_ok,Sem.run_pure]) hvr
     ·cases e
    ·cases e
   ·cases e
  ·cases e
 |typeAssert x xt t ok=>
  simp only[opA]at e
  split at e
  ·cases e
  ·rename_i t' u d z hni hx hd hz
   have hv:=qas ht hx
   generalize hve:a.eval x=vx at hv
   obtain⟨vz,hvz,hrz⟩:=qj3 hz w S
   cases hv with
   |iface _ _ v hvr=>
   split at e
   ·rename_i htt
    subst htt
    have hrun:(Instr.typeAssert (.iface t v) xt t ok).run P w= .ok (if ok then .tuple #[v,.bool true]else v) w:=by
     cases d<;>first
      |exact(hni _ rfl).elim
      |(simp[Instr.typeAssert,run_underlying hd])
    cases ok
    ·exact val e (by simp only[execOp,hve,Sem.run_bind,hrun,Result.andThen_ok,Sem.run_pure];rfl) hvr
    ·exact val e (by simp only[execOp,hve,Sem.run_bind,hrun,Result.andThen_ok,Sem.run_pure];rfl) (VR.tuple' (.cons hvr (.cons (.bool true) (.nil S))))
   ·rename_i htt
    split at e
    ·rename_i hok
     subst hok
     have hrun:(Instr.typeAssert (.iface t' v) xt t true).run P w= .ok (.tuple #[vz,.bool false]) w:=by
      cases d<;>first
       |exact(hni _ rfl).elim
       |(simp[Instr.typeAssert,run_underlying hd,Ne.symm htt,hvz])
     exact val e (by simp only[execOp,hve,Sem.run_bind,hrun,Result.andThen_ok,Sem.run_pure]) (VR.tuple' (.cons hrz (.cons (.bool false) (.nil S))))
    ·cases e
  ·rename_i d z hni hx hd hz
   have hv:=qas ht hx
   generalize hve:a.eval x=vx at hv
   obtain⟨vz,hvz,hrz⟩:=qj3 hz w S
   cases hv
   split at e
   ·rename_i hok
    subst hok
    have hrun:(Instr.typeAssert .nilIface xt t true).run P w= .ok (.tuple #[vz,.bool false]) w:=by
     cases d<;>first
      |exact(hni _ rfl).elim
      |(simp[Instr.typeAssert,run_underlying hd,hvz])
    exact val e (by simp only[execOp,hve,Sem.run_bind,hrun,Result.andThen_ok,Sem.run_pure]) (VR.tuple' (.cons hrz (.cons (.bool false) (.nil S))))
   ·cases e
  ·cases e
 |extract x i=>
  simp only[opA]at e
  split at e
  ·rename_i vs hx
   split at e
   ·rename_i u hu
    obtain⟨y,hve,hy⟩:=(qas ht hx).inv_tuple
    obtain⟨v,hv,hvr⟩:=hy.get hu
    rw[Array.getElem?_toList]at hv
    exact val e (by simp[execOp,hve,Instr.extract,hv]) hvr
   ·cases e
  ·cases e
 |panic x=>
  simp only[opA]at e
  split at e
  ·rename_i t u hx
   cases e
   have hv:=qas ht hx
   generalize hve:a.eval x=vx at hv
   cases hv with
   |iface _ _ v hvr=>
    unfold Oper.wp
    have:(execOp a.eval { dst:=dst,op:= .panic x,type:=type,pos:=pos,after:=after,guard:=guard }).run P w= .halt (.panic (.iface t v)) w:=by
     simp[execOp,hve,Instr.panic]
    rw[this]
    exact hn _ S w (.refl k) (.iface t u v hvr)
  ·cases e
 |call c=>
  obtain⟨callee,args,ats⟩:=c
  cases callee with
  |invoke=>simp[opA]at e
  |value f=>
   simp only[opA]at e
   split at e
   ·rename_i g first cap as hf has
    split at e
    ·rename_i r' hr'
     cases e
     obtain⟨x1,y1,hve,h1,h2⟩:=(qas ht hf).inv_func
     have h3:=qh4 ht has
     obtain⟨⟨fn,hfn,hbody,hname⟩,hc⟩:=q2s hcall hkeep hr'
     have hbn:fn.body.isNone=false:=by cases hb:fn.body<;>simp_all
     have hall:VRl S (first++as.map argA++cap) (x1++args.map a.eval++y1).toList:=by
      simp only[Array.toList_append,Array.toList_map]
      exact(h1.append h3.map_arg).append h2
     have hcl:=hc S w _ k hall
     unfold Oper.wp
     have:(execOp a.eval { dst:=dst,op:= .call { callee:= .value f,args:=args,argTypes:=ats },type:=type,pos:=pos,after:=after,guard:=guard }).run P w=
      .ok (.enter g (x1++args.map a.eval++y1)) w:=by
      simp only[execOp,resolve,hve,Deferred.ofValue,Sem.run_bind,Sem.run_pure,Result.andThen_ok,invoke,qr7 hfn hbn hname]
     rw[this,Oper.upon_enter]
     refine qe5 hcl fun e' w' hp=> ?_
     cases r' with
     |ret u f'=>
      obtain⟨v,S',rfl,hst,hvr⟩:=hp
      exact hn v S' w' hst hvr
     |pan u f'=>
      obtain⟨v,S',rfl,hst,hvr⟩:=hp
      exact hn v S' w' hst hvr
    ·cases e
   ·cases e
  |builtin b=>
   simp only[opA]at e
   split at e
   ·rename_i x t has hat
    have hA:=qh4 ht has
    obtain⟨vx,l,hm,hx,hl⟩:=hA.inv_cons
    have hl0:=hl.inv_nil
    subst hl0
    have hargs:args.map a.eval= #[vx]:=by apply wq;simpa using hm
    have done:∀(n:Nat),b= .len→((∃s,x= .str s∧P.underlying t=some .string∧n=s.length)∨(∃es tk e,x= .slice es tk∧P.underlying t=some (.slice e)∧n=es.length))→
     some (OR.val (.int .i64 n) .same)=some r→Oper.wp P { dst:=dst,op:= .call { callee:= .builtin b,args:=args,argTypes:=ats },type:=type,pos:=pos,after:=after,guard:=guard } a w next Q:=by
     intro n hb hcase e'
     subst hb
     have hrun:=len_sound (P:=P) (w:=w) hx type ats hat hcase
     exact val e' (by simp[execOp,resolve,hargs,invoke,builtin,hrun]) (.int _ _)
    split at e
    ·rename_i s hu
     split at e
     ·exact done _ rfl (.inl ⟨s,rfl,hu,rfl⟩) e
     ·cases e
    ·rename_i es tk el hu
     exact done _ rfl (.inr ⟨es,tk,el,rfl,hu,rfl⟩) e
    ·cases e
   ·rename_i x y t has hat
    have hA:=qh4 ht has
    obtain⟨vx,l,hm,hx,hl⟩:=hA.inv_cons
    obtain⟨vy,l2,rfl,hy,hl2⟩:=hl.inv_cons
    have hl0:=hl2.inv_nil
    subst hl0
    have hargs:args.map a.eval= #[vx,vy]:=by apply wq;simpa using hm
    split at e
    ·split at e
     ·rename_i u f' hap
      split at e
      ·rename_i hat2
       cases e
       have hat2:ats[1]? =some t:=by simpa using hat2
       obtain⟨v,w',S',h1,h2,h3⟩:=qz2 k (ty:=type) hx hy hap
       have hsame:(Builtin.append_ ats type #[vx,vy]).run P w= .ok v w':=by
        have:Builtin.append_ ats type #[vx,vy]=Builtin.append_ #[t,t] type #[vx,vy]:=by
         simp only[Builtin.append_,hat,hat2]
         rfl
        rw[this];exact h1
       exact qnm (by simp[execOp,resolve,hargs,invoke,builtin,hsame]) (hn _ _ _ h2 h3)
      ·cases e
     ·cases e
    ·split at e
     ·rename_i u hu
      unfold maxA at hu
      split at hu
      ·rename_i hl'
       cases hl'
       split at hu
       ·rename_i hk
        subst hk
        cases hx;cases hy
        cases hu
        exact val e (by simp[execOp,resolve,hargs,invoke,builtin,Builtin.max_,Builtin.max2]) (.int _ _)
       ·cases hu
      ·cases hu
     ·cases e
    ·split at e
     ·rename_i u hu
      unfold minA at hu
      split at hu
      ·rename_i hl'
       cases hl'
       split at hu
       ·rename_i hk
        subst hk
        cases hx;cases hy
        cases hu
        exact val e (by simp[execOp,resolve,hargs,invoke,builtin,Builtin.min_,Builtin.min2]) (.int _ _)
       ·cases hu
      ·cases hu
     ·cases e
    ·cases e
   ·cases e
 |insert=>simp[opA]at e
 |ready=>simp[opA]at e
 |waits=>simp[opA]at e
 |sliceToArrayPointer=>simp[opA]at e
 |makeMap=>simp[opA]at e
 |makeChan=>simp[opA]at e
 |makeSlice=>simp[opA]at e
 |lookup=>simp[opA]at e
 |mapUpdate=>simp[opA]at e
 |mapEntry=>simp[opA]at e
 |entryStore=>simp[opA]at e
 |range=>simp[opA]at e
 |next=>simp[opA]at e
 |entry=>simp[opA]at e
 |go=>simp[opA]at e
 |defer=>simp[opA]at e
 |send=>simp[opA]at e
 |recv=>simp[opA]at e
 |select=>simp[opA]at e
end Go.Ab
