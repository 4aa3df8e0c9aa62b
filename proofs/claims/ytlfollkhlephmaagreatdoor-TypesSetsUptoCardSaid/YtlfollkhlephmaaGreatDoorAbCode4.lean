/- Regions whose order is open: soundness. -/
import Derived.Test.YtlfollkhlephmaaGreatDoorAbSwap
set_option linter.unusedSimpArgs false
set_option linter.unusedVariables false
set_option maxRecDepth 100000
set_option maxHeartbeats 4000000
open Bool renaming and_eq_true→wa,or_eq_true→ww,not_eq_true'→wda
open List renaming all_eq_true→wb,range'→wg,mem_filter→wh,getElem?_eq_some_iff→wi,mem_of_getElem?→wj,pairwise_cons→wm,mem_range'→wo,cons_append→ws,filter_cons_of_pos→wt,filter_cons_of_neg→wu,mem_map→w3,contains_eq_mem→w4,mem_cons→w5,mem_append→w6,pairwise_lt_range'→w7,pairwise_append→w8,getD_eq_getElem?_getD→waa,getElem?_append_right→wba,filter_congr→wca,getElem?_append_left→wea,getElem?_eq_getElem→wfa,getElem?_cons_zero→wha,mem_range→wia,getElem?_set_ne→wja,range_eq_range'→wka,Pairwise→wla,filter_eq_self→wma,mem_eraseDups→wna,getElem?_drop→woa,mem_flatMap→wqa,nil_append→wra
open Array renaming getD_eq_getD_getElem?→wc,getElem?_toList→wd,getElem?_eq_getElem→we,all_eq_true_iff_forall_mem→wk,replicate→w9,getElem?_replicate→wga
open Nat renaming le_refl→wl,zero_le→wpa,add_zero→wsa,sub_self→wta,lt_trans→wua,le_trans→wva
open Option renaming getD_some→wq,map_some→wz
namespace Go.Ab
variable {P:Program} {cmp:List TypeId} {call:Call}
def qcm (o:Oper):List Nat:=(o.after.toList.filter (Go.Region.binds .any)).map fun e=>e.on
theorem qhg:∀(ops:List Oper) (acc:List (List Nat)) (j:Nat),j<acc.length→(ancs acc ops)[j]? =acc[j]?
 |[],acc,j,h=>rfl
 |o::r,acc,j,h=>by
  simp only[ancs]
  rw[qhg r _ j (by simp;omega),wea h]
theorem qng:∀(ops:List Oper) (acc:List (List Nat)) (j:Nat) (o:Oper),ops[j]? =some o→(∀x∈qcm o,x<acc.length+j)→
 ∀x∈(ancs acc ops).getD (acc.length+j) [],x∈qcm o∨∃p∈qcm o,x∈(ancs acc ops).getD p []
 |[],acc,j,o,h,_=>by simp at h
 |q::r,acc,0,o,h,hp=>by
  simp at h;subst h
  intro x hx
  have hlen:∀a:List Nat,(acc++[a]).length=acc.length+1:=by simp
  simp only[ancs,wsa,waa]at hx ⊢
  rw[qhg r _ acc.length (by rw[hlen];omega),wba (wl _)]at hx
  simp only[wta,wha,wq,wna,wqa]at hx
  obtain⟨e,he,hx⟩:=hx
  have hep:e.on∈qcm q:=by simp only[qcm,w3];exact⟨e,he,rfl⟩
  rcases w5.1 hx with rfl|hx
  ·exact .inl hep
  ·refine .inr ⟨e.on,hep,?_⟩
   have:=hp e.on hep
   rw[qhg r _ e.on (by rw[hlen];omega),wea (by omega)]
   exact hx
 |q::r,acc,j+1,o,h,hp=>by
  intro x hx
  simp only[ancs]at hx ⊢
  have:=qng r (acc++[(((q.after.toList.filter (Go.Region.binds .any)).flatMap fun e=>e.on::acc.getD e.on []).eraseDups)]) j o (by simpa using h)
   (fun x hx=>by have:=hp x hx;simp;omega) x (by
    rw[show(acc++[(((q.after.toList.filter (Go.Region.binds .any)).flatMap fun e=>e.on::acc.getD e.on []).eraseDups)]).length+j=acc.length+(j+1) by simp;omega]
    exact hx)
  exact this
theorem qey {ops:List Oper} (he:qcj ops=true) {j:Nat} {o:Oper} (ho:ops[j]? =some o):∀x∈qcm o,x<j:=by
 intro x hx
 have hj:j<ops.length:=(wi.1 ho).1
 unfold qcj at he
 have h1:=wb.1 he j (by simpa using hj)
 simp only[ho]at h1
 obtain⟨e,hem,rfl⟩:=w3.1 hx
 have:=wb.1 h1 e hem
 simpa using this
theorem qgj {ops:List Oper} (he:qcj ops=true) {D:Nat→Prop} (hD:∀j o,ops[j]? =some o→D j→∀x∈qcm o,D x):
 ∀(j:Nat) (o:Oper),ops[j]? =some o→(∀x∈qcm o,D x)→∀x∈(ancs [] ops).getD j [],D x:=by
 intro j
 induction j using Nat.strongRecOn with
 |_ j ih=>
  intro o ho hp x hx
  have hm:=qng ops [] j o ho (fun x hx=>by simpa using qey he ho x hx) x (by simpa using hx)
  rcases hm with hm|⟨p,hpm,hx'⟩
  ·exact hp x hm
  ·have hlt:=qey he ho p hpm
   have hpl:p<ops.length:=wua hlt (wi.1 ho).1
   have hop:=wfa hpl
   exact ih p hlt ops[p] hop (hD p _ hop (hp p hpm)) x hx'
theorem qlr {ops:List Oper} (he:qcj ops=true) {j:Nat} {o:Oper} (ho:ops[j]? =some o):∀x∈(ancs [] ops).getD j [],x<j:=by
 intro x hx
 exact qgj he (D:=fun x=>x<j) (fun i o' hi hij x hx=>wua (qey he hi x hx) hij) j o ho (fun x hx=>qey he ho x hx) x hx
theorem qk7:∀(ops:List Oper) (acc:List (List Nat)) (j:Nat) (o:Oper),ops[j]? =some o→∀x∈qcm o,x∈(ancs acc ops).getD (acc.length+j) []
 |[],acc,j,o,h=>by simp at h
 |q::r,acc,0,o,h=>by
  simp at h;subst h
  intro x hx
  simp only[ancs,wsa,waa]
  rw[qhg r _ acc.length (by simp),wba (wl _)]
  simp only[wta,wha,wq,wna,wqa]
  obtain⟨e,he,rfl⟩:=w3.1 hx
  exact⟨e,he,by simp⟩
 |q::r,acc,j+1,o,h=>by
  intro x hx
  simp only[ancs]
  have:=qk7 r (acc++[(((q.after.toList.filter (Go.Region.binds .any)).flatMap fun e=>e.on::acc.getD e.on []).eraseDups)]) j o (by simpa using h) x hx
  rw[show acc.length+(j+1)=(acc++[(((q.after.toList.filter (Go.Region.binds .any)).flatMap fun e=>e.on::acc.getD e.on []).eraseDups)]).length+j by simp;omega]
  exact this
theorem predB_mem {q:Nat} {o:Oper} (h:qbb q o.after.toList=true):q∈qcm o:=by
 have key:∀l:List Edge,qbb q l=true→q∈(l.filter (Go.Region.binds .any)).map fun e=>e.on:=by
  intro l
  induction l with
  |nil=>intro h;simp[qbb]at h
  |cons e r ih=>
   intro h
   simp only[qbb,ww,wa,beq_iff_eq]at h
   rcases h with⟨h1,h2⟩|h
   ·rw[wt h1];simp[h2]
   ·have:=ih h
    by_cases hb:Go.Region.binds .any e=true
    ·rw[wt hb];simp only[List.map_cons,w5];exact .inr this
    ·rw[wu hb];exact this
 exact key _ h
theorem qjy {ops:List Oper} (h:qci ops=true):ssaL ops=true:=by
 unfold qci at h
 simp only[wa]at h
 exact h.1
theorem qib {ops:List Oper} (h:qci ops=true) {i j:Nat} (hij:i<j) {x y:Oper} (hx:ops[i]? =some x) (hy:ops[j]? =some y) (hn:i∉(ancs [] ops).getD j []):((qh1 ops x y=true∨qkq ops i x y=true)∨qkr ops i x y=true)∨qgp ops x y=true:=by
 have hj:j<ops.length:=(wi.1 hy).1
 unfold qci at h
 simp only[wa]at h
 have h1:=wb.1 h.2 j (by simpa using hj)
 have h2:=wb.1 h1 i (by simpa using hij)
 simp only[ww,w4,decide_eq_true_eq,hx,hy]at h2
 exact h2.resolve_left hn
theorem qk8 {ops:List Oper} {i j:Nat} {y:Oper} (hy:ops[j]? =some y) (hc:cls y≠0) (hij:i≠j) (h1:j∉(ancs [] ops).getD i []) (h2:i∉(ancs [] ops).getD j []):qda ops i=false:=by
 cases hs:qda ops i with
 |false=>rfl
 |true=>
  unfold qda at hs
  have hj:j<ops.length:=(wi.1 hy).1
  have:=wb.1 hs j (by simpa using hj)
  simp only[hy,ww,beq_iff_eq,w4,decide_eq_true_eq]at this
  rcases this with((h|h)|h)|h
  ·exact absurd h.symm hij
  ·exact absurd h hc
  ·exact absurd h h1
  ·exact absurd h h2
theorem qk9 {ops:List Oper} {i j:Nat} {x y:Oper} (hx:ops[i]? =some x) (hy:ops[j]? =some y) (hc:cls y≠0) (hc1:cls y≠1) (hmk:¬(isMk y=true∧isCt x=true)) (hij:i≠j) (h1:j∉(ancs [] ops).getD i []) (h2:i∉(ancs [] ops).getD j []):qe8 ops i=false:=by
 cases hs:qe8 ops i with
 |false=>rfl
 |true=>
  exfalso
  unfold qe8 at hs
  have:=wb.1 hs j (by simpa using(wi.1 hy).1)
  simp only[hx,hy,Option.any_some,ww,beq_iff_eq,wa,w4,decide_eq_true_eq]at this
  rcases this with((h|(h|h)|h)|h)|h
  ·exact hij h.symm
  ·exact hc h
  ·exact hc1 h
  ·exact hmk h
  ·exact h1 h
  ·exact h2 h
def Like (n:Nat) (s s':St):Prop:=∃N σ τ,Sw n N σ τ∧N≤s.heap.length∧RenS σ s s'
theorem Like.refl (n:Nat) (s:St):Like n s s:=by
 refine⟨0,id,id,⟨fun _=>rfl,fun _=>rfl,fun _ _=>rfl,fun _ _=>rfl⟩,wpa _,⟨?_,rfl,fun b=> ?_⟩⟩
 ·exact(qam s.tmps (fun _ _=>rfl)).symm
 ·cases h:s.heap[b]? with
  |none=>simp[h]
  |some x=>
   have:renB id x=x:=by
    cases x with
    |tok=>rfl
    |box cs=>exact congrArg Blk.box (qam (σ:=id) cs (fun _ _=>rfl))
    |arr p cs l e=>simp only[renB,qam (σ:=id) cs (fun _ _=>rfl)]
    |map ks vs=>simp only[renB,qam (σ:=id) ks (fun _ _=>rfl),qam (σ:=id) vs (fun _ _=>rfl)]
   simp[h,this]
theorem Like.trans {n m:Nat} {s s' s'':St} (h:Like n s s') (k:Like m s' s'') (hm:n≤m):Like n s s'':=by
 obtain⟨N,σ,τ,h1,h2,h3⟩:=h
 obtain⟨M,σ',τ',k1,k2,k3⟩:=k
 refine⟨max N M,_,_,(h1.weak (wl n) (Nat.le_max_left N M)).comp (k1.weak hm (Nat.le_max_right N M)),?_,h3.comp k3⟩
 rw[h3.l]at k2;omega
def SameTH (s s':St):Prop:=s'.tmps=s.tmps∧s'.heap=s.heap∧∀b,b∈s'.dirty↔b∈s.dirty
theorem SameTH.refl (s:St):SameTH s s:=⟨rfl,rfl,fun _=>Iff.rfl⟩
theorem SameTH.trans {s s' s'':St} (a:SameTH s s') (b:SameTH s' s''):SameTH s s'':=⟨b.1.trans a.1,b.2.1.trans a.2.1,fun c=>(b.2.2 c).trans (a.2.2 c)⟩
theorem SameTH.symm {s s':St} (a:SameTH s s'):SameTH s' s:=⟨a.1.symm,a.2.1.symm,fun c=>(a.2.2 c).symm⟩
theorem Like.sameL {n:Nat} {s s0 s':St} (h:Like n s s') (k:SameTH s s0):Like n s0 s':=by
 obtain⟨N,σ,τ,h1,h2,h3⟩:=h
 exact⟨N,σ,τ,h1,by rw[k.2.1];exact h2,⟨by rw[k.1];exact h3.t,by rw[k.2.1];exact h3.l,by rw[k.2.1];exact h3.h⟩⟩
theorem Like.sameR {n:Nat} {s s0 s':St} (h:Like n s s') (k:SameTH s' s0):Like n s s0:=by
 obtain⟨N,σ,τ,h1,h2,h3⟩:=h
 exact⟨N,σ,τ,h1,h2,⟨by rw[k.1];exact h3.t,by rw[k.2.1];exact h3.l,by rw[k.2.1];exact h3.h⟩⟩
theorem askD_th {lim:Nat} {ops:List Oper} {j:Nat} {o:Oper} {s s':St} {f:Eff} (k:SameTH s s') (h:askD lim ops j o s f=true):askD lim ops j o s' f=true:=
 qfl (s:=s) (fun t _=>by rw[k.1]) (fun _ h=>by rw[k.2.1];exact h) (fun _ _ _ _ _ t _=>by rw[k.1]) (fun _ b _ _ hn=> .inr fun hm=>hn ((k.2.2 b).1 hm)) h
theorem stepD_th {lim:Nat} {ops:List Oper} {j:Nat} {s s' t:St} (k:SameTH s s') (e:qat P cmp call lim ops j s=some t):∃t',qat P cmp call lim ops j s'=some t'∧SameTH t t':=by
 obtain⟨o,ho,hc⟩:=qbe e
 rcases hc with⟨wx,v,f,ov,av,rfl⟩|⟨wx,rfl⟩
 ·refine⟨⟨setT s'.tmps o.dst v,f.of s'.heap,f.dirt++s'.dirty⟩,?_,by simp only[k.1],by simp only[k.2.1],fun b=>by simp only[w6,k.2.2 b]⟩
  have av':=askD_th k av
  unfold qat
  simp only[ho,k.1,k.2.1,wx,ov,av',if_true]
 ·refine⟨⟨setT s'.tmps o.dst .undef,s'.heap,s'.dirty⟩,?_,by simp only[k.1],k.2.1,k.2.2⟩
  unfold qat
  simp only[ho,k.1,wx]
theorem opsD_th {lim:Nat} {ops:List Oper}:∀(l:List Nat) {s s' t:St},SameTH s s'→opsD P cmp call lim ops l s=some t→∃t',opsD P cmp call lim ops l s'=some t'∧SameTH t t'
 |[],s,s',t,k,e=>by cases e;exact⟨s',rfl,k⟩
 |j::l,s,s',t,k,e=>by
  simp only[opsD]at e
  split at e
  ·rename_i s1 h1
   obtain⟨s1',g1,g2⟩:=stepD_th k h1
   obtain⟨t',g3,g4⟩:=opsD_th l g2 e
   exact⟨t',by simp only[opsD,g1];exact g3,g4⟩
  ·cases e
theorem qf0 {o:Oper} (h:isSt o=true):∃t a v,o.op= .store t a v∧o.guard=none∧o.dst=none:=by
 unfold isSt at h
 split at h
 ·rename_i t a v h1 h2 h3;exact⟨_,_,_,h1,h2,h3⟩
 ·cases h
theorem swapSt {lim:Nat} {ops:List Oper} {i j:Nat} {x y:Oper} {s s1 s2:St} {fy:Eff} {pre:List Nat} (hij:i<j) (hx:ops[i]? =some x) (hy:ops[j]? =some y) (hp:qgp ops x y=true) (hssa:ssaL ops=true) (hn:i∉(ancs [] ops).getD j [])
 (hpre:∀k∈pre,i<k) (e1:qat P cmp call lim ops i s=some s1) (e2:qd1 P cmp call ops j s1 s2 fy) (ask:qgb lim ops j y pre s1 fy):
 ∃s1' s2' fy',qd1 P cmp call ops j s s1' fy'∧qat P cmp call lim ops i s1'=some s2'∧SameTH s2 s2'∧qgb lim ops j y (i::pre) s fy':=by
 unfold qgp at hp
 simp only[wa]at hp
 obtain⟨⟨⟨hsx,hsy⟩,hdp⟩,_⟩:=hp
 obtain⟨tx,ax,vx,ox,gx,dx⟩:=qf0 hsx
 obtain⟨ty,ay,vy,oy,gy,dy⟩:=qf0 hsy
 have cx:cls x=3:=by unfold cls;rw[ox]
 have cy:cls y=3:=by unfold cls;rw[oy]
 obtain⟨x',hx',c1⟩:=qbe e1
 rw[hx]at hx';cases hx'
 obtain⟨y',hy',c2⟩:=e2
 rw[hy]at hy';cases hy'
 have wx:∀ts,qak ops x ts=some true:=fun ts=>by unfold qak;rw[gx]
 have wy:∀ts,qak ops y ts=some true:=fun ts=>by unfold qak;rw[gy]
 rcases c1 with⟨_,v1,f1,o1,a1,rfl⟩|⟨h,_⟩
 rotate_left
 ·rw[wx]at h;cases h
 rcases c2 with⟨_,v2,o2,rfl⟩|⟨h,_⟩
 rotate_left
 ·rw[wy]at h;cases h
 have hst:=ask.st hsy hdp i x tx ax vx hij hx ox hn (fun k hk yk hyk d hd=>qjd hssa (Nat.le_of_lt (hpre k hk)) hx hyk (.inr cx) d hd) ty ay vy oy
 have tT:∀v,setT s.tmps x.dst v=s.tmps:=fun v=>by rw[dx];rfl
 simp only[tT]at hst o2 ask
 obtain⟨t1,a1',x1,b1,X1,p1,q1,rfl,rfl,⟨x0,hx0,hX1,_⟩,re1⟩:=qfk cx o1
 obtain⟨t2,a2',x2,b2,X2,p2,q2,rfl,rfl,⟨y0,hy0,hX2,_⟩,re2⟩:=qfk cy o2
 rw[ox]at p1;cases p1
 rw[oy]at p2;cases p2
 have m1:∃p cs l e,s.heap[b1]? =some (.arr p cs l e):=by
  rcases q1 with⟨off,h,_⟩|⟨_,_,_,h⟩
  ·have:=hst.1;rw[h]at this;cases this
  ·exact h
 have m2:∃cs,(s.heap.set b1 X1)[b2]? =some (.box cs):=by
  rcases q2 with⟨off,_,h⟩|⟨_,_,h,_⟩
  ·exact h
  ·have:=hst.2;rw[h]at this;cases this
 obtain⟨p,cs,l,e,m1⟩:=m1
 obtain⟨cs2,m2⟩:=m2
 have hlt:=(wi.1 m1).1
 have hne:b1≠b2:=by
  intro h;subst h
  rw[List.getElem?_set_self hlt]at m2
  cases m2
  rw[hx0]at m1;cases m1
  cases hX1
 have o2':=re2 s.heap (wja hne).symm
 have o1':=re1 (s.heap.set b2 X2) (wja (Ne.symm hne))
 refine⟨⟨setT s.tmps y.dst .undef,s.heap.set b2 X2,[b2]++s.dirty⟩,⟨setT (setT s.tmps y.dst .undef) x.dst .undef,(s.heap.set b2 X2).set b1 X1,[b1]++([b2]++s.dirty)⟩,_,⟨y,hy,.inl ⟨wy _,.undef,o2',rfl⟩⟩,?_,?_,?_⟩
 ·have tY:∀v,setT s.tmps y.dst v=s.tmps:=fun v=>by rw[dy];rfl
  unfold qat
  simp only[hx,wx,tY,o1']
  rw[if_pos]
  ·rfl
  ·unfold askD at a1 ⊢
   rw[cx]at a1 ⊢
   exact a1
 ·refine⟨?_,?_,fun b=> ?_⟩
  ·simp only[dx,dy,setT]
  ·exact(List.set_comm _ _ hne).symm
  ·simp only[Eff.dirt,w6,List.mem_singleton]
   constructor
   ·rintro(h|h|h)
    ·exact .inr (.inl h)
    ·exact .inl h
    ·exact .inr (.inr h)
   ·rintro(h|h|h)
    ·exact .inr (.inl h)
    ·exact .inl h
    ·exact .inr (.inr h)
 ·refine⟨fun h=>(by rw[cy]at h;cases h),fun hc q xq a b hq hxq hop hpq hk hca=> ?_,fun _ a h=>(by rw[oy]at h;cases h),fun h=>(by unfold isCt at h;rw[oy]at h;cases h),fun _ h=>(by rw[cy]at h;cases h),fun hst' hdp' q xq tq aq vq hq hxq hop hn' hk ty' a v hyo=> ?_⟩
  ·exact ask.ap hc q xq a b hq hxq hop hpq (fun k hk'=>hk k (by simp[hk'])) hca
  ·exact ask.st hst' hdp' q xq tq aq vq hq hxq hop hn' (fun k hk'=>hk k (by simp[hk'])) ty' a v hyo
theorem qhh (hLE:LowE call) {lim:Nat} {ops:List Oper} (hkeep:qaj call) (ho:qci ops=true) (he:qcj ops=true) {i:Nat} {x:Oper} (hx:ops[i]? =some x):∀(pre:List Nat),(∀p∈pre,p<i∧p∉(ancs [] ops).getD i [])→pre.Pairwise (· < ·)→
 ∀(post:List Nat),(∀q∈post,i<q)→∀(s sF:St),lim≤s.heap.length→(ops.all qbn=true→Wf s)→opsD P cmp call lim ops (pre++i::post) s=some sF→
  ∃s1 sF' f,qd1 P cmp call ops i s s1 f∧qgb lim ops i x pre s f∧opsD P cmp call lim ops (pre++post) s1=some sF'∧((sF'=sF∨(ops.all qf8=true∧SameTH sF sF'))∨(ops.all qbn=true∧lim≤s.heap.length∧Like s.heap.length sF sF'))
 |[],_,_,post,_,s,sF,_,_,e=>by
  simp only[wra,opsD]at e ⊢
  split at e
  ·rename_i s1 hs
   obtain⟨y,f,hy,h1,h2⟩:=qk2 hs
   rw[hx]at hy;cases hy
   exact⟨s1,sF,f,h1,h2,e,.inl (.inl rfl)⟩
  ·cases e
 |p::pre,hp,hsort,post,hpost,s,sF,hlim,w,e=>by
  simp only[ws,opsD]at e
  split at e
  ·rename_i s1 hs
   obtain⟨hlt,hn⟩:=hp p (by simp)
   obtain⟨y,hy,_⟩:=qbe hs
   have hb:i∉(ancs [] ops).getD p []:=fun hm=>by have:=qlr he hy i hm;omega
   obtain⟨hsp,hsort'⟩:=wm.1 hsort
   have tame:ops.all qbn=true→qbn y=true:=fun h=>wb.1 h y (wj hy)
   have hlen:=step_len hkeep hs
   obtain⟨y9,fp,hy9,np,ap⟩:=qk2 hs
   rw[hy]at hy9;cases hy9
   have w1:ops.all qbn=true→Wf s1:=fun ht=>qhe hLE hy (tame ht) (w ht) np ap.ct
   obtain⟨s2,sF',f,h1,hask,h2,h3⟩:=qhh hLE hkeep ho he hx pre (fun q hq=>hp q (by simp[hq])) hsort' post hpost s1 sF (by omega) w1 e
   rcases qib ho hlt hy hx hn with((hpr|hal)|hap)|hstp
   ·have hpb:qbb p x.after.toList=false:=by
     cases h:qbb p x.after.toList with
     |false=>rfl
     |true=>
      have:=qk7 ops [] i x hx p (predB_mem h)
      simp only[List.length_nil,Nat.zero_add]at this
      exact absurd this hn
    obtain⟨s1',g1,g2,g3⟩:=swap hlt hy hx hpr (qjy ho) hkeep (fun hc=>qk8 hx hc (by omega) hb hn) (fun hc=>qk8 hy hc (by omega) hn hb) (fun hc hc1 hm=>qk9 hy hx hc hc1 hm (by omega) hb hn) (fun hc hc1 hm=>qk9 hx hy hc hc1 hm (by omega) hn hb)
     (fun q hq=>ql5 hx hq (by omega) hb hn) (fun q hq=>ql5 hy hq (by omega) hn hb) hlim hpb hsp hs h1 hask
    refine⟨s1',sF',f,g1,g3,?_,?_⟩
    ·simp only[ws,opsD,g2]
     exact h2
    ·rcases h3 with h3|⟨ht,hl,N,σ,τ,k1,k2,k3⟩
     ·exact .inl h3
     ·exact .inr ⟨ht,hlim,N,σ,τ,k1.weak hlen (wl _),k2,k3⟩
   ·unfold qkq at hal
    simp only[wa]at hal
    obtain⟨⟨⟨⟨ay,ax⟩,hin⟩,hpl⟩,htm⟩:=hal
    obtain⟨s1',s2',fx,N,σ,τ,g1,gd,gs,g2,gw,gN,g3,gdd⟩:=swapMk hLE hy hx ay ax hin (w htm) hlim hask.ct hs h1
    have hplain:∀j∈pre++post,∀o,ops[j]? =some o→qa7 o=true:=by
     intro j hj o hjo
     have hpj:p<j:=by
      rcases w6.1 hj with hj|hj
      ·exact hsp j hj
      ·have:=hpost j hj;omega
     refine wb.1 hpl o (wj (i:=j-(p+1)) ?_)
     rw[woa,show p+1+(j-(p+1))=j by omega];exact hjo
    obtain⟨t',k1,k2,k3⟩:=qhf hLE gw hlim (pre++post) g3 gN (qhe hLE hx (wb.1 htm x (wj hx)) (w1 htm) h1 hask.ct) hplain (fun b _ hm=>by rw[gdd]at hm;exact hm) h2
    have hxc:=qkf ax
    have hcl:cls x≠1∧cls x≠3∧cls x≠5:=by rcases hxc with h|⟨h,_⟩<;>rw[h]<;>decide
    refine⟨s1',t',fx,g1,⟨fun hc=> ?_,fun _ q xq a b _ _ _ _ _ _=>by rw[gd];simp,fun _ a ha=>absurd (qg9 ha) hcl.1,fun _=>gd,fun _ hc=>absurd hc hcl.2.2,fun h=>by
     obtain⟨_,_,_,h1,_⟩:=qf0 h
     exact absurd (by unfold cls;rw[h1]) hcl.2.1⟩,?_,.inr ⟨htm,hlim,?_⟩⟩
    ·rcases hask.c4 hc with h|h|h
     ·exact .inl (by rw[gs];exact h)
     ·exact .inr (.inl h)
     ·exact .inr (.inr h)
    ·simp only[ws,opsD,g2]
     exact k1
    ·have hlike:Like s.heap.length sF' t':=⟨N,_,_,gw,by omega,k2⟩
     rcases h3 with(rfl|⟨_,hth⟩)|⟨ht,hl',hlk⟩
     ·exact hlike
     ·exact hlike.sameL hth.symm
     ·obtain⟨N,σ,τ,q1,q2,q3⟩:=hlk
      exact Like.trans ⟨N,σ,τ,q1.weak hlen (wl _),q2,q3⟩ hlike (wl _)
   ·unfold qkr at hap
    simp only[wa]at hap
    obtain⟨⟨⟨⟨ay,ax⟩,hin⟩,hpl⟩,htm⟩:=hap
    obtain⟨s1',s2',fx,g1,g2,g3⟩:=swapAp (lim:=lim) hy hx ay ax hin (w htm) hs h1
    obtain⟨tx,hxo⟩:∃t,x.op= .alloc t:=by
     unfold isAl at ax
     split at ax
     ·rename_i t h1 h2;exact⟨t,h1⟩
     ·cases ax
    have hx2:cls x=2:=by unfold cls;rw[hxo]
    have hA:qgb lim ops i x (p::pre) s fx:=⟨(fun h=>by rw[hx2]at h;cases h),(fun h=>by
     rcases h with h|h
     ·rw[hx2]at h;cases h.1
     ·rw[hx2]at h;cases h.1),(fun _ a h=>by rw[hxo]at h;cases h),(fun h=>by unfold isCt at h;rw[hxo]at h;cases h),(fun _ h=>by rw[hx2]at h;cases h),(fun h=>by
     obtain⟨_,_,_,h1,_⟩:=qf0 h
     rw[hxo]at h1;cases h1)⟩
    rcases g3 with rfl|⟨hl,hl2,g3,gdd⟩
    ·refine⟨s1',sF',fx,g1,hA,?_,?_⟩
     ·simp only[ws,opsD,g2]
      exact h2
     ·rcases h3 with h3|⟨ht,hl,N,σ,τ,k1,k2,k3⟩
      ·exact .inl h3
      ·exact .inr ⟨ht,hlim,N,σ,τ,k1.weak hlen (wl _),k2,k3⟩
    ·have hplain:∀j∈pre++post,∀o,ops[j]? =some o→qa7 o=true:=by
      intro j hj o hjo
      have hpj:p<j:=by
       rcases w6.1 hj with hj|hj
       ·exact hsp j hj
       ·have:=hpost j hj;omega
      refine wb.1 hpl o (wj (i:=j-(p+1)) ?_)
      rw[woa,show p+1+(j-(p+1))=j by omega];exact hjo
     obtain⟨t',k1,k2,k3⟩:=qhf hLE (qgs s.heap.length) hl (pre++post) g3 (by omega) (qhe hLE hx (wb.1 htm x (wj hx)) (w1 htm) h1 hask.ct) hplain gdd h2
     refine⟨s1',t',fx,g1,hA,?_,.inr ⟨htm,hl,?_⟩⟩
     ·simp only[ws,opsD,g2]
      exact k1
     ·have hlike:Like s.heap.length sF' t':=⟨s.heap.length+2,_,_,qgs _,by omega,k2⟩
      rcases h3 with(rfl|⟨_,hth⟩)|⟨ht,hl',hlk⟩
      ·exact hlike
      ·exact hlike.sameL hth.symm
      ·obtain⟨N,σ,τ,q1,q2,q3⟩:=hlk
       exact Like.trans ⟨N,σ,τ,q1.weak hlen (wl _),q2,q3⟩ hlike (wl _)
   ·obtain⟨s1',s2',fx,g1,g2,g3,g4⟩:=swapSt hlt hy hx hstp (qjy ho) hn hsp hs h1 hask
    have hmild:ops.all qf8=true:=by
     unfold qgp at hstp
     simp only[wa]at hstp
     exact hstp.2
    obtain⟨t',k1,k2⟩:=opsD_th (pre++post) g3 h2
    refine⟨s1',t',fx,g1,g4,?_,?_⟩
    ·simp only[ws,opsD,g2]
     exact k1
    ·rcases h3 with(rfl|⟨_,hth⟩)|⟨ht,hl',hlk⟩
     ·exact .inl (.inr ⟨hmild,k2⟩)
     ·exact .inl (.inr ⟨hmild,hth.trans k2⟩)
     ·obtain⟨N,σ,τ,q1,q2,q3⟩:=hlk
      exact .inr ⟨ht,hlim,Like.sameR ⟨N,σ,τ,q1.weak hlen (wl _),q2,q3⟩ k2⟩
  ·cases e
theorem Post.th [Tabs P] {S:Sh} {w:World} {ds:List Deferred} {Q:Exit→Act→World→Prop} {s s':St} (hp:Post P S w ds Q (.normal,s)) (k:SameTH s s'):Post P S w ds Q (.normal,s'):=by
 intro S' w' a' st ht hd
 have st':Step P S w S' s.heap w':=by have:=st;simp only[k.2]at this;exact this
 have ht':VRl S' s.tmps a'.tmps.toList:=by
  have h1:VRl S' s'.tmps a'.tmps.toList:=ht.vr (by simp)
  rw[k.1]at h1;exact h1
 exact hp S' w' a' st' (.inl ht') hd
theorem Post.like [Tabs P] {S:Sh} {w:World} {ds:List Deferred} {Q:Exit→Act→World→Prop} {n:Nat} {s s':St} (h:Like n s s') (hS:∀b,(∃r,S.ρ b=some r)∨(∃x,S.τ b=some x)→b<n) (hp:Post P S w ds Q (.normal,s)):Post P S w ds Q (.normal,s'):=by
 obtain⟨N,σ,τ,hw,hN,hr⟩:=h
 intro S' w' a' st ht hd
 let S2:Sh:={ M:=S'.M,ρ:=fun b=>S'.ρ (σ b),τ:=fun b=>S'.τ (σ b),F:=S'.F }
 have back:∀l:List AVal,renL τ (renL σ l)=l:=fun l=>by
  rw[qbx];exact qam l (fun b _=>hw.ts b)
 have inv':∀l x,VRl S' (renL σ l) x→VRl S2 l x:=by
  intro l x k
  have h1:=VRl.ren (S:=S') (S':=S2) τ (fun _ _ h=>h) k (fun b _=>⟨fun r hr=>by show S'.ρ (σ (τ b))=some r;rw[hw.st];exact hr,fun y hy=>by show S'.τ (σ (τ b))=some y;rw[hw.st];exact hy⟩)
  rw[back]at h1;exact h1
 have heap:∀b,s'.heap[σ b]? =(s.heap[b]?).map (renB σ):=hr.h
 have k:=st.wr
 have hwr:WR P S2 s.heap w':=
  {
   imm:=k.imm
   blk:=fun b x hb=>by
    have h1:s'.heap[σ b]? =some (renB σ x):=by rw[heap b,hb];rfl
    have h2:=k.blk (σ b) _ h1
    have h3:BR P S2 w' b (renB τ (renB σ x)):=h2.renK τ (fun r hr=>hr) (fun y hy=>hy) (fun l X _ h=>by
     have:=VRl.ren (S:=S') (S':=S2) τ (fun _ _ h=>h) h (fun b _=>⟨fun r hr=>by show S'.ρ (σ (τ b))=some r;rw[hw.st];exact hr,fun y hy=>by show S'.τ (σ (τ b))=some y;rw[hw.st];exact hy⟩)
     exact this) (fun _ _=>rfl) (fun _ _ _ h=>h)
    have h4:renB τ (renB σ x)=x:=by cases x<;>simp only[renB,back]
    rw[h4]at h3;exact h3
   ρdom:=fun b r hb=>by
    obtain⟨x,hx,hr'⟩:=k.ρdom (σ b) r hb
    rw[heap b]at hx
    cases h:s.heap[b]? with
    |none=>rw[h]at hx;cases hx
    |some y=>
     rw[h]at hx
     simp only[wz,Option.some.injEq]at hx
     subst hx
     exact⟨y,rfl,by rw[qg6]at hr';exact hr'⟩
   τdom:=fun b x hb=>by
    obtain⟨z,hz,hr'⟩:=k.τdom (σ b) x hb
    rw[heap b]at hz
    cases h:s.heap[b]? with
    |none=>rw[h]at hz;cases hz
    |some y=>
     rw[h]at hz
     simp only[wz,Option.some.injEq]at hz
     subst hz
     exact⟨y,rfl,by rw[qjb]at hr';exact hr'⟩
   injρ:=fun b b' r h1 h2=>by
    have:=k.injρ (σ b) (σ b') r h1 h2
    have h3:=congrArg τ this
    rwa [hw.ts,hw.ts]at h3
   injτ:=fun b b' r c c' l l' h1 h2=>by
    have:=k.injτ (σ b) (σ b') r c c' l l' h1 h2
    have h3:=congrArg τ this
    rwa [hw.ts,hw.ts]at h3
   apart:=fun b b' r c l h1 h2=>k.apart (σ b) (σ b') r c l h1 h2
   frz:=fun x o hx=>by
    obtain⟨h1,h2,h3⟩:=k.frz x o hx
    exact⟨h1,fun b=>h2 (σ b),fun t c l=>h3 (σ t) c l⟩
   laid:=k.laid }
 have hst:Step P S w S2 s.heap w':=
  {
   ext:={
    M:=st.ext.M
    ρ:=fun b r hb=>by
     show S'.ρ (σ b)=some r
     rw[hw.lo b (hS b (.inl ⟨r,hb⟩))];exact st.ext.ρ b r hb
    τ:=fun t r c l ht=>by
     have h1:=hw.lo t (hS t (.inr ⟨_,ht⟩))
     obtain⟨r',c',l',h2,h3⟩:=st.ext.τ t r c l ht
     refine⟨r',c',l',?_,h3⟩
     show S'.τ (σ t)=_
     rw[h1];exact h2
    newρ:=fun b r hb=>by
     have hb':S'.ρ (σ b)=some r:=hb
     rcases st.ext.newρ (σ b) r hb' with h1|h1
     ·have h2:=hS _ (.inl ⟨r,h1⟩)
      have h3:σ b=b:=by
       have h4:=hw.lo (σ b) h2
       have h5:=hw.ts (σ b)
       rw[h4,hw.ts]at h5;exact h5.symm
      rw[h3]at h1;exact .inl h1
     ·exact .inr h1
    newτ:=fun t r c l ht=>by
     have ht':S'.τ (σ t)=some (r,c,l):=ht
     rcases st.ext.newτ (σ t) r c l ht' with⟨c0,l0,h1⟩|h1
     ·have h2:=hS _ (.inr ⟨_,h1⟩)
      have h3:σ t=t:=by
       have h4:=hw.lo (σ t) h2
       have h5:=hw.ts (σ t)
       rw[h4,hw.ts]at h5;exact h5.symm
      rw[h3]at h1;exact .inl ⟨c0,l0,h1⟩
     ·exact .inr h1
    newM:=st.ext.newM
    F:=st.ext.F }
   fr:=st.fr
   wr:=hwr }
 have ht2:VRl S2 s.tmps a'.tmps.toList:=by
  have ht':VRl S' s'.tmps a'.tmps.toList:=ht.vr (by simp)
  rw[hr.t]at ht'
  exact inv' _ _ ht'
 exact hp S2 w' a' hst (.inl ht2) hd
theorem lowE_of [Tabs P] (hcall:qay P call) {S:Sh} {h:qaa} {w:World} (k:WR P S h w):LowE call:=by
 intro f v e hc
 have h0:WR P (S.sub []) [] w:=by
  have:=qkz k (idx:=[]) ((qfv (h:=h) (idx:=[]) (args:=[]) List.nodup_nil rfl).1)
  exact this
 obtain⟨_,hcl⟩:=hcall f [] [] _ hc
 obtain⟨e',w',fr,hr,_⟩:=hcl (S.sub []) w #[] h0 (.nil _)  []
 obtain⟨v',S',_,st,hv⟩:=hr
 have hw:=wf_of (s:=⟨[v],e.of [],[]⟩) st.wr (VRl.cons hv (.nil _))
 refine⟨hw.t v (by simp),fun x hx u hu=> ?_⟩
 obtain⟨b,hb,rfl⟩:=List.getElem_of_mem hx
 exact hw.h b _ (wfa hb) u hu
theorem qd2 {l:Array Bool} {i:Nat} (h:i<l.size) (d:Bool):(l.setIfInBounds i true).getD i d=true:=by
 simp[wc,h]
theorem qcz {l:Array Bool} {i j:Nat} (h:i≠j) (d:Bool):(l.setIfInBounds i true).getD j d=l.getD j d:=by
 simp[wc,h]
theorem qf1 {p:Nat→Bool} {i:Nat} (hp:p i=true):∀(n m:Nat),m≤i→i<m+n→
 ∃pre post,(wg m n).filter p=pre++i::post∧(wg m n).filter (fun j=>p j && !(j==i))=pre++post∧∀q∈pre,q<i∧p q=true
 |0,m,h1,h2=>by omega
 |n+1,m,h1,h2=>by
  rw[List.range'_succ]
  by_cases hm:m=i
  ·subst hm
   refine⟨[],(wg (m+1) n).filter p,by simp[hp],?_,by simp⟩
   rw[wu (by simp)]
   simp only[wra]
   apply wca
   intro x hx
   have:m+1≤x:=by simp[wo]at hx;omega
   have:(x==m)=false:=by simp;omega
   simp[this]
  ·obtain⟨pre,post,g1,g2,g3⟩:=qf1 hp n (m+1) (by omega) (by omega)
   have hmi:(m==i)=false:=by simp[hm]
   by_cases hpm:p m=true
   ·refine⟨m::pre,post,by rw[wt hpm,g1];rfl,by rw[wt (by simp[hpm,hmi]),g2];rfl,fun q hq=> ?_⟩
    rcases w5.1 hq with rfl|hq
    ·exact⟨by omega,hpm⟩
    ·exact g3 q hq
   ·exact⟨pre,post,by rw[wu hpm,g1],by rw[wu (by simp[hpm]),g2],g3⟩
theorem qla [Tabs P] (hcmp:∀t∈cmp,qca P t=true) (hcall:qay P call) (hkeep:qaj call) {lim:Nat} (ops:Array Oper) (ho:qci ops.toList=true) (he:qcj ops.toList=true)
 {Q:Exit→Act→World→Prop} {ds:List Deferred}:∀(fuel:Nat) (listed:Array Bool) (s sF:St) (a:Act) (S:Sh) (w:World),lim≤s.heap.length→listed.size=ops.size→
  ((wg 0 ops.size).filter fun i=> !listed.getD i true).length=fuel→(∀j o,ops.toList[j]? =some o→listed.getD j false=true→∀x∈qcm o,listed.getD x false=true)→
  WR P S s.heap w→VRl S s.tmps a.tmps.toList→a.defers=ds→opsD P cmp call lim ops.toList ((wg 0 ops.size).filter fun i=> !listed.getD i true) s=some sF→
  Post P S w ds Q (.normal,sF)→wpAny P .any ops Q fuel listed a w
 |0,listed,s,sF,a,S,w,hlm,hsz,hf,hcl,k,ht,hd,e,hp=>by
  have hnil:=List.eq_nil_of_length_eq_zero hf
  rw[hnil]at e
  cases e
  refine⟨?_,hp S w a (.refl k) (.inl ht) hd⟩
  apply List.eq_nil_iff_forall_not_mem.2
  intro i hi
  simp only[Region.ready,wh,wia,wa]at hi
  have:i∈(wg 0 ops.size).filter fun i=> !listed.getD i true:=wh.2 ⟨by simp[wo];omega,hi.2.1⟩
  rw[hnil]at this;cases this
 |fuel+1,listed,s,sF,a,S,w,hlm,hsz,hf,hcl,k,ht,hd,e,hp=>by
  have hgetD:∀i,i<ops.size→listed.getD i true=listed.getD i false:=fun i hi=>by
   have:i<listed.size:=by omega
   simp[wc,this]
  have hready:∀i,i∈Region.ready .any ops listed↔i<ops.size∧listed.getD i true=false∧∃o,ops.toList[i]? =some o∧∀x∈qcm o,listed.getD x false=true:=by
   intro i
   simp only[Region.ready,wh,wia,wa,wda]
   constructor
   ·rintro⟨h1,h2,h3⟩
    refine⟨h1,h2,ops[i],by rw[wd];exact we h1,?_⟩
    rw[we h1]at h3
    simp only[wz,wq]at h3
    intro x hx
    obtain⟨ed,hem,rfl⟩:=w3.1 hx
    have hmf:=wh.1 hem
    rw[wk]at h3
    have:=h3 ed (by simpa using hmf.1)
    simpa[hmf.2]using this
   ·rintro⟨h1,h2,o,h3,h4⟩
    refine⟨h1,h2,?_⟩
    rw[wd]at h3
    rw[h3]
    simp only[wz,wq]
    rw[wk]
    intro ed hed
    by_cases hb:Go.Region.binds .any ed=true
    ·have:=h4 ed.on (w3.2 ⟨ed,wh.2 ⟨by simpa using hed,hb⟩,rfl⟩)
     simp[this]
    ·simp[hb]
  refine⟨fun hnone=> ?_,fun i hi=> ?_⟩
  ·-- the first one that is left is ready
   exfalso
   cases hL:(wg 0 ops.size).filter fun i=> !listed.getD i true with
   |nil=>rw[hL]at hf;simp at hf
   |cons i r=>
    have him:i∈(wg 0 ops.size).filter fun i=> !listed.getD i true:=by rw[hL];simp
    obtain⟨h1,h2⟩:=wh.1 him
    have hlt:i<ops.size:=by simp[wo]at h1;omega
    have hfirst:∀q,q<i→listed.getD q false=true:=by
     intro q hq
     have hqs:q<ops.size:=by omega
     cases hb:listed.getD q false with
     |true=>rfl
     |false=>
      have hqm:q∈(wg 0 ops.size).filter fun i=> !listed.getD i true:=wh.2 ⟨by simp[wo];omega,by rw[hgetD q hqs,hb];rfl⟩
      have hsorted:((wg 0 ops.size).filter fun i=> !listed.getD i true).Pairwise (· < ·):=wla.filter _ w7
      rw[hL]at hqm hsorted
      rcases w5.1 hqm with rfl|hqm
      ·omega
      ·have:=(wm.1 hsorted).1 q hqm;omega
    have hop:ops.toList[i]? =some ops[i]:=by rw[wd];exact we hlt
    have:i∈Region.ready .any ops listed:=(hready i).2 ⟨hlt,by simpa using h2,_,hop,fun x hx=>hfirst x (qey he hop x hx)⟩
    rw[hnone]at this;cases this
  ·obtain⟨hlt,hnl,o,hop,hpr⟩:=(hready i).1 hi
   obtain⟨pre,post,g1,g2,g3⟩:=qf1 (p:=fun i=> !listed.getD i true) (i:=i) (by simp[hnl]) ops.size 0 (wpa _) (by omega)
   rw[g1]at e
   have hfree:∀q∈pre,q<i∧q∉(ancs [] ops.toList).getD i []:=by
    intro q hq
    obtain⟨hqi,hqn⟩:=g3 q hq
    refine⟨hqi,fun hm=> ?_⟩
    have:=qgj he (D:=fun x=>listed.getD x false=true) hcl i o hop hpr q hm
    rw[←hgetD q (by omega)]at this
    simp[this]at hqn
   have hsortL:((wg 0 ops.size).filter fun i=> !listed.getD i true).Pairwise (· < ·):=wla.filter _ w7
   rw[g1]at hsortL
   have hsp:=w8.1 hsortL
   have hwf:ops.toList.all qbn=true→Wf s:=fun _=>wf_of k ht
   obtain⟨s1,sF',fN,h1,_,h2,h3⟩:=qhh (lowE_of hcall k) hkeep ho he hop pre hfree hsp.1 post (fun q hq=>(wm.1 hsp.2.1).1 q hq) s sF hlm hwf e
   have hp:Post P S w ds Q (.normal,sF'):=by
    rcases h3 with(rfl|⟨_,hth⟩)|⟨_,_,hlk⟩
    ·exact hp
    ·exact hp.th hth
    ·refine hp.like hlk (fun b hb=> ?_)
     rcases hb with⟨r,hb⟩|⟨x,hb⟩
     ·exact(k.lt hb).1
     ·obtain⟨r,c,l⟩:=x
      exact(k.ltτ hb).1
   have hnew:(wg 0 ops.size).filter (fun j=> !(listed.setIfInBounds i true).getD j true)=pre++post:=by
    rw[←g2]
    apply wca
    intro j _
    by_cases hj:j=i
    ·subst hj;rw[qd2 (by omega)];simp
    ·rw[qcz (fun e=>hj e.symm)]
     have:(j==i)=false:=by simp[hj]
     simp[this]
   have hlen:(pre++post).length=fuel:=by rw[g1]at hf;simp at hf ⊢;omega
   have hcl':∀j o,ops.toList[j]? =some o→(listed.setIfInBounds i true).getD j false=true→∀x∈qcm o,(listed.setIfInBounds i true).getD x false=true:=by
    intro j o' hj hjl x hx
    have hkeep:∀y,listed.getD y false=true→(listed.setIfInBounds i true).getD y false=true:=by
     intro y hy
     by_cases hyi:i=y
     ·subst hyi;exact qd2 (by omega) _
     ·rw[qcz hyi];exact hy
    by_cases hji:j=i
    ·subst hji
     rw[hop]at hj;cases hj
     exact hkeep x (hpr x hx)
    ·rw[qcz (fun e=>hji e.symm)]at hjl
     exact hkeep x (hcl j o' hj hjl x hx)
   have ih:=fun(s1:St) (a:Act) (S:Sh) (w:World) (hl1:lim≤s1.heap.length)=>qla hcmp hcall hkeep (lim:=lim) ops ho he (Q:=Q) (ds:=ds) fuel (listed.setIfInBounds i true) s1 sF' a S w hl1 (by simpa using hsz) (by rw[hnew];exact hlen) hcl'
   obtain⟨o',ho',hcase⟩:=h1
   rw[hop]at ho';cases ho'
   have hopa:ops[i]? =some o:=by rw[←wd];exact hop
   unfold wpOp
   simp only[hopa]
   rcases hcase with⟨hw,v,hov,rfl⟩|⟨hw,rfl,rfl⟩
   ·rw[if_pos (qa1 ht hw)]
    refine .inl (qd7 hcmp hcall hkeep k ht hov ?_)
    intro v' S' w' st hv
    exact ih _ _ S' w' (wva hlm (qcp hkeep hov).1) st.wr (qcy (ht.ext st.ext) hv _) (by rw[qbr];exact hd) (by rw[hnew];exact h2) (hp.later st)
   ·rw[if_neg (by rw[qa1 ht hw];simp)]
    exact ih ⟨setT s.tmps o.dst .undef,s.heap,s.dirty⟩ _ S w hlm k (qcy ht .undef _) (by rw[qbr];exact hd) (by rw[hnew];exact h2) hp
theorem qjr [Tabs P] (hmix:P.follows .mixedOrders=true) (hcmp:∀t∈cmp,qca P t=true) (hcall:qay P call) (hkeep:qaj call) {lim:Nat} {id:Nat} {ops:Array Oper} {Q:Exit→Act→World→Prop} {ds:List Deferred}
 {s sF:St} {a:Act} {S:Sh} {w:World} (hlm:lim≤s.heap.length) (ho:qci ops.toList=true) (he:qcj ops.toList=true) (k:WR P S s.heap w) (ht:VRl S s.tmps a.tmps.toList) (hd:a.defers=ds)
 (e:opsD P cmp call lim ops.toList (List.range ops.size) s=some sF) (hp:Post P S w ds Q (.normal,sF)):(Code.region id ops true).wp P Q a w:=by
 refine wp_region_any hmix ?_
 have hall:(wg 0 ops.size).filter (fun i=> !(w9 ops.size false).getD i true)=List.range ops.size:=by
  rw[wka]
  apply wma.2
  intro i hi
  have:i<ops.size:=by simp[wo]at hi;omega
  simp[wc,this]
 refine qla hcmp hcall hkeep ops ho he ops.size (w9 ops.size false) s sF a S w.drew hlm (by simp) (by rw[hall];simp) ?_ k.drew ht hd (by rw[hall];exact e) (hp.later (Step.drew k))
 intro j o _ hj
 exfalso
 simp[wc,wga]at hj
 split at hj<;>simp at hj
theorem qlb {i:Nat}:∀{p u q v:List Nat},p++i::q=u++i::v→i∉p→i∉u→p=u∧q=v
 |[],[],q,v,h,_,_=>⟨rfl,by simpa using h⟩
 |[],b::u,q,v,h,_,hu=>by simp at h;exact(hu (by simp[h.1])).elim
 |b::p,[],q,v,h,hp,_=>by simp at h;exact(hp (by simp[h.1])).elim
 |b::p,c::u,q,v,h,hp,hu=>by
  simp at h
  obtain⟨h1,h2⟩:=qlb h.2 (fun h=>hp (by simp[h])) (fun h=>hu (by simp[h]))
  exact⟨by rw[h.1,h1],h2⟩
theorem qlc {lim:Nat} {ops:List Oper}:∀(l:List Nat) (s:St) (x:AEx×St),opsX P cmp call lim ops l s=some x→
 (∃sF,opsD P cmp call lim ops l s=some sF∧x=(.normal,sF))∨∃pre j post sj,l=pre++j::post∧opsD P cmp call lim ops pre s=some sj∧panD P cmp call ops j sj=some x
 |[],s,x,e=> .inl ⟨s,rfl,by cases e;rfl⟩
 |j::r,s,x,e=>by
  simp only[opsX]at e
  split at e
  ·rename_i s1 hs
   rcases qlc r s1 x e with⟨sF,h1,h2⟩|⟨pre,i,post,sj,h1,h2,h3⟩
   ·exact .inl ⟨sF,by simp only[opsD,hs];exact h1,h2⟩
   ·exact .inr ⟨j::pre,i,post,sj,by rw[h1];rfl,by simp only[opsD,hs];exact h2,h3⟩
  ·exact .inr ⟨[],j,r,s,rfl,rfl,e⟩
theorem panD_at {ops:List Oper} {j:Nat} {s:St} {x:AEx×St} (e:panD P cmp call ops j s=some x):∃o v f,ops[j]? =some o∧qak ops o s.tmps=some true∧opA P cmp call o s.tmps s.heap=some (.pan v f)∧qe4 ops j=true∧x=(.pan v,⟨[],f.of s.heap,f.dirt++s.dirty⟩):=by
 unfold panD at e
 split at e
 ·cases e
 ·rename_i o ho
  split at e
  ·rename_i hw
   split at e
   ·rename_i v f hv
    split at e
    ·rename_i hp
     cases e
     exact⟨o,v,f,ho,hw,hv,hp,rfl⟩
    ·cases e
   ·cases e
  ·cases e
theorem qld {o:Oper} {ts:List AVal} {h:qaa} {v:AVal} {f:Eff} (ha:qcd o=true) (e:opA P cmp call o ts h=some (.pan v f)):False:=by
 obtain⟨dst,op,type,pos,after,guard⟩:=o
 cases op with
 |call r=>
  obtain⟨callee,args,ats⟩:=r
  cases callee with
  |builtin b=>
   cases b with
   |append=>
    simp only[opA]at e
    split at e
    ·simp at e
    ·split at e
     ·split at e<;>cases e
     ·split at e<;>cases e
    ·cases e
   |_=>simp[qcd]at ha
  |_=>simp[qcd]at ha
 |_=>simp[qcd]at ha
theorem pan_tame {o:Oper} (hct:isCt o=false) {ts:List AVal} {h:qaa} {v:AVal} {f:Eff} (e:opA P cmp call o ts h=some (.pan v f)):qbn o=false:=by
 by_cases h0:qcd o=true
 ·exact(qld h0 e).elim
 by_cases h1:qbn o=true
 ·exfalso
  have hc:cls o=0∨cls o=1∨cls o=2∨(∃t a x,o.op= .store t a x):=by
   obtain⟨dst,op,type,pos,after,guard⟩:=o
   cases op with
   |call r=>
    exfalso;apply h0
    obtain⟨callee,args,ats⟩:=r
    cases callee with
    |builtin b=>cases b<;>first|rfl|exact h1|(simp[qbn,qa7,hct]at h1;first|exact(by simpa[qcd]using h1)|skip)
    |_=>simp[qbn,qa7,hct]at h1
   |_=>first|(simp[cls];done)|(simp[qbn,qa7,hct]at h1)
  rcases hc with hc|hc|hc|⟨t,a,x,hc⟩
  ·obtain⟨_,v',hv⟩:=qc7 hc e;cases hv
  ·obtain⟨⟨v',hv⟩,_⟩:=qbd hc e;cases hv
  ·obtain⟨dst,op,type,pos,after,guard⟩:=o
   cases op with
   |call r=>
    apply h0
    obtain⟨callee,args,ats⟩:=r
    cases callee with
    |builtin b=>cases b<;>first|rfl|exact h1|(simp[qbn,qa7,hct]at h1;first|exact(by simpa[qcd]using h1)|skip)
    |_=>simp[qbn,qa7,hct]at h1
   |alloc t=>simp only[opA]at e;split at e<;>cases e
   |box t x=>simp only[opA]at e;split at e<;>cases e
   |makeMap t r=>cases r with
    |none=>simp only[opA]at e;cases e
    |some _=>simp[opA]at e
   |_=>first|(simp[cls]at hc;done)|(simp[qbn,qa7,hct]at h1)
  ·obtain⟨dst,op,type,pos,after,guard⟩:=o
   simp only at hc
   subst hc
   simp only[opA]at e
   split at e
   ·split at e<;>cases e
   ·cases e
 ·simpa using h1
theorem pan_mild {o:Oper} {ts:List AVal} {h:qaa} {v:AVal} {f:Eff} (e:opA P cmp call o ts h=some (.pan v f)):qf8 o=false:=by
 by_cases h0:qcd o=true
 ·exact(qld h0 e).elim
 by_cases h1:qf8 o=true
 ·exfalso
  obtain⟨dst,op,type,pos,after,guard⟩:=o
  by_cases hc:cls ⟨dst,op,type,pos,after,guard⟩=0
  ·obtain⟨_,v',hv⟩:=qc7 hc e;cases hv
  by_cases hc1:cls ⟨dst,op,type,pos,after,guard⟩=1
  ·obtain⟨⟨v',hv⟩,_⟩:=qbd hc1 e;cases hv
  cases op with
  |call r=>
   obtain⟨callee,args,ats⟩:=r
   cases callee with
   |builtin b=>cases b<;>first|(exact h0 h1)|(exact hc rfl)|(simp only[cls]at hc hc1;split at hc<;>rename_i hz<;>first|(exact hc rfl)|(rw[if_pos hz]at hc1;exact hc1 rfl))
   |_=>simp[qf8]at h1
  |alloc t=>simp only[opA]at e;split at e<;>cases e
  |store t a x=>
   simp only[opA]at e
   split at e
   ·split at e<;>cases e
   ·cases e
  |_=>first|(exact hc rfl)|(exact hc1 rfl)|(simp[qf8]at h1)
 ·simpa using h1
theorem qle {lim:Nat} {ops:List Oper} {y:Oper}:∀(pre:List Nat),(∀p∈pre,∃x,ops[p]? =some x∧(cls x=0∨cls x=1)∧qfh ops x y=true)→∀(s sj:St),opsD P cmp call lim ops pre s=some sj→
 sj.heap=s.heap∧sj.dirty=s.dirty∧∀t∈qbw ops y,sj.tmps[t]? =s.tmps[t]?
 |[],_,s,sj,e=>by cases e;exact⟨rfl,rfl,fun _ _=>rfl⟩
 |p::pre,hp,s,sj,e=>by
  simp only[opsD]at e
  split at e
  ·rename_i s1 hs
   obtain⟨h1,h2,h3⟩:=qle pre (fun q hq=>hp q (by simp[hq])) s1 sj e
   obtain⟨x,hx,hc,hi⟩:=hp p (by simp)
   obtain⟨o,ho,hcase⟩:=qbe hs
   rw[hx]at ho;cases ho
   have hd:∀t∈qbw ops y,∀d,x.dst=some d→d≠t:=by
    intro t ht d hd he
    subst he
    simp only[qfh,hd,wa,wda]at hi
    have:=hi.1.1
    simp at this
    exact this ht
   rcases hcase with⟨_,v,f,hv,_,rfl⟩|⟨_,rfl⟩
   ·have hf:f= .same:=by
     rcases hc with hc|hc
     ·obtain⟨_,v',hv'⟩:=qc7 hc hv;cases hv';rfl
     ·obtain⟨⟨v',hv'⟩,_⟩:=qbd hc hv;cases hv';rfl
    subst hf
    exact⟨h1,h2,fun t ht=>by rw[h3 t ht];exact qc8 (hd t ht)⟩
   ·exact⟨h1,h2,fun t ht=>by rw[h3 t ht];exact qc8 (hd t ht)⟩
  ·cases e
theorem qmb {ops:Array Oper} {listed:Array Bool} (i:Nat):i∈Region.ready .any ops listed↔i<ops.size∧listed.getD i true=false∧∃o,ops.toList[i]? =some o∧∀x∈qcm o,listed.getD x false=true:=by
 simp only[Region.ready,wh,wia,wa,wda]
 constructor
 ·rintro⟨h1,h2,h3⟩
  refine⟨h1,h2,ops[i],by rw[wd];exact we h1,?_⟩
  rw[we h1]at h3
  simp only[wz,wq]at h3
  intro x hx
  obtain⟨ed,hem,rfl⟩:=w3.1 hx
  have hmf:=wh.1 hem
  rw[wk]at h3
  have:=h3 ed (by simpa using hmf.1)
  simpa[hmf.2]using this
 ·rintro⟨h1,h2,o,h3,h4⟩
  refine⟨h1,h2,?_⟩
  rw[wd]at h3
  rw[h3]
  simp only[wz,wq]
  rw[wk]
  intro ed hed
  by_cases hb:Go.Region.binds .any ed=true
  ·have:=h4 ed.on (w3.2 ⟨ed,wh.2 ⟨by simpa using hed,hb⟩,rfl⟩)
   simp[this]
  ·simp[hb]
theorem qlf [Tabs P] (hcmp:∀t∈cmp,qca P t=true) (hcall:qay P call) (hkeep:qaj call) {lim:Nat} (ops:Array Oper) (ho:qci ops.toList=true) (he:qcj ops.toList=true)
 {Q:Exit→Act→World→Prop} {ds:List Deferred} {j:Nat} {x:AEx×St} {sj:St} (hx:panD P cmp call ops.toList j sj=some x):∀(fuel:Nat) (listed:Array Bool) (pre post:List Nat) (s:St) (a:Act) (S:Sh) (w:World),lim≤s.heap.length→listed.size=ops.size→
  (wg 0 ops.size).filter (fun i=> !listed.getD i true)=pre++j::post→(pre++j::post).length=fuel→(∀j o,ops.toList[j]? =some o→listed.getD j false=true→∀x∈qcm o,listed.getD x false=true)→
  WR P S s.heap w→VRl S s.tmps a.tmps.toList→a.defers=ds→opsD P cmp call lim ops.toList pre s=some sj→
  Post P S w ds Q x→wpAny P .any ops Q fuel listed a w
 |0,listed,pre,post,s,a,S,w,hlm,hsz,hL,hf,hcl,k,ht,hd,e,hp=>by simp at hf
 |fuel+1,listed,pre,post,s,a,S,w,hlm,hsz,hL,hf,hcl,k,ht,hd,e,hp=>by
  obtain⟨oj,vj,fj,hoj,hwj,hvj,hpj,hxe⟩:=panD_at hx
  have hgetD:∀i,i<ops.size→listed.getD i true=listed.getD i false:=fun i hi=>by
   have:i<listed.size:=by omega
   simp[wc,this]
  have hsorted:(pre++j::post).Pairwise (· < ·):=hL▸wla.filter _ w7
  have hsp:=w8.1 hsorted
  have hsp2:=wm.1 hsp.2.1
  have hin:∀i,i∈pre++j::post↔i<ops.size∧listed.getD i true=false:=by
   intro i;rw[←hL];simp[wh,wo]
  have hjin:=(hin j).1 (by simp)
  have hopj:ops.toList[j]? =some oj:=hoj
  have hanc:∀i o,ops.toList[i]? =some o→(∀x∈qcm o,listed.getD x false=true)→∀q∈(ancs [] ops.toList).getD i [],listed.getD q false=true:=fun i o hop hpr q hq=>
   qgj he (D:=fun x=>listed.getD x false=true) hcl i o hop hpr q hq
  have hpan:∀i,i<ops.size→i≠j→j∈(ancs [] ops.toList).getD i []∨i∈(ancs [] ops.toList).getD j []∨(i<j∧∃y,ops.toList[i]? =some y∧(cls y=0∨cls y=1)):=by
   intro i hi hne
   unfold qe4 panOk0 at hpj
   have h1:=wb.1 (wa _ _|>.mp hpj).1 i (by simpa using hi)
   simp only[ww,wa,beq_iff_eq,hne,false_or,w4,decide_eq_true_eq]at h1
   rcases h1 with(h1|h1)|⟨h1,h2⟩
   ·exact .inl h1
   ·exact .inr (.inl h1)
   ·have hy:ops.toList[i]? =some ops[i]:=by rw[wd];exact we hi
    rw[hy]at h2
    simp only[ww,beq_iff_eq]at h2
    exact .inr (.inr ⟨h1,_,hy,h2⟩)
  refine⟨fun hnone=> ?_,fun i hi=> ?_⟩
  ·exfalso
   obtain⟨i0,r0,h0⟩:∃i r,pre++j::post=i::r:=by cases pre with|nil=>exact⟨_,_,rfl⟩|cons p q=>exact⟨_,_,rfl⟩
   have hi0:=(hin i0).1 (by rw[h0];simp)
   have hop:ops.toList[i0]? =some ops[i0]:=by rw[wd];exact we hi0.1
   have:i0∈Region.ready .any ops listed:=(qmb i0).2 ⟨hi0.1,hi0.2,_,hop,fun x hx=>by
    have hlt:=qey he hop x hx
    cases hb:listed.getD x false with
    |true=>rfl
    |false=>
     have hxin:=(hin x).2 ⟨by omega,by rw[hgetD x (by omega)];exact hb⟩
     rw[h0]at hxin hsorted
     rcases w5.1 hxin with rfl|hm
     ·omega
     ·have:=(wm.1 hsorted).1 x hm;omega⟩
   rw[hnone]at this;cases this
  ·obtain⟨hlt,hnl,o,hop,hpr⟩:=(qmb i).1 hi
   have hopa:ops[i]? =some o:=by rw[←wd];exact hop
   have himem:=(hin i).2 ⟨hlt,hnl⟩
   have hnotl:∀q,q∈pre++j::post→listed.getD q false=true→False:=by
    intro q hq hl
    have h1:=(hin q).1 hq
    rw[hgetD q h1.1,hl]at h1
    cases h1.2
   unfold wpOp
   simp only[hopa]
   by_cases hij:i=j
   ·subst hij
    rw[hopj]at hop;cases hop
    have hfree:∀q∈pre,q<i∧q∉(ancs [] ops.toList).getD i []:=fun q hq=>⟨hsp.2.2 q hq i (by simp),fun hm=>hnotl q (by simp[hq]) (hanc i oj hopj hpr q hm)⟩
    obtain⟨h1,h2,h3⟩:=qle (y:=oj) pre (fun q hq=>by
     obtain⟨hqi,hqn⟩:=hfree q hq
     rcases hpan q (by omega) (by omega)with h|h|⟨_,y,hy,hc⟩
     ·have:=qlr he (j:=q) (o:=ops[q]) (by rw[wd];exact we (by omega)) i h;omega
     ·exact(hqn h).elim
     ·refine⟨y,hy,hc,?_⟩
      rcases qib ho hqi hy hopj hqn with((hpr'|hal)|hap)|hstp
      ·unfold qh1 at hpr';simp only[wa]at hpr';exact hpr'.1
      ·unfold qkq at hal;simp only[wa]at hal;exact hal.1.1.2
      ·unfold qkr at hap;simp only[wa]at hap;exact hap.1.1.2
      ·exfalso
       unfold qgp at hstp;simp only[wa]at hstp
       obtain⟨_,_,_,h9,_,_⟩:=qf0 hstp.1.1.1
       have:cls y=3:=by unfold cls;rw[h9]
       rcases hc with hc|hc<;>rw[this]at hc<;>cases hc) s sj e
    have hw':qak ops.toList oj s.tmps=some true:=by rw[←hwj];exact(qau h3).symm
    have hv':opA P cmp call oj s.tmps s.heap=some (.pan vj fj):=by
     rw[←hvj,h1]
     exact(qd8 (fun t ht=>h3 t (by unfold qbw;exact List.mem_append_right _ ht))).symm
    rw[if_pos (qa1 ht hw')]
    refine .inl (qd7 hcmp hcall hkeep k ht hv' ?_)
    intro v' S' w' st hv
    rw[hxe]at hp
    refine hp S' w' a ?_ (.inr ⟨⟨_,rfl⟩,rfl⟩) hd v' hv
    show Step P S w S' (fj.of sj.heap) w'
    rw[h1];exact st
   ·have hip:i∈pre:=by
     rcases w6.1 himem with h|h
     ·exact h
     ·rcases w5.1 h with h|h
      ·exact(hij h).elim
      ·have hji:=hsp2.1 i h
       exfalso
       rcases hpan i hlt hij with h'|h'|h'
       ·exact hnotl j (by simp) (hanc i o hop hpr j h')
       ·have:=qlr he hopj i h';omega
       ·omega
    obtain⟨p1,p2,rfl⟩:=List.append_of_mem hip
    have hs1:=w8.1 hsp.1
    have hs2:=wm.1 hs1.2.1
    have hfree:∀q∈p1,q<i∧q∉(ancs [] ops.toList).getD i []:=fun q hq=>⟨hs1.2.2 q hq i (by simp),fun hm=>hnotl q (by simp[hq]) (hanc i o hop hpr q hm)⟩
    have htame:¬ops.toList.all qbn=true:=by
     intro h
     have:=wb.1 h oj (wj hopj)
     rw[pan_tame (by
      unfold qe4 at hpj
      have h9:=(wa _ _|>.mp hpj).2
      rw[hopj]at h9
      simpa using h9) hvj]at this;cases this
    have hmild:¬ops.toList.all qf8=true:=by
     intro h
     have:=wb.1 h oj (wj hopj)
     rw[pan_mild hvj]at this;cases this
    obtain⟨s1,sF',fN,h1,_,h2,h3⟩:=qhh (lowE_of hcall k) hkeep ho he hop p1 hfree hs1.1 p2 (fun q hq=>hs2.1 q hq) s sj hlm (fun h=>(htame h).elim) e
    have h3:sF'=sj:=by
     rcases h3 with(h|⟨h,_⟩)|⟨h,_⟩
     ·exact h
     ·exact(hmild h).elim
     ·exact(htame h).elim
    subst h3
    have hnew:(wg 0 ops.size).filter (fun j=> !(listed.setIfInBounds i true).getD j true)=(p1++p2)++j::post:=by
     obtain⟨u,v,g1,g2,g3⟩:=qf1 (p:=fun i=> !listed.getD i true) (i:=i) (by simp[hnl]) ops.size 0 (wpa _) (by omega)
     have huv:u=p1∧v=p2++j::post:=by
      rw[hL]at g1
      have g1':p1++i::(p2++j::post)=u++i::v:=by rw[←g1];simp
      have hu:i∉u:=fun h=>by have:=(g3 i h).1;omega
      have hp1:i∉p1:=fun h=>by have:=(hfree i h).1;omega
      obtain⟨h5,h6⟩:=qlb g1' hp1 hu
      exact⟨h5.symm,h6.symm⟩
     obtain⟨rfl,rfl⟩:=huv
     rw[List.append_assoc,←g2]
     apply wca
     intro j _
     by_cases hj:j=i
     ·subst hj;rw[qd2 (by omega)];simp
     ·rw[qcz (fun e=>hj e.symm)]
      have:(j==i)=false:=by simp[hj]
      simp[this]
    have hcl':∀j o,ops.toList[j]? =some o→(listed.setIfInBounds i true).getD j false=true→∀x∈qcm o,(listed.setIfInBounds i true).getD x false=true:=by
     intro j o' hj hjl x hx
     have hk:∀y,listed.getD y false=true→(listed.setIfInBounds i true).getD y false=true:=by
      intro y hy
      by_cases hyi:i=y
      ·subst hyi;exact qd2 (by omega) _
      ·rw[qcz hyi];exact hy
     by_cases hji:j=i
     ·subst hji
      rw[hop]at hj;cases hj
      exact hk x (hpr x hx)
     ·rw[qcz (fun e=>hji e.symm)]at hjl
      exact hk x (hcl j o' hj hjl x hx)
    have ih:=fun(s1:St) (a:Act) (S:Sh) (w:World) (hl1:lim≤s1.heap.length)=>qlf hcmp hcall hkeep (lim:=lim) ops ho he (Q:=Q) (ds:=ds) hx fuel (listed.setIfInBounds i true) (p1++p2) post s1 a S w hl1 (by simpa using hsz) hnew (by simp at hf ⊢;omega) hcl'
    obtain⟨o',ho',hcase⟩:=h1
    rw[hop]at ho';cases ho'
    rcases hcase with⟨hw,v,hov,rfl⟩|⟨hw,rfl,rfl⟩
    ·rw[if_pos (qa1 ht hw)]
     refine .inl (qd7 hcmp hcall hkeep k ht hov ?_)
     intro v' S' w' st hv
     exact ih _ _ S' w' (wva hlm (qcp hkeep hov).1) st.wr (qcy (ht.ext st.ext) hv _) (by rw[qbr];exact hd) h2 (hp.later st)
    ·rw[if_neg (by rw[qa1 ht hw];simp)]
     exact ih ⟨setT s.tmps o.dst .undef,s.heap,s.dirty⟩ _ S w hlm k (qcy ht .undef _) (by rw[qbr];exact hd) h2 hp
theorem qic [Tabs P] (hmix:P.follows .mixedOrders=true) (hcmp:∀t∈cmp,qca P t=true) (hcall:qay P call) (hkeep:qaj call) {lim:Nat} {id:Nat} {ops:Array Oper} {Q:Exit→Act→World→Prop} {ds:List Deferred}
 {s:St} {x:AEx×St} {a:Act} {S:Sh} {w:World} (hlm:lim≤s.heap.length) (ho:qci ops.toList=true) (he:qcj ops.toList=true) (k:WR P S s.heap w) (ht:VRl S s.tmps a.tmps.toList) (hd:a.defers=ds)
 (e:opsX P cmp call lim ops.toList (List.range ops.size) s=some x) (hp:Post P S w ds Q x):(Code.region id ops true).wp P Q a w:=by
 rcases qlc _ _ _ e with⟨sF,h1,rfl⟩|⟨pre,j,post,sj,h1,h2,h3⟩
 ·exact qjr hmix hcmp hcall hkeep hlm ho he k ht hd h1 hp
 ·refine wp_region_any hmix ?_
  have hall:(wg 0 ops.size).filter (fun i=> !(w9 ops.size false).getD i true)=pre++j::post:=by
   rw[←h1,wka]
   apply wma.2
   intro i hi
   have:i<ops.size:=by simp[wo]at hi;omega
   simp[wc,this]
  refine qlf hcmp hcall hkeep ops ho he h3 ops.size (w9 ops.size false) pre post s a S w.drew hlm (by simp) hall (by rw[←h1];simp) ?_ k.drew ht hd h2 (hp.later (Step.drew k))
  intro j o _ hj
  exfalso
  simp[wc,wga]at hj
  split at hj<;>simp at hj
end Go.Ab
