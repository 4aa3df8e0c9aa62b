/- Soundness of the single operations: append, put together. -/
import Derived.Test.YtlfollkhlephmaaGreatDoorAbOp2
import Derived.Laws.Append
set_option linter.unusedSimpArgs false
set_option linter.unusedVariables false
set_option maxRecDepth 100000
set_option maxHeartbeats 4000000
open List renaming getElem?_append_left→wa,getElem?_append_right→wb,getElem?_eq_some_iff→wc,getElem?_eq_getElem→we,getElem?_take_of_lt→wg,getElem?_set_ne→wh,append_assoc→wi,getElem?_set_self→wk,getElem?_drop→ws,getElem?_map→wt,getElem?_eq_none→wu,length_take→ww,getElem_mem→w3,getElem?_toArray→w5,getElem_of_mem→w6,getD_eq_getElem?_getD→w7,size_toArray→w8,all_eq_true→waa,getElem?_range→wda,length_drop→wfa,mem_append→wga
open Array renaming length_toList→wd,getElem?_toList→wl,getElem?_eq_getElem→w9,getElem?_push→wca
open Nat renaming add_mul→wj,mul_le_mul_right→wm,le_refl→wz,div_lt_iff_lt_mul→wba,mod_lt→wha,div_add_mod→wia,mul_comm→wja,zero_add→wka
open Option renaming isSome_none→wo,getD_some→wea
open Bool renaming false_eq_true→wq,and_eq_true→w4
namespace Go.Ab
variable {P:Program} {S:Sh} {h:qaa} {w:World}
theorem qei {a:AVal} {v:Value} (k:VR S a v):VR S (qas a) v:=by
 cases k with
 |slice es tk ad m cap esz vs hn hc hcm hsp hsz h1 hp h2 ht=>exact .slice es .free ad m cap esz vs hn hc hcm hsp hsz h1 hp h2 trivial
 |snil tk htk=>exact .snil .free (.inl rfl)
 |ms es b n m ad cap h hn hm hc hcm ht hsp=>exact .ms es b n m ad cap h hn hm hc hcm ht hsp
 |mptr b o n r o' e=>exact .mptr b o n r o' e
 |mref b r e=>exact .mref b r e
 |nilm=>exact .nilm
 |undef=>exact .undef
 |bool b=>exact .bool b
 |int k n=>exact .int k n
 |str s l e=>exact .str s l e
 |nilp=>exact .nilp
 |ptr b o r e=>exact .ptr b o r e
 |eptr cs o r o0 vs h1 hp h2=>exact .eptr cs o r o0 vs h1 hp h2
 |func f x y p q hx hy h1 h2=>exact .func f x y p q hx hy h1 h2
 |nilf=>exact .nilf
 |iface t a v h=>exact .iface t a v h
 |nili=>exact .nili
 |agg x p hx h1=>exact .agg x p hx h1
 |tuple x p hx h1=>exact .tuple x p hx h1
theorem VRl.map_strip {l:List AVal} {x:List Value} (k:VRl S l x):VRl S (l.map qas) x:=by
 refine⟨by simpa using k.1,fun j u v hu hv=> ?_⟩
 rw[wt]at hu
 cases hc:l[j]? with
 |none=>simp[hc]at hu
 |some a=>simp[hc]at hu;subst hu;exact qei (k.2 j a v hc hv)
theorem qft {a:AVal} {v:Value} (k:VR S a v):VR S (strip2 a) v:=by
 cases a with
 |agg cs=>
  obtain⟨x,rfl,hx⟩:=k.inv_agg
  have:=VR.agg' hx.map_strip
  simpa[strip2]using this
 |_=>exact qei k
theorem qpk {a:AVal} {v:Value} (k:VR S a v):VR S (argA a) v:=by
 cases a with
 |agg cs=>exact qft k
 |_=>exact k
theorem VRl.map_arg {l:List AVal} {x:List Value} (k:VRl S l x):VRl S (l.map argA) x:=by
 refine⟨by simpa using k.1,fun j u v hu hv=> ?_⟩
 rw[wt]at hu
 cases hc:l[j]? with
 |none=>simp[hc]at hu
 |some a=>simp[hc]at hu;subst hu;exact qpk (k.2 j a v hc hv)
theorem qej {a:AVal} {v:Value} (k:VR S a v):VR S (strip3 a) v:=by
 cases a with
 |tuple cs=>
  obtain⟨x,rfl,hx⟩:=k.inv_tuple
  have:VRl S (cs.map strip2) x.toList:=by
   refine⟨by simpa using hx.1,fun j u v hu hv=> ?_⟩
   rw[wt]at hu
   cases hc:cs[j]? with
   |none=>simp[hc]at hu
   |some a=>simp[hc]at hu;subst hu;exact qft (hx.2 j a v hc hv)
  have:=VR.tuple' this
  simpa[strip3]using this
 |_=>exact qft k
theorem qb2 {w:World} {o:Obj} {k:Nat} (hk:k<w.heap.size):(w.alloc o).heap[k]? =w.heap[k]? :=by
 show(w.heap.push o)[k]? =_
 rw[wca,if_neg (by omega)]
theorem qd6 {w:World} {o:Obj}:(w.alloc o).heap[w.heap.size]? =some o:=by
 show(w.heap.push o)[w.heap.size]? =_
 rw[wca,if_pos rfl]
theorem qer {w w':World} {a:Addr} {v:Value} (hw:w'.heap[a.block]? =w.heap[a.block]?) (hc:w.cell? a=some v):w'.cell? a=some v:=by
 rw[World.cell?_of_block hw];exact hc
def Sh.withBox (S:Sh) (b r:Nat):Sh:={ S with ρ:=fun i=>if i=b then some r else S.ρ i }
theorem newR [Tabs P] (k:WR P S h w) {o:Obj} {x:Blk} (hx:x.isR=true) (hb:∀S',Ex S w.heap.size S'→S'.ρ h.length=some w.heap.size→(∀q,S'.M ⟨w.heap.size,q,none⟩=none)→BR P S' (w.alloc o) h.length x):
 Step P S w (S.withBox h.length w.heap.size) (h++[x]) (w.alloc o):=by
 have hne:∀b r,Nm S b r→b≠h.length:=fun b r hb=>by have:=(k.ltN hb).1;omega
 have hx0:∀b,b≠h.length→(S.withBox h.length w.heap.size).ρ b=S.ρ b:=fun b hb=>by simp only[Sh.withBox];rw[if_neg hb]
 have hxs:(S.withBox h.length w.heap.size).ρ h.length=some w.heap.size:=by simp[Sh.withBox]
 have hex:Ex S w.heap.size (S.withBox h.length w.heap.size):=by
  refine⟨fun _ _ h=>h,fun b r hb=> ?_,fun t r c l ht=>⟨r,c,l,ht,.inr ⟨rfl,rfl,rfl⟩⟩,fun b r hb=> ?_,fun t r c l ht=> .inl ⟨c,l,ht⟩,fun _ _ h=> .inl h,rfl⟩
  ·rw[hx0 b (hne b r (.inl hb))];exact hb
  ·simp only[Sh.withBox]at hb
   split at hb
   ·cases hb;exact .inr (wz _)
   ·exact .inl hb
 have hfr:Fr S w (w.alloc o):=⟨rfl,rfl,rfl,by simp,fun i hi _ _=>qb2 hi⟩
 refine⟨hex,hfr,?_⟩
 constructor
 ·intro a v ha
  exact⟨qer (qb2 (k.ltM ha)) (k.imm a v ha).1,(k.imm a v ha).2⟩
 ·intro b y hy
  by_cases hlt:b<h.length
  ·rw[wa hlt]at hy
   exact(k.blk b y hy).keep (fun r hr=>by rw[hx0 b (by omega)];exact hr) (fun _ h=>h) (fun _ _ h=>h.ext hex) (fun r hr=>qb2 (k.ltN hr).2) (fun _ _ _ h=>h)
  ·rw[wb (by omega)]at hy
   have:b=h.length:=by
    have:=(wc.1 hy).1;simp at this;omega
   subst this
   simp at hy;subst hy
   refine hb _ hex hxs fun q=> ?_
   cases hM:S.M ⟨w.heap.size,q,none⟩with
   |none=>exact hM
   |some v=>have:=k.ltM hM;simp at this
 ·intro b r hb
  by_cases hbl:b=h.length
  ·subst hbl;exact⟨x,by simp,hx⟩
  ·rw[hx0 b hbl]at hb
   obtain⟨y,h1,h2⟩:=k.ρdom b r hb
   exact⟨y,by rw[wa (k.lt hb).1];exact h1,h2⟩
 ·intro b x hb
  obtain⟨y,h1,h2⟩:=k.τdom b x hb
  exact⟨y,by rw[wa (k.ltτ hb).1];exact h1,h2⟩
 ·intro b b' r hb hb'
  simp only[Sh.withBox]at hb hb'
  split at hb
  ·cases hb
   split at hb'
   ·omega
   ·have:=(k.lt hb').2;omega
  ·split at hb'
   ·cases hb';have:=(k.lt hb).2;omega
   ·exact k.injρ b b' r hb hb'
 ·intro b b' r c c' l l' hb hb'
  exact k.injτ b b' r c c' l l' hb hb'
 ·intro b b' r c l hb hb'
  simp only[Sh.withBox]at hb
  split at hb
  ·cases hb;have:=(k.ltτ hb').2;omega
  ·exact k.apart b b' r c l hb hb'
 ·exact qc4 k hex hfr
 ·exact qdl k hex
theorem newBox [Tabs P] (k:WR P S h w) {C:Array Value} {T:TypeId} {cs:List AVal} (hc:VRl S cs C.toList):
 Step P S w (S.withBox h.length w.heap.size) (h++[.box cs]) (w.alloc (.cells C T))∧
  VR (S.withBox h.length w.heap.size) (.ptr h.length 0) (.pointer (some ⟨w.heap.size,0,none⟩)):=by
 exact⟨newR k rfl (fun S' hx hr hM=>⟨w.heap.size,C,T,hr,qd6,hc.ext hx,hM⟩),.ptr _ _ _ (by simp[Sh.withBox])⟩
def Sh.withImm (S:Sh) (r:Nat) (X:List Value):Sh:={ S with M:=fun a=>if a.block=r∧a.spot=none then X[a.off]? else S.M a }
theorem qpl [Tabs P] (k:WR P S h w) (X:List Value):Ex S w.heap.size (S.withImm w.heap.size X):=by
 refine⟨fun a v ha=> ?_,fun b r hb=>hb,fun t r c l ht=>⟨r,c,l,ht,.inr ⟨rfl,rfl,rfl⟩⟩,fun b r hb=> .inl hb,fun t r c l ht=> .inl ⟨c,l,ht⟩,fun a v ha=> ?_,rfl⟩
 ·simp only[Sh.withImm]
  have:=k.ltM ha
  rw[if_neg (by omega)];exact ha
 ·simp only[Sh.withImm]at ha
  split at ha
  ·rename_i hc;exact .inr (.inl (by omega))
  ·exact .inl ha
theorem newImm [Tabs P] (k:WR P S h w) {C:Array Value} {T:TypeId} {X Y:List Value} (hC:C.toList=X++Y):
 Step P S w (S.withImm w.heap.size X) h (w.alloc (.cells C T)):=by
 have hx:=qpl k X
 have hold:∀r,r<w.heap.size→∀o,(S.withImm w.heap.size X).M ⟨r,o,none⟩=S.M ⟨r,o,none⟩:=fun r hr o=>by
  simp only[Sh.withImm];rw[if_neg (by simp;omega)]
 refine⟨hx,⟨rfl,rfl,rfl,by simp,fun i hi _ _=>qb2 hi⟩,?_⟩
 constructor
 ·intro a v ha
  simp only[Sh.withImm]at ha
  split at ha
  ·rename_i hc
   refine⟨?_,hc.2⟩
   have:C[a.off]? =some v:=by
    rw[←wl,hC,wa (wc.1 ha).1];exact ha
   simp only[World.cell?,hc.1,qd6,hc.2,wo,wq,if_false,this]
  ·exact⟨qer (qb2 (k.ltM ha)) (k.imm a v ha).1,(k.imm a v ha).2⟩
 ·intro b x hb
  exact(k.blk b x hb).keep (fun _ h=>h) (fun _ h=>h) (fun _ _ h=>h.ext hx) (fun r hr=>qb2 (k.ltN hr).2) (fun r o hr h=>by rw[hold r (k.ltN hr).2];exact h)
 ·exact k.ρdom
 ·exact k.τdom
 ·exact k.injρ
 ·exact k.injτ
 ·exact k.apart
 ·exact qc4 k hx ⟨rfl,rfl,rfl,by simp,fun i hi _ _=>qb2 hi⟩
 ·exact qdl k hx
def RowOf (S:Sh) (es:List (List AVal)) (sz:Nat) (X:List Value):Prop:=
 X.length=es.length*sz∧(∀c∈es,c.length=sz)∧(∀c∈es,∀a∈c,qaq a=true)∧
  ∀(i:Nat) (c:List AVal) (j:Nat) (a:AVal),es[i]? =some c→c[j]? =some a→∃v,X[i*sz+j]? =some v∧VR S a v
theorem RowOf.nil (S:Sh) (sz:Nat):RowOf S [] sz []:=⟨by simp,by simp,by simp,fun i c j a hi=>by simp at hi⟩
theorem RowOf.ext {S S':Sh} {N:Nat} (hx:Ex S N S') {es:List (List AVal)} {sz:Nat} {X:List Value} (k:RowOf S es sz X):RowOf S' es sz X:=
 ⟨k.1,k.2.1,k.2.2.1,fun i c j a hi hj=>let⟨v,h1,h2⟩:=k.2.2.2 i c j a hi hj;⟨v,h1,h2.ext hx⟩⟩
theorem RowOf.append {es fs:List (List AVal)} {sz:Nat} {X Y:List Value} (k:RowOf S es sz X) (l:RowOf S fs sz Y):RowOf S (es++fs) sz (X++Y):=by
 refine⟨by simp[k.1,l.1,wj],fun c hc=> ?_,fun c hc=> ?_,fun i c j a hi hj=> ?_⟩
 ·rcases wga.1 hc with h|h
  ·exact k.2.1 c h
  ·exact l.2.1 c h
 ·rcases wga.1 hc with h|h
  ·exact k.2.2.1 c h
  ·exact l.2.2.1 c h
 ·by_cases hlt:i<es.length
  ·rw[wa hlt]at hi
   obtain⟨v,h1,h2⟩:=k.2.2.2 i c j a hi hj
   exact⟨v,by rw[wa (wc.1 h1).1];exact h1,h2⟩
  ·rw[wb (by omega)]at hi
   obtain⟨v,h1,h2⟩:=l.2.2.2 _ c j a hi hj
   refine⟨v,?_,h2⟩
   have:i*sz+j=X.length+((i-es.length)*sz+j):=by
    rw[k.1]
    have:i=es.length+(i-es.length):=by omega
    rw[this,wj]
    simp
    omega
   rw[this,wb (by omega)]
   simpa using h1
theorem RowOf.one {es:List (List AVal)} {sz:Nat} {X:List Value} (k:RowOf S es sz X) (hsz:0<sz):∀v∈X,v.oneCell'=true:=by
 intro v hv
 obtain⟨n,hn,rfl⟩:=w6 hv
 have h1:n/sz<es.length:=by
  rw[wba hsz,←k.1];exact hn
 have h2:n % sz<(es[n/sz]).length:=by
  rw[k.2.1 _ (w3 h1)];exact wha _ hsz
 obtain⟨v,h3,h4⟩:=k.2.2.2 (n/sz) _ (n % sz) _ (we h1) (we h2)
 rw[wja,wia,we hn]at h3
 cases h3
 exact h4.one (k.2.2.1 _ (w3 h1) _ (w3 h2))
theorem VR.row [Tabs P] (k:WR P S h w) {es:List (List AVal)} {tk:Tk} {ad:Addr} {n cap sz:Nat} (hv:VR S (.slice es tk) (.slice (some ad) n cap)) (hh:qcl sz es=true) (hsz:0<sz):
 ∃X,RowOf S es sz X∧(∀(j:Nat) (v:Value),X[j]? =some v→w.cell? (ad.add j)=some v)∧
  (es≠[]→∀(j:Nat) (v:Value),X[j]? =some v→S.M ⟨ad.block,ad.off+j,none⟩=some v):=by
 cases hv with
 |slice _ _ _ _ _ esz vs hn hc hcm hsp hs g1 hp g2 ht=>
 by_cases hne:es=[]
 ·subst hne
  exact⟨[],.nil S sz,fun j v hj=>by simp at hj,fun h=>absurd rfl h⟩
 ·have hesz:=qkv hs hh hne
  subst hesz
  have hspot:=hsp hne
  have hM:∀(j:Nat) (v:Value),((List.range (es.length*esz)).map vs)[j]? =some v→S.M ⟨ad.block,ad.off+j,none⟩=some v:=by
   intro q v hq
   rw[wt]at hq
   by_cases hlt:q<es.length*esz
   ·rw[wda hlt]at hq
    simp at hq;subst hq
    have h1:q/esz<es.length:=by rw[wba hsz];exact hlt
    have h2:q % esz<(es[q/esz]).length:=by rw[hs _ (w3 h1)];exact wha _ hsz
    have:=g1 (q/esz) _ (q % esz) _ (we h1) (we h2)
    rwa [wja,wia]at this
   ·rw[wu (by simp;omega)]at hq;simp at hq
  refine⟨(List.range (es.length*esz)).map vs,⟨by simp,hs,hp,fun i c j a hi hj=>⟨vs (i*esz+j),?_,g2 i c j a hi hj⟩⟩,?_,fun _=>hM⟩
  ·have h1:=(wc.1 hi).1
   have h2:=(wc.1 hj).1
   have h3:=hs c (List.mem_of_getElem? hi)
   have hlt:i*esz+j<es.length*esz:=by
    have:(i+1)*esz≤es.length*esz:=wm _ h1
    rw[wj]at this
    omega
   rw[wt,wda hlt]
   rfl
  ·intro q v hq
   have:=hM q v hq
   rw[qeq ad q (fun _=>hspot)]
   exact(k.imm _ _ this).1
theorem VR.made {es:List (List AVal)} {tk:Tk} {r n cap sz:Nat} {X:List Value} (hr:RowOf S es sz X) (hM:∀(j:Nat) (v:Value),X[j]? =some v→S.M ⟨r,j,none⟩=some v)
 (hn:es.length=n) (hc:n≤cap) (hcm:cap≤maxLen) (ht:TkOk S tk n cap ⟨r,0,none⟩):VR S (.slice es tk) (.slice (some ⟨r,0,none⟩) n cap):=by
 refine .slice es tk ⟨r,0,none⟩ n cap sz (fun j=>X.getD j .nilFunc) hn hc hcm (fun _=>rfl) hr.2.1 ?_ hr.2.2.1 ?_ ht
 ·intro i c j a hi hj
  obtain⟨v,h1,h2⟩:=hr.2.2.2 i c j a hi hj
  simp only[wka,w7,h1,wea]
  exact hM _ _ h1
 ·intro i c j a hi hj
  obtain⟨v,h1,h2⟩:=hr.2.2.2 i c j a hi hj
  simp only[w7,h1,wea]
  exact h2
end Go.Ab
namespace Go.Ab
variable {P:Program} {S:Sh} {h:qaa} {w:World}
theorem setBlk [Tabs P] (k:WR P S h w) {w':World} {b r:Nat} {x x':Blk} (hb:h[b]? =some x) (hr:Nm S b r) (hR:x'.isR=x.isR) (hT:x'.tl=x.tl)
 (hfr:w'.os=w.os∧w'.tape=w.tape∧w'.output=w.output∧w'.heap.size=w.heap.size) (hoth:∀i,i≠r→w'.heap[i]? =w.heap[i]?)
 (himm:∀o v,S.M ⟨r,o,none⟩=some v→w'.cell? ⟨r,o,none⟩=some v) (hnew:BR P S w' b x'):Step P S w S (h.set b x') w':=by
 have hlt:=(wc.1 hb).1
 have hf:Fr S w w':=⟨hfr.1,hfr.2.1,hfr.2.2.1,by omega,fun i _ h1 h2=>hoth i (fun e=>by
  subst e
  rcases hr with hr|⟨c,l,hr⟩
  ·exact h1 b hr
  ·exact h2 b c l hr)⟩
 refine⟨.refl S _,hf,?_⟩
 constructor
 ·intro a v ha
  have hs:=(k.imm a v ha).2
  refine⟨?_,hs⟩
  by_cases e:a.block=r
  ·have:a=⟨r,a.off,none⟩:=by cases a;simp_all
   rw[this]at ha ⊢
   exact himm _ v ha
  ·exact qer (hoth _ e) (k.imm a v ha).1
 ·intro b' y hb'
  by_cases he:b'=b
  ·subst he
   rw[wk hlt]at hb'
   cases hb'
   exact hnew
  ·rw[wh (fun e=>he e.symm)]at hb'
   exact(k.blk b' y hb').keep (fun _ h=>h) (fun _ h=>h) (fun _ _ h=>h) (fun q hq=>hoth q (k.nmNe hq hr he)) (fun _ _ _ h=>h)
 ·intro b' r' hb'
  obtain⟨y,h1,h2⟩:=k.ρdom b' r' hb'
  by_cases he:b'=b
  ·subst he;rw[hb]at h1;cases h1;exact⟨x',wk hlt,hR▸h2⟩
  ·exact⟨y,by rw[wh (fun e=>he e.symm)];exact h1,h2⟩
 ·intro b' z hb'
  obtain⟨y,h1,h2⟩:=k.τdom b' z hb'
  by_cases he:b'=b
  ·subst he;rw[hb]at h1;cases h1;exact⟨x',wk hlt,hT▸h2⟩
  ·exact⟨y,by rw[wh (fun e=>he e.symm)];exact h1,h2⟩
 ·exact k.injρ
 ·exact k.injτ
 ·exact k.apart
 ·exact qc4 k (.refl S _) hf
 ·exact k.laid
theorem setBox [Tabs P] (k:WR P S h w) {b r:Nat} {cs cs':List AVal} {C C':Array Value} {T:TypeId} (hb:h[b]? =some (.box cs)) (hr:S.ρ b=some r)
 (hw:w.heap[r]? =some (.cells C T (0,0))) (hc:VRl S cs' C'.toList):Step P S w S (h.set b (.box cs')) (w.setRow r C'):=by
 have hM:∀o,S.M ⟨r,o,none⟩=none:=by
  obtain⟨r',_,_,h1,_,_,h4⟩:=k.box b cs hb
  rw[hr]at h1;cases h1;exact h4
 exact setBlk k hb (.inl hr) rfl rfl ⟨rfl,rfl,rfl,by simp[World.setRow]⟩ (fun i hi=>setRow_other w r i C' hi) (fun o v ho=>by rw[hM]at ho;cases ho)
  ⟨r,C',T,hr,setRow_heap w r C C' T (0,0) hw,hc,hM⟩
theorem setArr [Tabs P] (k:WR P S h w) {b p len e off:Nat} {cs cs':List AVal} (hb:h[b]? =some (.arr p cs len e)) {r cap:Nat} {C:Array Value} (hr:S.τ b=some (r,cap,len))
 (hw:w.heap[r]? =some (.cells C e (0,0))) {vs:List Value} (hp:p≤off) (hl:off+vs.length≤p+cs.length) {us:List AVal} (hu:VRl S us vs) (hcs:cs'=cs.take (off-p)++us++cs.drop (off-p+us.length)):
 Step P S w S (h.set b (.arr p cs' len e)) (w.setRow r (C.toList.take off++vs++C.toList.drop (off+vs.length)).toArray):=by
 obtain⟨r0,cap0,C0,i,t1,t2,t3,t4,t5,t6,t7,t8,t9,t10⟩:=k.arr b p cs len e hb
 rw[hr]at t1;cases t1
 rw[hw]at t2;cases t2
 have hsz:len*i.size≤C.size:=by rw[t5];exact wm _ t6
 have hul:us.length=vs.length:=hu.1
 have hlen:cs'.length=cs.length:=by rw[hcs];simp;omega
 have hnew:=setRow_heap w r C (C.toList.take off++vs++C.toList.drop (off+vs.length)).toArray e (0,0) hw
 have hcl:(C.toList.take off++vs++C.toList.drop (off+vs.length)).length=C.size:=by simp;omega
 refine setBlk k hb (.inr ⟨_,_,hr⟩) rfl rfl ⟨rfl,rfl,rfl,by simp[World.setRow]⟩ (fun i hi=>setRow_other w r i _ hi) (fun o v ho=> ?_)
  ⟨r,cap,_,i,hr,hnew,t3,t4,by rw[w8,hcl,t5],t6,t7,by rw[hlen];exact t8,?_,t10⟩
 ·have hop:o<p:=by
   by_cases h:p≤o
   ·rw[t10 o h]at ho;cases ho
   ·omega
  have:=(k.imm _ v ho).1
  simp only[World.cell?,hw,wo,wq,if_false]at this
  simp only[World.cell?,hnew,wo,wq,if_false,w5]
  rw[wi,wa (by rw[ww,wd];omega),wg (by omega),wl]
  exact this
 ·have h1:=((t9.take (off-p)).append hu).append (t9.drop (off-p+us.length))
  rw[hlen,hcs]
  have e1:((C.toList.take off++vs++C.toList.drop (off+vs.length)).drop p).take cs.length=
   ((C.toList.drop p).take cs.length).take (off-p)++vs++((C.toList.drop p).take cs.length).drop (off-p+us.length):=by
   apply List.ext_getElem?
   intro q
   have hCl:C.toList.length=C.size:=wd
   by_cases hq:q<cs.length
   ·rw[wg hq,ws]
    by_cases h2:q<off-p
    ·rw[wi,wa (by simp;omega),wg (by omega),wi,wa (by simp;omega),wg h2,wg hq,ws]
    ·by_cases h3:q<off-p+vs.length
     ·rw[wi,wb (by simp;omega),wa (by simp;omega),wi,wb (by simp;omega),wa (by simp;omega)]
      congr 1;simp;omega
     ·rw[wi,wb (by simp;omega),wb (by simp;omega),wi,wb (by simp;omega),wb (by simp;omega)]
      rw[ws,ws,wg (by simp;omega),ws]
      congr 1;simp;omega
   ·rw[wu (by simp;omega),wu (by simp;omega)]
  rw[e1]
  simpa using h1
theorem qm8 [Tabs P] (k:WR P S h w) {t:TypeId} {p x:AVal} {vp vx:Value} {h':qaa} {b:Nat} (hp:VR S p vp) (hx:VR S x vx) (e:qbk P h t p x=some (h',b)):
 ∃w',(Instr.storeAt t vp vx).run P w= .ok () w'∧Step P S w S h' w':=by
 unfold qbk at e
 split at e
 ·rename_i b0 off
  cases hp with
  |ptr _ _ r hr=>
  split at e
  ·rename_i cs n hb hs
   split at e
   ·rename_i hc
    simp only[w4,decide_eq_true_eq]at hc
    cases hset:qai cs off x.cells with
    |none=>simp[hset]at e
    |some cs'=>
     simp[hset]at e
     obtain⟨rfl,rfl⟩:=e
     obtain⟨h1,h2⟩:=qdf hset
     obtain⟨r',C,T,g1,g2,g3,g4⟩:=k.box b0 cs hb
     rw[hr]at g1;cases g1
     have hv:=hx.cells
     have hlC:C.size=cs.length:=by rw[g3.1,wd]
     have hlv:vx.cells.size=x.cells.length:=by rw[hv.1,wd]
     have hone:∀v∈vx.cells.toList,v.oneCell'=true:=by
      intro v hm
      obtain⟨u,hu,hr⟩:=hv.mem hm
      exact hr.oneA (waa.1 hc.2 u hu)
     have hrun:=run_storeCells_at P r off T vx.cells.toList 0 C w g2 (by simp;omega) hone
     refine⟨_,?_,setBox k hb hr g2 (C':=(C.toList.take (off+0)++vx.cells.toList++C.toList.drop (off+0+vx.cells.toList.length)).toArray) ?_⟩
     ·have e3:vx.cells.size=n:=by rw[hlv,hc.1]
      simp only[Instr.storeAt,Instr.sureAddr,storeVar,Sem.run_bind,Sem.run_pure,Result.andThen_ok,qa5 hs,e3,ne_eq,not_true,if_false]
      exact hrun
     ·rw[h2]
      have:=((g3.take off).append hv).append (g3.drop (off+x.cells.length))
      simpa[hlv]using this
   ·cases e
  ·cases e
 ·rename_i b0 off kn
  cases hp with
  |mptr _ _ _ r9 o9 hm=>
  split at e
  ·rename_i p cs l el n hb hs
   split at e
   ·rename_i hkl
    obtain⟨rfl,hpo⟩:=hkl
    split at e
    ·rename_i hc
     simp only[w4,decide_eq_true_eq]at hc
     cases hset:qai cs (off-p) x.cells with
     |none=>simp[hset]at e
     |some cs'=>
      simp[hset]at e
      obtain⟨rfl,rfl⟩:=e
      obtain⟨h1,h2⟩:=qdf hset
      obtain⟨r,cap,C,i,g1,g2,g3,g4,g5,g6,g7,g8,g9,g10⟩:=k.arr b0 p cs kn el hb
      obtain⟨r',c',l',q1,q2,q3⟩:=hm
      rw[g1]at q1;cases q1
      have:=q3 rfl
      simp only[Addr.mk.injEq,and_true]at this
      obtain⟨rfl,rfl⟩:=this
      have hv:=hx.cells
      have hsz:kn*i.size≤C.size:=by rw[g5];exact wm _ g6
      have hlv:vx.cells.toList.length=x.cells.length:=hv.1.symm
      have hone:∀v∈vx.cells.toList,v.oneCell'=true:=by
       intro v hm
       obtain⟨u,hu,hr⟩:=hv.mem hm
       exact hr.oneA (waa.1 hc.2 u hu)
      have hrun:=run_storeCells_at P r9 o9 el vx.cells.toList 0 C w g2 (by omega) hone
      refine⟨_,?_,setArr k hb g1 g2 hpo (by omega) hv h2⟩
      have e3:vx.cells.size=n:=by rw[←wd,hlv,hc.1]
      simp only[Instr.storeAt,Instr.sureAddr,storeVar,Sem.run_bind,Sem.run_pure,Result.andThen_ok,qa5 hs,e3,ne_eq,not_true,if_false]
      exact hrun
    ·cases e
   ·cases e
  ·cases e
 ·cases e
theorem qe6 {α:Type} (l:List α) (hl:0<l.length):∀(n k:Nat),k<n*l.length→(List.replicate n l).flatten[k]? =l[k % l.length]?
 |0,k,h=>by omega
 |n+1,k,h=>by
  rw[List.replicate_succ,List.flatten_cons]
  by_cases hk:k<l.length
  ·rw[wa hk,Nat.mod_eq_of_lt hk]
  ·rw[wb (by omega),qe6 l hl n (k-l.length) (by rw[wj]at h;omega)]
   congr 1
   rw[Nat.mod_eq_sub_mod (by omega:l.length≤k)]
theorem qb5 {c c':List AVal} (e:qc0 c=some c'):c'.length=c.length∧(∀a∈c',qaq a=true)∧∀(j:Nat) (a':AVal),c'[j]? =some a'→∃a,c[j]? =some a∧a'=qas a:=by
 unfold qc0 at e
 simp only at e
 split at e
 ·rename_i hc
  cases e
  refine⟨by simp,fun a ha=>waa.1 hc a ha,fun j a' hj=> ?_⟩
  rw[wt]at hj
  cases hcj:c[j]? with
  |none=>simp[hcj]at hj
  |some a=>simp[hcj]at hj;exact⟨a,rfl,hj.symm⟩
 ·cases e
theorem qfu:∀{cs es:List (List AVal)},qbz cs=some es→es.length=cs.length∧∀(i:Nat) (c':List AVal),es[i]? =some c'→∃c,cs[i]? =some c∧qc0 c=some c'
 |[],es,e=>by cases e;exact⟨rfl,fun i c' hi=>by simp at hi⟩
 |c::r,es,e=>by
  unfold qbz at e
  split at e
  ·rename_i c' r' h1 h2
   cases e
   have ih:=qfu h2
   refine⟨by simp[ih.1],fun i d hi=> ?_⟩
   cases i with
   |zero=>simp at hi;subst hi;exact⟨c,rfl,h1⟩
   |succ i=>exact ih.2 i d (by simpa using hi)
  ·cases e
theorem qj8 (s:Nat):∀(n:Nat) (cs:List AVal),n*s≤cs.length→(chop s n cs).length=n∧∀(i:Nat) (c:List AVal),(chop s n cs)[i]? =some c→i<n∧c=(cs.drop (i*s)).take s
 |0,cs,_=>⟨rfl,fun i c hi=>by simp[chop]at hi⟩
 |n+1,cs,hl=>by
  have ih:=qj8 s n (cs.drop s) (by rw[wfa,wj]at*;omega)
  refine⟨by simp[chop,ih.1],fun i c hi=> ?_⟩
  cases i with
  |zero=>simp[chop]at hi;exact⟨by omega,by simp[←hi]⟩
  |succ i=>
   have:=ih.2 i c (by simpa[chop]using hi)
   refine⟨by omega,?_⟩
   rw[this.2,List.drop_drop,wj]
   congr 2
   omega
theorem qj9 [Tabs P] (k:WR P S h w) {t el:TypeId} {n s:Nat} {z:AVal} {ps:Array (Nat×Operand)} {us:List (Nat×AVal)} {ts:List AVal} {a:Act} {cs:List AVal} {es:List (List AVal)}
 (ht:VRl S ts a.tmps.toList) (hu:P.underlying t=some (.slice el)) (hs:qah P el=some (s+1)) (hz:qap P el=some z) (hp:qar ts ps.toList=some us)
 (hn:n*(s+1)≤65536) (hzl:z.cells.length=s+1)
 (e:qa2 (fun i=>some (i*(s+1),s+1)) (List.replicate n z.cells).flatten us=some cs) (e2:qbz (chop (s+1) n cs)=some es):
 ∃v w' S',(Instr.buildSlice t n (ps.map fun(i,x)=>(i,a.eval x))).run P w= .ok v w'∧Step P S w S' h w'∧VR S' (.slice es .full) v:=by
 obtain⟨vz,hvz,hrz⟩:=qdm hz w S
 have hzc:=hrz.cells
 have hzs:vz.cells.size=s+1:=by rw[←hzl,hzc.1,wd]
 obtain⟨h1,h2⟩:=qef ht hp
 let zero:Array Value:=if n*(s+1)=0 then #[]else vz.cells
 let init:Array Value:=(Array.range (n*(s+1))).map (fun x=>zero[x % zero.size]!)
 have hinit:VRl S (List.replicate n z.cells).flatten init.toList:=by
  refine⟨by simp[init,hzl],fun j u v hj hv=> ?_⟩
  have hlt:j<n*(s+1):=by
   have:=(wc.1 hj).1
   simpa[hzl]using this
  have hzero:zero=vz.cells:=by simp only[zero];rw[if_neg (by omega)]
  rw[qe6 z.cells (by omega) n j (by rw[hzl];exact hlt)]at hj
  have hv':init[j]? =some v:=by rw[←wl];exact hv
  simp only[init,Array.getElem?_map]at hv'
  rw[w9 (by simpa using hlt)]at hv'
  simp only[Array.getElem_range,Option.map_some,hzero,hzs]at hv'
  have hm:j % (s+1)<vz.cells.size:=by rw[hzs];exact wha _ (by omega)
  rw[getElem!_pos vz.cells (j % (s+1)) hm]at hv'
  cases hv'
  rw[hzl]at hj
  exact hzc.2 _ _ _ hj (by rw[wl];exact w9 hm)
 obtain⟨y,hy,hyr⟩:=qe5 (S:=S) (pa:=fun i=>some (i*(s+1),s+1)) (pv:=fun i=>some (i*(s+1),s+1)) (fun i q hq=>hq) (vs:=(ps.map fun(i,x)=>(i,a.eval x)).toList) (x:=init) (by
  rw[h1];simp) (by rw[Array.toList_map,List.map_map];exact h2) hinit e
 have hlen:∀{us:List (Nat×AVal)} {cs r:List AVal},qa2 (fun i=>some (i*(s+1),s+1)) cs us=some r→r.length=cs.length:=by
  intro us
  induction us with
  |nil=>intro cs r e;cases e;rfl
  |cons p us ih=>
   intro cs r e
   obtain⟨i,u⟩:=p
   unfold qa2 at e
   simp only at e
   split at e
   ·split at e
    ·rename_i cs' hc
     obtain⟨g1,g2⟩:=qdf hc
     rw[ih e,g2];simp;omega
    ·cases e
   ·cases e
 have hcl:cs.length=n*(s+1):=by rw[hlen e];simp[hzl]
 obtain⟨c1,c2⟩:=qj8 (s+1) n cs (by omega)
 obtain⟨d1,d2⟩:=qfu e2
 have hrow:RowOf S es (s+1) y.toList:=by
  refine⟨by rw[←hyr.1,hcl,d1,c1],fun c' hc'=> ?_,fun c' hc'=> ?_,fun i c' j a' hi hj=> ?_⟩
  ·obtain⟨i,hi,rfl⟩:=w6 hc'
   obtain⟨c,g1,g2⟩:=d2 i _ (we hi)
   obtain⟨g3,g4⟩:=c2 i c g1
   rw[(qb5 g2).1,g4,ww,wfa,hcl]
   have:(i+1)*(s+1)≤n*(s+1):=wm _ g3
   rw[wj]at this
   omega
  ·obtain⟨i,hi,rfl⟩:=w6 hc'
   obtain⟨c,g1,g2⟩:=d2 i _ (we hi)
   exact(qb5 g2).2.1
  ·obtain⟨c,g1,g2⟩:=d2 i _ hi
   obtain⟨g3,g4⟩:=c2 i c g1
   obtain⟨b,g5,rfl⟩:=(qb5 g2).2.2 j a' hj
   rw[g4,List.getElem?_take]at g5
   split at g5
   ·rw[ws]at g5
    obtain⟨v,g6,g7⟩:=hyr.get g5
    exact⟨v,g6,qei g7⟩
   ·cases g5
 have hst:=newImm k (C:=y) (T:=el) (X:=y.toList) (Y:=[]) (by simp)
 refine⟨.slice (some ⟨w.heap.size,0,none⟩) n n,w.alloc (.cells y el),_,?_,hst,?_⟩
 ·have hne:¬(n*(s+1)>2 ^ 24):=by omega
  simp only[Instr.buildSlice,Sem.run_bind,run_underlying hu,Result.andThen_ok,qa5 hs]
  rw[if_neg hne]
  have hy':=hy
  simp only[init,zero]at hy'
  split
  ·rename_i h0
   rw[if_pos h0]at hy'
   simp only[Sem.run_bind,Sem.run_pure,Result.andThen_ok]
   rw[hy']
   simp[newRow]
  ·rename_i h0
   rw[if_neg h0]at hy'
   simp only[Sem.run_bind,Sem.run_pure,hvz,Result.andThen_ok]
   rw[hy']
   simp[newRow]
 ·refine VR.made (hrow.ext hst.ext) (fun j v hj=> ?_) (by rw[d1,c1]) (wz _) (by
   have:n≤n*(s+1):=Nat.le_mul_of_pos_right n (by omega)
   simp only[maxLen];omega) rfl
  simp only[Sh.withImm,and_self,if_true]
  exact hj
end Go.Ab
namespace Go.Ab
variable {P:Program} {S:Sh} {h:qaa} {w:World}
def Sh.withTok (S:Sh) (b r cap len:Nat) (X:List Value):Sh:=
 { S with M:=fun a=>if a.block=r∧a.spot=none then X[a.off]? else S.M a,τ:=fun i=>if i=b then some (r,cap,len)else S.τ i }
theorem newT [Tabs P] (k:WR P S h w) {C:Array Value} {e:TypeId} {X Y:List Value} {cap len:Nat} {x':Blk} (hx':x'.tl=some len) (hC:C.toList=X++Y)
 {b:Nat} {h':qaa} (hb:(b=h.length∧h'=h++[x'])∨(∃l0 r0 c0,S.τ b=some (r0,c0,l0)∧l0<len∧h'=h.set b x'))
 (hnew:Ex S w.heap.size (S.withTok b w.heap.size cap len X)→BR P (S.withTok b w.heap.size cap len X) (w.alloc (.cells C e)) b x'):
 Step P S w (S.withTok b w.heap.size cap len X) h' (w.alloc (.cells C e)):=by
 have hne:∀i r,S.ρ i=some r→i≠b:=fun i r hi e=>by
  subst e
  rcases hb with⟨rfl,_⟩|⟨l0,r0,c0,h2,_⟩
  ·have:=(k.lt hi).1;omega
  ·obtain⟨x,h1,h3⟩:=k.ρdom i r hi
   obtain⟨y,h4,h5⟩:=k.τdom i _ h2
   rw[h1]at h4;cases h4
   rcases x.r_or_t with⟨_,g⟩|⟨g,_⟩
   ·rw[g]at h5;cases h5
   ·rw[g]at h3;cases h3
 have hblt:∀l0 r0 c0,S.τ b=some (r0,c0,l0)→b<h.length:=fun _ _ _ h2=>(k.ltτ h2).1
 have hget:∀j,j≠b→∀x,h'[j]? =some x→h[j]? =some x:=by
  intro j hj x hx
  rcases hb with⟨rfl,rfl⟩|⟨l0,r0,c0,h2,_,rfl⟩
  ·have hl:=(wc.1 hx).1
   simp at hl
   rwa [wa (by omega)]at hx
  ·rwa [wh (fun e=>hj e.symm)]at hx
 have hget':∀j,j≠b→∀x,h[j]? =some x→h'[j]? =some x:=by
  intro j hj x hx
  rcases hb with⟨rfl,rfl⟩|⟨l0,r0,c0,h2,_,rfl⟩
  ·rw[wa (wc.1 hx).1];exact hx
  ·rw[wh (fun e=>hj e.symm)];exact hx
 have hself:h'[b]? =some x':=by
  rcases hb with⟨rfl,rfl⟩|⟨l0,r0,c0,h2,_,rfl⟩
  ·simp
  ·exact wk (hblt _ _ _ h2)
 have hx:Ex S w.heap.size (S.withTok b w.heap.size cap len X):=by
  refine⟨fun a v ha=> ?_,fun b r hb=>hb,fun t r c l ht=> ?_,fun b r hb=> .inl hb,fun t r c l ht=> ?_,fun a v ha=> ?_,rfl⟩
  ·simp only[Sh.withTok]
   have:=k.ltM ha
   rw[if_neg (by omega)];exact ha
  ·simp only[Sh.withTok]
   by_cases htb:t=b
   ·subst htb
    rw[if_pos rfl]
    refine⟨_,_,_,rfl,.inl ?_⟩
    rcases hb with⟨rfl,_⟩|⟨l0,r0,c0,h3,h4,_⟩
    ·have:=(k.ltτ ht).1;omega
    ·rw[ht]at h3;cases h3;exact h4
   ·rw[if_neg htb];exact⟨r,c,l,ht,.inr ⟨rfl,rfl,rfl⟩⟩
  ·simp only[Sh.withTok]at ht
   split at ht
   ·cases ht;exact .inr (wz _)
   ·exact .inl ⟨c,l,ht⟩
  ·simp only[Sh.withTok]at ha
   split at ha
   ·rename_i hc;exact .inr (.inl (by omega))
   ·exact .inl ha
 have hold:∀r,r<w.heap.size→∀o,(S.withTok b w.heap.size cap len X).M ⟨r,o,none⟩=S.M ⟨r,o,none⟩:=fun r hr o=>by
  simp only[Sh.withTok];rw[if_neg (by simp;omega)]
 refine⟨hx,⟨rfl,rfl,rfl,by simp,fun i hi _ _=>qb2 hi⟩,?_⟩
 constructor
 ·intro a v ha
  simp only[Sh.withTok]at ha
  split at ha
  ·rename_i hc
   refine⟨?_,hc.2⟩
   have:C[a.off]? =some v:=by
    rw[←wl,hC,wa (wc.1 ha).1];exact ha
   simp only[World.cell?,hc.1,qd6,hc.2,wo,wq,if_false,this]
  ·exact⟨qer (qb2 (k.ltM ha)) (k.imm a v ha).1,(k.imm a v ha).2⟩
 ·intro j y hj
  by_cases hjb:j=b
  ·subst hjb
   rw[hself]at hj;cases hj
   exact hnew hx
  ·exact(k.blk j y (hget j hjb _ hj)).keep (fun _ h=>h) (fun z hz=>by simp only[Sh.withTok];rw[if_neg hjb];exact hz) (fun _ _ h=>h.ext hx) (fun r hr=>qb2 (k.ltN hr).2) (fun r o hr h=>by rw[hold r (k.ltN hr).2];exact h)
 ·intro j r hj
  obtain⟨y,h1,h2⟩:=k.ρdom j r hj
  exact⟨y,hget' j (hne j r hj) _ h1,h2⟩
 ·intro j x hj
  simp only[Sh.withTok]at hj
  split at hj
  ·rename_i hjb;subst hjb;cases hj;exact⟨x',hself,hx'⟩
  ·rename_i hjb
   obtain⟨y,h1,h2⟩:=k.τdom j x hj
   exact⟨y,hget' j hjb _ h1,h2⟩
 ·exact k.injρ
 ·intro j j' r c c' l l' hj hj'
  simp only[Sh.withTok]at hj hj'
  split at hj
  ·cases hj
   split at hj'
   ·omega
   ·have:=(k.ltτ hj').2;omega
  ·split at hj'
   ·cases hj';have:=(k.ltτ hj).2;omega
   ·exact k.injτ j j' r c c' l l' hj hj'
 ·intro j j' r c l hj hj'
  simp only[Sh.withTok]at hj'
  split at hj'
  ·cases hj';have:=(k.lt hj).2;omega
  ·exact k.apart j j' r c l hj hj'
 ·exact qc4 k hx ⟨rfl,rfl,rfl,by simp,fun i hi _ _=>qb2 hi⟩
 ·exact qdl k hx
theorem newTok [Tabs P] (k:WR P S h w) {C:Array Value} {e:TypeId} {i:TypeInfo} {X Y:List Value} {cap len:Nat} (hi:P.info? e=some i) (h0:0<i.size) (hC:C.toList=X++Y)
 (hsz:C.size=cap*i.size) (hX:X.length=len*i.size) (hlc:len≤cap) (hcm:cap≤maxLen)
 {b:Nat} {h':qaa} (hb:(b=h.length∧h'=h++[.tok len e])∨(∃l0 r0 c0,h[b]? =some (.tok l0 e)∧S.τ b=some (r0,c0,l0)∧l0<len∧h'=h.set b (.tok len e))):
 Step P S w (S.withTok b w.heap.size cap len X) h' (w.alloc (.cells C e)):=by
 refine newT k rfl hC (hb.imp id (fun⟨l0,r0,c0,_,h2,h3,h4⟩=>⟨l0,r0,c0,h2,h3,h4⟩)) (fun hx=> ?_)
 refine⟨w.heap.size,cap,C,i,by simp[Sh.withTok],qd6,hi,h0,hsz,hlc,hcm,fun o ho=> ?_⟩
 simp only[Sh.withTok,and_self,if_true]
 exact wu (by omega)
def Sh.moreTok (S:Sh) (b r cap o1 len:Nat) (Y:List Value):Sh:=
 { S with M:=fun a=>if a.block=r∧a.spot=none∧o1≤a.off∧a.off<o1+Y.length then Y[a.off-o1]? else S.M a,τ:=fun i=>if i=b then some (r,cap,len)else S.τ i }
theorem moreT [Tabs P] (k:WR P S h w) {C:Array Value} {e:TypeId} {Y Cn:List Value} {b r cap len len' o1:Nat} {x':Blk} (hx':x'.tl=some len') (hτ:S.τ b=some (r,cap,len)) (hll:len<len')
 (hw:w.heap[r]? =some (.cells C e (0,0))) (hfree:∀o v,S.M ⟨r,o,none⟩=some v→o<o1) (hCn:∀j,j<o1→Cn[j]? =C.toList[j]?) (hY:∀j v,Y[j]? =some v→Cn[o1+j]? =some v)
 (hnew:Ex S w.heap.size (S.moreTok b r cap o1 len' Y)→(w.setRow r Cn.toArray).heap[r]? =some (.cells Cn.toArray e (0,0))→BR P (S.moreTok b r cap o1 len' Y) (w.setRow r Cn.toArray) b x'):
 Step P S w (S.moreTok b r cap o1 len' Y) (h.set b x') (w.setRow r Cn.toArray):=by
 have hblt:=(k.ltτ hτ).1
 have hnewr:=setRow_heap w r C Cn.toArray e (0,0) hw
 have hoth:∀j,j≠r→(w.setRow r Cn.toArray).heap[j]? =w.heap[j]? :=fun j hj=>setRow_other w r j _ hj
 have hfr:(w.setRow r Cn.toArray).os=w.os∧(w.setRow r Cn.toArray).tape=w.tape∧(w.setRow r Cn.toArray).output=w.output∧(w.setRow r Cn.toArray).heap.size=w.heap.size:=⟨rfl,rfl,rfl,by simp[World.setRow]⟩
 generalize hwn:w.setRow r Cn.toArray=wn at*
 have hx:Ex S w.heap.size (S.moreTok b r cap o1 len' Y):=by
  refine⟨fun a v ha=> ?_,fun b r hb=>hb,fun t r' c l ht=> ?_,fun b r hb=> .inl hb,fun t r' c l ht=> ?_,fun a v ha=> ?_,rfl⟩
  ·simp only[Sh.moreTok]
   rw[if_neg]
   ·exact ha
   ·rintro⟨h1,h2,h3,_⟩
    have:a=⟨r,a.off,none⟩:=by cases a;simp_all
    rw[this]at ha
    have:=hfree _ _ ha
    omega
  ·simp only[Sh.moreTok]
   by_cases htb:t=b
   ·subst htb;rw[hτ]at ht;cases ht
    exact⟨r,cap,len',by simp,.inl hll⟩
   ·exact⟨r',c,l,by rw[if_neg htb];exact ht,.inr ⟨rfl,rfl,rfl⟩⟩
  ·simp only[Sh.moreTok]at ht
   split at ht
   ·rename_i htb;subst htb;cases ht;exact .inl ⟨cap,len,hτ⟩
   ·exact .inl ⟨c,l,ht⟩
  ·simp only[Sh.moreTok]at ha
   split at ha
   ·rename_i hc;exact .inr (.inr ⟨b,cap,len,by rw[hc.1];exact hτ⟩)
   ·exact .inl ha
 have hbr:Nm S b r:= .inr ⟨_,_,hτ⟩
 have hold:∀r',r'≠r→∀o,(S.moreTok b r cap o1 len' Y).M ⟨r',o,none⟩=S.M ⟨r',o,none⟩:=fun r' hr o=>by
  simp only[Sh.moreTok];rw[if_neg (by simp[hr])]
 have hρb:∀r',S.ρ b≠some r':=fun r' hr=>by
  obtain⟨x,h1,h3⟩:=k.ρdom b r' hr
  obtain⟨y,h4,h5⟩:=k.τdom b _ hτ
  rw[h1]at h4;cases h4
  rcases x.r_or_t with⟨_,g⟩|⟨g,_⟩
  ·rw[g]at h5;cases h5
  ·rw[g]at h3;cases h3
 refine⟨hx,⟨hfr.1,hfr.2.1,hfr.2.2.1,by omega,fun j hj _ h2=>hoth j (fun e=>h2 b cap len (e▸hτ))⟩,?_⟩
 constructor
 ·intro a v ha
  simp only[Sh.moreTok]at ha
  split at ha
  ·rename_i hc
   refine⟨?_,hc.2.1⟩
   have:=hY _ _ ha
   rw[show o1+(a.off-o1)=a.off by omega]at this
   simp only[World.cell?,hc.1,hnewr,hc.2.1,wo,wq,if_false,w5,this]
  ·have:=k.imm a v ha
   refine⟨?_,this.2⟩
   by_cases hr:a.block=r
   ·have ha':a=⟨r,a.off,none⟩:=by have:=this.2;cases a;simp_all
    have hlt:=hfree a.off v (by rw[←ha'];exact ha)
    have hc:=this.1
    simp only[World.cell?,hr,hw,hnewr,this.2,wo,wq,if_false,w5]at hc ⊢
    rw[hCn _ hlt,wl]
    exact hc
   ·exact qer (hoth _ hr) this.1
 ·intro j y hj
  by_cases hjb:j=b
  ·subst hjb
   rw[wk hblt]at hj;cases hj
   exact hnew hx hnewr
  ·rw[wh (fun e=>hjb e.symm)]at hj
   exact(k.blk j y hj).keep (fun _ h=>h) (fun z hz=>by simp only[Sh.moreTok];rw[if_neg hjb];exact hz) (fun _ _ h=>h.ext hx) (fun r' hr'=>hoth r' (k.nmNe hr' hbr hjb)) (fun r' o hr' h=>by rw[hold r' (k.nmNe hr' hbr hjb)];exact h)
 ·intro j r' hj
  obtain⟨y,h1,h2⟩:=k.ρdom j r' hj
  refine⟨y,?_,h2⟩
  rw[wh]
  ·exact h1
  ·intro e;subst e;exact hρb _ hj
 ·intro j x hj
  simp only[Sh.moreTok]at hj
  split at hj
  ·rename_i hjb;subst hjb;cases hj;exact⟨x',wk hblt,hx'⟩
  ·rename_i hjb
   obtain⟨y,h1,h2⟩:=k.τdom j x hj
   exact⟨y,by rw[wh (fun e=>hjb e.symm)];exact h1,h2⟩
 ·exact k.injρ
 ·intro j j' r' c c' l l' hj hj'
  simp only[Sh.moreTok]at hj hj'
  split at hj
  ·rename_i hjb
   cases hj
   split at hj'
   ·omega
   ·rename_i hjb';exact absurd rfl (k.nmNe (.inr ⟨_,_,hj'⟩) hbr hjb')
  ·rename_i hjb
   split at hj'
   ·cases hj';exact absurd rfl (k.nmNe (.inr ⟨_,_,hj⟩) hbr hjb)
   ·exact k.injτ j j' r' c c' l l' hj hj'
 ·intro j j' r' c l hj hj'
  simp only[Sh.moreTok]at hj'
  split at hj'
  ·cases hj'
   exact k.apart j b r cap len hj hτ
  ·exact k.apart j j' r' c l hj hj'
 ·exact qc4 k hx ⟨hfr.1,hfr.2.1,hfr.2.2.1,by omega,fun j hj _ h2=>hoth j (fun e=>h2 b cap len (e▸hτ))⟩
 ·exact qdl k hx
theorem moreTok [Tabs P] (k:WR P S h w) {C:Array Value} {e:TypeId} {i:TypeInfo} {Y:List Value} {b r cap len m:Nat} (hb:h[b]? =some (.tok len e)) (hτ:S.τ b=some (r,cap,len))
 (hw:w.heap[r]? =some (.cells C e (0,0))) (hi:P.info? e=some i) (hsz:C.size=cap*i.size) (hY:Y.length=m*i.size) (hm:0<m) (hlc:len+m≤cap):
 Step P S w (S.moreTok b r cap (len*i.size) (len+m) Y) (h.set b (.tok (len+m) e))
  (w.setRow r (C.toList.take (len*i.size)++Y++C.toList.drop (len*i.size+Y.length)).toArray):=by
 obtain⟨r0,cap0,C0,i0,t1,t2,t3,t4,t5,t6,t7,t8⟩:=k.tok b len e hb
 rw[hτ]at t1;cases t1
 rw[hi]at t3;cases t3
 have hfit:len*i.size+Y.length≤C.size:=by rw[hsz,hY,←wj];exact wm _ hlc
 have hclen:(C.toList.take (len*i.size)++Y++C.toList.drop (len*i.size+Y.length)).length=C.size:=by simp;omega
 have hfree:∀o v,S.M ⟨r,o,none⟩=some v→o<len*i.size:=fun o v hv=>by
  by_cases ho:len*i.size≤o
  ·rw[t8 o ho]at hv;cases hv
  ·omega
 refine moreT k rfl hτ (by omega) hw hfree (fun j hj=> ?_) (fun j v hj=> ?_) (fun hx hnew=> ?_)
 ·rw[wi,wa (by rw[ww,wd];omega),wg hj]
 ·rw[wi,wb (by rw[ww,wd];omega)]
  have e1:(C.toList.take (len*i.size)).length=len*i.size:=by rw[ww,wd];omega
  rw[e1,wa (by have:=(wc.1 hj).1;omega),show len*i.size+j-len*i.size=j by omega]
  exact hj
 ·refine⟨r,cap,_,i,by simp[Sh.moreTok],hnew,hi,t4,by rw[w8,hclen,hsz],hlc,t7,fun o ho=> ?_⟩
  simp only[Sh.moreTok]
  rw[if_neg]
  ·exact t8 o (by rw[wj]at ho;omega)
  ·rw[wj]at ho;simp;omega
end Go.Ab
namespace Go.Ab
variable {P:Program} {S:Sh} {h:qaa} {w:World}
theorem qf9 {t ty e:TypeId} {i:TypeInfo} (ht:P.underlying t=some (.slice e)) (hi:P.info? e=some i) (base:Option Addr) (n cap:Nat) (hn:n≤cap) (b:Option Addr) (c:Nat):
 (Builtin.append_ #[t,t] ty #[.slice base n cap,.slice b 0 c]).run P w= .ok (.slice base n cap) w:=by
 cases base<;>cases b<;>simp[Builtin.append_,run_underlying ht,sizeOf,typeInfo,hi,Builtin.lenOf,hn,Builtin.firstCells,loadCells,loadCellsFrom,storeCells]
theorem qmp [Tabs P] (k:WR P S h w) {t ty:TypeId} {s x:AVal} {vs vx:Value} {r:AVal} {f:Eff} (hs:VR S s vs) (hx:VR S x vx)
 (e:qbu P h t s x=some (r,f)):
 ∃v w' S',(Builtin.append_ #[t,t] ty #[vs,vx]).run P w= .ok v w'∧Step P S w S' (f.of h) w'∧VR S' r v:=by
 unfold qbu at e
 split at e
 ·rename_i el es tk fs tk' hel
  have hu:P.underlying t=some (.slice el):=by
   unfold qc2 at hel
   split at hel
   ·rename_i e' he;cases hel;exact he
   ·cases hel
  split at e
  ·rename_i sz by_ z hsz hby hz
   obtain⟨i,hi,hisz⟩:=qdr hsz
   obtain⟨i2,zv,hi2,hzv,hzo⟩:=qeg hz
   rw[hi]at hi2;cases hi2
   have hib:i.bytes=by_:=by simpa[qbj,hi]using hby
   split at e
   ·rename_i hc
    simp only[w4,decide_eq_true_eq,beq_iff_eq]at hc
    obtain⟨⟨⟨⟨⟨hlen,hb0⟩,hb1⟩,hzl⟩,hhe⟩,hhf⟩:=hc
    have hzs:zv.cells.size=i.size:=by
     have:=(qd5 (S:=S) hzo).cells.1
     have h2:zv.cells.toList.length=zv.cells.size:=wd
     omega
    have hpos:0<i.size:=by omega
    have hlenm:es.length+fs.length≤1099511627776:=hlen
    have hbytes:(es.length+fs.length)*i.bytes≤140737488355328:=by
     rw[hib]
     calc (es.length+fs.length)*by_≤1099511627776*128:=Nat.mul_le_mul hlenm hb1
      _=140737488355328:=by decide
    split at e
    ·-- nothing appended
     cases e
     have hv0:∃b c,vx= .slice b 0 c:=by
      cases hx with
      |slice _ _ ad n cap _ _ hn=>exact⟨some ad,cap,by simp at hn;rw[hn]⟩
      |snil=>exact⟨none,0,rfl⟩
     obtain⟨b,c,rfl⟩:=hv0
     have hv1:∃b n c,vs= .slice b n c∧n≤c:=by
      cases hs with
      |slice _ _ ad n cap _ _ hn hcap=>exact⟨some ad,n,cap,rfl,hcap⟩
      |snil=>exact⟨none,0,0,rfl,wz _⟩
     obtain⟨b1,n1,c1,rfl,hn1⟩:=hv1
     exact⟨_,w,S,qf9 hu hi b1 n1 c1 hn1 b c,.refl k,hs⟩
    ·rename_i hfs
     have hfl:0<fs.length:=by
      cases fs with
      |nil=>exact absurd rfl hfs
      |cons=>simp
     obtain⟨adx,cx,Y,rfl,hY,hYc⟩:∃adx cx Y,vx= .slice (some adx) fs.length cx∧RowOf S fs i.size Y∧∀(j:Nat) (v:Value),Y[j]? =some v→w.cell? (adx.add j)=some v:=by
      cases hx with
      |slice _ _ ad n cap esz vs' hn hcap hcm hsp hs' g1 hp g2 ht=>
       obtain⟨Y,h1,h2,_⟩:=VR.row k (.slice fs tk' ad n cap esz vs' hn hcap hcm hsp hs' g1 hp g2 ht) (hisz▸hhf) hpos
       exact⟨ad,cap,Y,by rw[hn],h1,h2⟩
      |snil=>simp at hfl
     have hYl:Y.length=fs.length*i.size:=hY.1
     have hY1:=hY.one hpos
     have grow:∀(X:List Value) (old:Nat),RowOf S es i.size X→old<es.length+fs.length→∀(b:Nat) (h'':qaa),
      ((b=h.length∧h''=h++[.tok (es.length+fs.length) el])∨(∃l0 r0 c0,h[b]? =some (.tok l0 el)∧S.τ b=some (r0,c0,l0)∧l0<es.length+fs.length∧h''=h.set b (.tok (es.length+fs.length) el)))→
      ∃S',Step P S w S' h'' (w.drew.alloc (.cells (X.toArray++Y.toArray++Builtin.zeroCells zv.cells (grownCap w (es.length+fs.length) old el-(es.length+fs.length))) el))∧
       VR S' (.slice (es++fs) (.own b)) (.slice (some ⟨w.heap.size,0,none⟩) (es.length+fs.length) (grownCap w (es.length+fs.length) old el)):=by
      intro X old hX hold b h'' hb
      have hge:=grownCap_ge w (es.length+fs.length) old el
      have hcm:grownCap w (es.length+fs.length) old el≤maxLen:=grownCap_le_maxLen w _ old el (by simp only[maxLen];omega)
      have hrow:=hX.append hY
      have hst:=newTok k.drew (C:=X.toArray++Y.toArray++Builtin.zeroCells zv.cells (grownCap w (es.length+fs.length) old el-(es.length+fs.length))) (e:=el) (i:=i)
       (X:=X++Y) (Y:=(Builtin.zeroCells zv.cells (grownCap w (es.length+fs.length) old el-(es.length+fs.length))).toList) (cap:=grownCap w (es.length+fs.length) old el) (len:=es.length+fs.length)
       hi hpos (by simp) (by
        simp only[Array.size_append,w8,size_zeroCells,hzs,hX.1,hY.1,←wj]
        congr 1;omega) (by simp[hX.1,hY.1,wj]) hge hcm hb
      refine⟨_,(Step.drew k).trans hst,?_⟩
      refine VR.made (hrow.ext hst.ext) (fun j v hj=> ?_) (by simp) hge hcm ⟨_,_,_,by simp[Sh.withTok],wz _,by omega,fun _=>⟨rfl,rfl⟩⟩
      simp only[Sh.withTok,World.size_drew,and_self,if_true]
      exact hj
     split at e
     ·-- full
      cases e
      cases hs with
      |slice _ _ ad n cap esz vs' hn hcap hcm hsp hs' g1 hp g2 ht=>
       subst hn
       have hcl:cap=es.length:=ht
       subst hcl
       obtain⟨X,hX,hXc,_⟩:=VR.row k (.slice es .full ad es.length es.length esz vs' rfl hcap hcm hsp hs' g1 hp g2 ht) (hisz▸hhe) hpos
       obtain⟨S',hst,hvr⟩:=grow X es.length hX (by omega) h.length _ (.inl ⟨rfl,rfl⟩)
       refine⟨_,_,S',run_append_grow (P:=P) w t ty el i zv hu hi hzv ad es.length es.length X hX.1 hXc adx fs.length cx Y hYl hYc (by omega) (by omega) (growslice_fits (by omega) hbytes),hst,hvr⟩
      |snil _ _=>
       obtain⟨S',hst,hvr⟩:=grow [] 0 (.nil S _) (by simpa using hfl) h.length _ (.inl ⟨rfl,rfl⟩)
       simp only[List.length_nil,wka,List.nil_append]at hst hvr hbytes hlenm ⊢
       refine⟨_,_,S',run_append_nil (P:=P) w t ty el i zv hu hi hzv adx fs.length cx Y hYl hYc hfl (by omega) (by omega),?_,hvr⟩
       simpa[Eff.of]using hst
     ·-- owned
      rename_i b
      split at e
      ·rename_i n e' hb
       split at e
       ·rename_i hc2
        simp only[w4,decide_eq_true_eq]at hc2
        obtain⟨⟨rfl,rfl⟩,_⟩:=hc2
        cases e
        obtain⟨r0,cap0,C0,i0,t1,t2,t3,t4,t5,t6,t7,t8⟩:=k.tok b es.length e' hb
        rw[hi]at t3;cases t3
        cases hs with
        |snil _ htk=>rcases htk with h|h<;>cases h
        |slice _ _ ad n cap esz vs' hn hcap hcm hsp hs' g1 hp g2 ht=>
         obtain⟨r1,c1,l1,u1,u2,u0,u3⟩:=ht
         rw[t1]at u1;cases u1
         subst hn
         obtain⟨rfl,rfl⟩:=u3 rfl
         obtain⟨X,hX,hXc,hXM⟩:=VR.row k (.slice es (.own b) ⟨r0,0,none⟩ es.length cap esz vs' rfl hcap hcm hsp hs' g1 hp g2 ⟨r0,cap,es.length,t1,u2,u0,fun _=>⟨rfl,rfl⟩⟩) (hisz▸hhe) hpos
         have hes:es≠[]:=by intro e;subst e;simp at u0
         by_cases hroom:es.length+fs.length≤cap
         ·have hfit:es.length*i.size+Y.length≤C0.size:=by rw[t5,hYl,←wj];exact wm _ hroom
          have hst:=moreTok k (Y:=Y) (m:=fs.length) hb t1 t2 hi t5 hYl hfl hroom
          refine⟨_,_,_,run_append_room (P:=P) w t ty e' i hu hi r0 es.length cap C0 t2 adx fs.length cx Y hYl hYc hY1 hroom hfit,hst,?_⟩
          refine VR.made ((hX.append hY).ext hst.ext) (fun j v hj=> ?_) (by simp) hroom hcm ⟨_,_,_,by simp[Sh.moreTok],wz _,by omega,fun _=>⟨rfl,rfl⟩⟩
          by_cases hjx:j<X.length
          ·rw[wa hjx]at hj
           have:=hst.ext.M _ _ (hXM hes j v hj)
           simpa using this
          ·rw[wb (by omega)]at hj
           have hjl:=(wc.1 hj).1
           simp only[Sh.moreTok]
           rw[hX.1]at hjx hj hjl
           simp only[true_and]
           rw[if_pos ⟨by omega,by omega⟩]
           exact hj
         ·obtain⟨S',hst,hvr⟩:=grow X cap hX (by omega) b _ (.inr ⟨es.length,r0,cap,hb,t1,by omega,rfl⟩)
          exact⟨_,_,S',run_append_grow (P:=P) w t ty e' i zv hu hi hzv ⟨r0,0,none⟩ es.length cap X hX.1 hXc adx fs.length cx Y hYl hYc (by omega) (by omega) (growslice_fits (by omega) hbytes),hst,hvr⟩
       ·cases e
      ·cases e
     ·cases e
     ·cases e
   ·cases e
  ·cases e
 ·cases e
end Go.Ab
