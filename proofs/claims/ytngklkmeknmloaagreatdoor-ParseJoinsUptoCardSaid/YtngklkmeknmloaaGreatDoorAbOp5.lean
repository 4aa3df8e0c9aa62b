/- Calls see the blocks that their arguments reach, renumbered: soundness. -/
import Derived.Test.YtngklkmeknmloaaGreatDoorAbOp2
import Derived.Laws.Append
set_option linter.unusedSimpArgs false
set_option linter.unusedVariables false
set_option maxRecDepth 100000
set_option maxHeartbeats 4000000
open List renaming getElem?_eq_some_iff→wa,getElem?_append_left→wb,getElem?_set_ne→wc,getElem?_eq_getElem→wd,getElem?_append_right→we,getElem?_set_self→wf,mem_of_getElem?→wi,getElem?_map→wk,getD_eq_getElem?_getD→wo,getElem_mem→wv,length_take→wz,mem_append→w6,getElem_of_mem→w7,idxOf_lt_length_of_mem→w8,getElem?_eq_none→wca,getElem?_toArray→wda,getElem?_range→wfa,append_assoc→wga,all_eq_true→wha,length_drop→wia
open Nat renaming add_mul→wg,mul_le_mul_right→wm,le_refl→wq,div_lt_iff_lt_mul→wba,mod_lt→wja,div_add_mod→wka,mul_comm→wla,zero_add→wma
open Array renaming length_toList→wh,getElem?_toList→wj,getElem?_eq_getElem→w9,getElem?_push→wea
open Option renaming isSome_none→wt,getD_some→waa
open Bool renaming false_eq_true→wu,and_eq_true→ww
namespace Go.Ab
variable {P:Program} {S:Sh} {h:qab} {w:World}
theorem qnj {a:AVal} {v:Value} (k:VR S a v):VR S (qbj a) v:=by
 cases k with
 |slice es tk ad m cap esz vs hn hc hcm hsp hsz h1 hp h2 ht=>exact .slice es .free ad m cap esz vs hn hc hcm hsp hsz h1 hp h2 trivial
 |snil tk htk=>exact .snil .free (.inl rfl)
 |undef=>exact .undef
 |bool b=>exact .bool b
 |int k n=>exact .int k n
 |str s l e=>exact .str s l e
 |nilp=>exact .nilp
 |ptr b o r e=>exact .ptr b o r e
 |eptr cs o r o0 vs h1 hp h2=>exact .eptr cs o r o0 vs h1 hp h2
 |func f x y p q hx hy h1 h2=>exact .func f x y p q hx hy h1 h2
 |nilf=>exact .nilf
 |iface t a v h=>exact .iface t a v h
 |nili=>exact .nili
 |agg x p hx h1=>exact .agg x p hx h1
 |tuple x p hx h1=>exact .tuple x p hx h1
theorem VRl.map_strip {l:List AVal} {x:List Value} (k:VRl S l x):VRl S (l.map qbj) x:=by
 refine⟨by simpa using k.1,fun j u v hu hv=> ?_⟩
 rw[wk]at hu
 cases hc:l[j]? with
 |none=>simp[hc]at hu
 |some a=>simp[hc]at hu;subst hu;exact qnj (k.2 j a v hc hv)
theorem qnk {a:AVal} {v:Value} (k:VR S a v):VR S (strip2 a) v:=by
 cases a with
 |agg cs=>
  obtain⟨x,rfl,hx⟩:=k.inv_agg
  have:=VR.agg' hx.map_strip
  simpa[strip2]using this
 |_=>exact qnj k
theorem q3y {a:AVal} {v:Value} (k:VR S a v):VR S (argA a) v:=by
 cases a with
 |agg cs=>exact qnk k
 |_=>exact k
theorem VRl.map_arg {l:List AVal} {x:List Value} (k:VRl S l x):VRl S (l.map argA) x:=by
 refine⟨by simpa using k.1,fun j u v hu hv=> ?_⟩
 rw[wk]at hu
 cases hc:l[j]? with
 |none=>simp[hc]at hu
 |some a=>simp[hc]at hu;subst hu;exact q3y (k.2 j a v hc hv)
theorem qkg {a:AVal} {v:Value} (k:VR S a v):VR S (strip3 a) v:=by
 cases a with
 |tuple cs=>
  obtain⟨x,rfl,hx⟩:=k.inv_tuple
  have:VRl S (cs.map strip2) x.toList:=by
   refine⟨by simpa using hx.1,fun j u v hu hv=> ?_⟩
   rw[wk]at hu
   cases hc:cs[j]? with
   |none=>simp[hc]at hu
   |some a=>simp[hc]at hu;subst hu;exact qnk (hx.2 j a v hc hv)
  have:=VR.tuple' this
  simpa[strip3]using this
 |_=>exact qnk k
theorem qd1 {w:World} {o:Obj} {k:Nat} (hk:k<w.heap.size):(w.alloc o).heap[k]? =w.heap[k]? :=by
 show(w.heap.push o)[k]? =_
 rw[wea,if_neg (by omega)]
theorem qn8 {w:World} {o:Obj}:(w.alloc o).heap[w.heap.size]? =some o:=by
 show(w.heap.push o)[w.heap.size]? =_
 rw[wea,if_pos rfl]
theorem qnl {w w':World} {a:Addr} {v:Value} (hw:w'.heap[a.block]? =w.heap[a.block]?) (hc:w.cell? a=some v):w'.cell? a=some v:=by
 rw[World.cell?_of_block hw];exact hc
def Sh.withBox (S:Sh) (b r:Nat):Sh:={ S with ρ:=fun i=>if i=b then some r else S.ρ i }
theorem newBox [Tabs P] (k:WR P S h w) {C:Array Value} {T:TypeId} {cs:List AVal} (hc:VRl S cs C.toList):
 Step P S w (S.withBox h.length w.heap.size) (h++[.box cs]) (w.alloc (.cells C T))∧
  VR (S.withBox h.length w.heap.size) (.ptr h.length 0) (.pointer (some ⟨w.heap.size,0,none⟩)):=by
 have hne:∀b r,S.ρ b=some r→b≠h.length:=fun b r hb=>by have:=(k.lt hb).1;omega
 have hx:Ex S w.heap.size (S.withBox h.length w.heap.size):=by
  refine⟨fun _ _ h=>h,fun b r hb=> ?_,fun t r c l ht=>⟨r,c,l,ht,.inr ⟨rfl,rfl,rfl⟩⟩,fun b r hb=> ?_,fun t r c l ht=> .inl ⟨c,l,ht⟩,fun _ _ h=> .inl h,rfl⟩
  ·simp only[Sh.withBox];rw[if_neg (hne b r hb)];exact hb
  ·simp only[Sh.withBox]at hb
   split at hb
   ·cases hb;exact .inr (wq _)
   ·exact .inl hb
 refine⟨⟨hx,⟨rfl,rfl,rfl,by simp,fun i hi _ _=>qd1 hi⟩,?_⟩,.ptr _ _ _ (by simp[Sh.withBox])⟩
 constructor
 ·intro a v ha
  exact⟨qnl (qd1 (k.ltM ha)) (k.imm a v ha).1,(k.imm a v ha).2⟩
 ·intro b cs' hb
  by_cases hlt:b<h.length
  ·rw[wb hlt]at hb
   obtain⟨r,C',T',h1,h2,h3,h4⟩:=k.box b cs' hb
   refine⟨r,C',T',?_,(qd1 (k.lt h1).2).trans h2,h3.ext hx,h4⟩
   simp only[Sh.withBox];rw[if_neg (by omega)];exact h1
  ·rw[we (by omega)]at hb
   have:b=h.length:=by
    have:=(wa.1 hb).1;simp at this;omega
   subst this
   simp at hb;subst hb
   refine⟨w.heap.size,C,T,by simp[Sh.withBox],qn8,hc.ext hx,fun o=> ?_⟩
   cases hM:S.M ⟨w.heap.size,o,none⟩with
   |none=>exact hM
   |some v=>have:=k.ltM hM;simp at this
 ·intro b len e hb
  by_cases hlt:b<h.length
  ·rw[wb hlt]at hb
   obtain⟨r,cap,C',i,h1,h2,h3⟩:=k.tok b len e hb
   exact⟨r,cap,C',i,h1,(qd1 (k.ltτ h1).2).trans h2,h3⟩
  ·rw[we (by omega)]at hb
   have:=(wa.1 hb).1
   simp at this
   rw[show b-h.length=0 by omega]at hb
   simp at hb
 ·intro b r hb
  simp only[Sh.withBox]at hb
  split at hb
  ·rename_i e;subst e;exact⟨cs,by simp⟩
  ·obtain⟨cs',h1⟩:=k.ρdom b r hb
   exact⟨cs',by rw[wb (k.lt hb).1];exact h1⟩
 ·intro b x hb
  obtain⟨e,h1⟩:=k.τdom b x hb
  exact⟨e,by rw[wb (k.ltτ hb).1];exact h1⟩
 ·intro b b' r hb hb'
  simp only[Sh.withBox]at hb hb'
  split at hb
  ·cases hb
   split at hb'
   ·omega
   ·have:=(k.lt hb').2;omega
  ·split at hb'
   ·cases hb';have:=(k.lt hb).2;omega
   ·exact k.injρ b b' r hb hb'
 ·intro b b' r c c' l l' hb hb'
  exact k.injτ b b' r c c' l l' hb hb'
 ·intro b b' r c l hb hb'
  simp only[Sh.withBox]at hb
  split at hb
  ·cases hb;have:=(k.ltτ hb').2;omega
  ·exact k.apart b b' r c l hb hb'
 ·exact qjt k hx ⟨rfl,rfl,rfl,by simp,fun i hi _ _=>qd1 hi⟩
 ·exact qmd k hx
def Sh.withImm (S:Sh) (r:Nat) (X:List Value):Sh:={ S with M:=fun a=>if a.block=r∧a.spot=none then X[a.off]? else S.M a }
theorem q3z [Tabs P] (k:WR P S h w) (X:List Value):Ex S w.heap.size (S.withImm w.heap.size X):=by
 refine⟨fun a v ha=> ?_,fun b r hb=>hb,fun t r c l ht=>⟨r,c,l,ht,.inr ⟨rfl,rfl,rfl⟩⟩,fun b r hb=> .inl hb,fun t r c l ht=> .inl ⟨c,l,ht⟩,fun a v ha=> ?_,rfl⟩
 ·simp only[Sh.withImm]
  have:=k.ltM ha
  rw[if_neg (by omega)];exact ha
 ·simp only[Sh.withImm]at ha
  split at ha
  ·rename_i hc;exact .inr (.inl (by omega))
  ·exact .inl ha
theorem newImm [Tabs P] (k:WR P S h w) {C:Array Value} {T:TypeId} {X Y:List Value} (hC:C.toList=X++Y):
 Step P S w (S.withImm w.heap.size X) h (w.alloc (.cells C T)):=by
 have hx:=q3z k X
 have hold:∀r,r<w.heap.size→∀o,(S.withImm w.heap.size X).M ⟨r,o,none⟩=S.M ⟨r,o,none⟩:=fun r hr o=>by
  simp only[Sh.withImm];rw[if_neg (by simp;omega)]
 refine⟨hx,⟨rfl,rfl,rfl,by simp,fun i hi _ _=>qd1 hi⟩,?_⟩
 constructor
 ·intro a v ha
  simp only[Sh.withImm]at ha
  split at ha
  ·rename_i hc
   refine⟨?_,hc.2⟩
   have:C[a.off]? =some v:=by
    rw[←wj,hC,wb (wa.1 ha).1];exact ha
   simp only[World.cell?,hc.1,qn8,hc.2,wt,wu,if_false,this]
  ·exact⟨qnl (qd1 (k.ltM ha)) (k.imm a v ha).1,(k.imm a v ha).2⟩
 ·intro b cs' hb
  obtain⟨r,C',T',h1,h2,h3,h4⟩:=k.box b cs' hb
  exact⟨r,C',T',h1,(qd1 (k.lt h1).2).trans h2,h3.ext hx,fun o=>by rw[hold r (k.lt h1).2];exact h4 o⟩
 ·intro b len e hb
  obtain⟨r,cap,C',i,h1,h2,h3,h4,h5,h6,h7,h8⟩:=k.tok b len e hb
  exact⟨r,cap,C',i,h1,(qd1 (k.ltτ h1).2).trans h2,h3,h4,h5,h6,h7,fun o ho=>by rw[hold r (k.ltτ h1).2];exact h8 o ho⟩
 ·exact k.ρdom
 ·exact k.τdom
 ·exact k.injρ
 ·exact k.injτ
 ·exact k.apart
 ·exact qjt k hx ⟨rfl,rfl,rfl,by simp,fun i hi _ _=>qd1 hi⟩
 ·exact qmd k hx
def RowOf (S:Sh) (es:List (List AVal)) (sz:Nat) (X:List Value):Prop:=
 X.length=es.length*sz∧(∀c∈es,c.length=sz)∧(∀c∈es,∀a∈c,qcu a=true)∧
  ∀(i:Nat) (c:List AVal) (j:Nat) (a:AVal),es[i]? =some c→c[j]? =some a→∃v,X[i*sz+j]? =some v∧VR S a v
theorem RowOf.nil (S:Sh) (sz:Nat):RowOf S [] sz []:=⟨by simp,by simp,by simp,fun i c j a hi=>by simp at hi⟩
theorem RowOf.ext {S S':Sh} {N:Nat} (hx:Ex S N S') {es:List (List AVal)} {sz:Nat} {X:List Value} (k:RowOf S es sz X):RowOf S' es sz X:=
 ⟨k.1,k.2.1,k.2.2.1,fun i c j a hi hj=>let⟨v,h1,h2⟩:=k.2.2.2 i c j a hi hj;⟨v,h1,h2.ext hx⟩⟩
theorem RowOf.append {es fs:List (List AVal)} {sz:Nat} {X Y:List Value} (k:RowOf S es sz X) (l:RowOf S fs sz Y):RowOf S (es++fs) sz (X++Y):=by
 refine⟨by simp[k.1,l.1,wg],fun c hc=> ?_,fun c hc=> ?_,fun i c j a hi hj=> ?_⟩
 ·rcases w6.1 hc with h|h
  ·exact k.2.1 c h
  ·exact l.2.1 c h
 ·rcases w6.1 hc with h|h
  ·exact k.2.2.1 c h
  ·exact l.2.2.1 c h
 ·by_cases hlt:i<es.length
  ·rw[wb hlt]at hi
   obtain⟨v,h1,h2⟩:=k.2.2.2 i c j a hi hj
   exact⟨v,by rw[wb (wa.1 h1).1];exact h1,h2⟩
  ·rw[we (by omega)]at hi
   obtain⟨v,h1,h2⟩:=l.2.2.2 _ c j a hi hj
   refine⟨v,?_,h2⟩
   have:i*sz+j=X.length+((i-es.length)*sz+j):=by
    rw[k.1]
    have:i=es.length+(i-es.length):=by omega
    rw[this,wg]
    simp
    omega
   rw[this,we (by omega)]
   simpa using h1
theorem RowOf.one {es:List (List AVal)} {sz:Nat} {X:List Value} (k:RowOf S es sz X) (hsz:0<sz):∀v∈X,v.oneCell'=true:=by
 intro v hv
 obtain⟨n,hn,rfl⟩:=w7 hv
 have h1:n/sz<es.length:=by
  rw[wba hsz,←k.1];exact hn
 have h2:n % sz<(es[n/sz]).length:=by
  rw[k.2.1 _ (wv h1)];exact wja _ hsz
 obtain⟨v,h3,h4⟩:=k.2.2.2 (n/sz) _ (n % sz) _ (wd h1) (wd h2)
 rw[wla,wka,wd hn]at h3
 cases h3
 exact h4.one (k.2.2.1 _ (wv h1) _ (wv h2))
theorem VR.row [Tabs P] (k:WR P S h w) {es:List (List AVal)} {tk:Tk} {ad:Addr} {n cap sz:Nat} (hv:VR S (.slice es tk) (.slice (some ad) n cap)) (hh:qfa sz es=true) (hsz:0<sz):
 ∃X,RowOf S es sz X∧(∀(j:Nat) (v:Value),X[j]? =some v→w.cell? (ad.add j)=some v)∧
  (es≠[]→∀(j:Nat) (v:Value),X[j]? =some v→S.M ⟨ad.block,ad.off+j,none⟩=some v):=by
 cases hv with
 |slice _ _ _ _ _ esz vs hn hc hcm hsp hs g1 hp g2 ht=>
 by_cases hne:es=[]
 ·subst hne
  exact⟨[],.nil S sz,fun j v hj=>by simp at hj,fun h=>absurd rfl h⟩
 ·have hesz:=qwk hs hh hne
  subst hesz
  have hspot:=hsp hne
  have hM:∀(j:Nat) (v:Value),((List.range (es.length*esz)).map vs)[j]? =some v→S.M ⟨ad.block,ad.off+j,none⟩=some v:=by
   intro q v hq
   rw[wk]at hq
   by_cases hlt:q<es.length*esz
   ·rw[wfa hlt]at hq
    simp at hq;subst hq
    have h1:q/esz<es.length:=by rw[wba hsz];exact hlt
    have h2:q % esz<(es[q/esz]).length:=by rw[hs _ (wv h1)];exact wja _ hsz
    have:=g1 (q/esz) _ (q % esz) _ (wd h1) (wd h2)
    rwa [wla,wka]at this
   ·rw[wca (by simp;omega)]at hq;simp at hq
  refine⟨(List.range (es.length*esz)).map vs,⟨by simp,hs,hp,fun i c j a hi hj=>⟨vs (i*esz+j),?_,g2 i c j a hi hj⟩⟩,?_,fun _=>hM⟩
  ·have h1:=(wa.1 hi).1
   have h2:=(wa.1 hj).1
   have h3:=hs c (wi hi)
   have hlt:i*esz+j<es.length*esz:=by
    have:(i+1)*esz≤es.length*esz:=wm _ h1
    rw[wg]at this
    omega
   rw[wk,wfa hlt]
   rfl
  ·intro q v hq
   have:=hM q v hq
   rw[qva ad q (fun _=>hspot)]
   exact(k.imm _ _ this).1
theorem VR.made {es:List (List AVal)} {tk:Tk} {r n cap sz:Nat} {X:List Value} (hr:RowOf S es sz X) (hM:∀(j:Nat) (v:Value),X[j]? =some v→S.M ⟨r,j,none⟩=some v)
 (hn:es.length=n) (hc:n≤cap) (hcm:cap≤maxLen) (ht:TkOk S tk n cap ⟨r,0,none⟩):VR S (.slice es tk) (.slice (some ⟨r,0,none⟩) n cap):=by
 refine .slice es tk ⟨r,0,none⟩ n cap sz (fun j=>X.getD j .nilFunc) hn hc hcm (fun _=>rfl) hr.2.1 ?_ hr.2.2.1 ?_ ht
 ·intro i c j a hi hj
  obtain⟨v,h1,h2⟩:=hr.2.2.2 i c j a hi hj
  simp only[wma,wo,h1,waa]
  exact hM _ _ h1
 ·intro i c j a hi hj
  obtain⟨v,h1,h2⟩:=hr.2.2.2 i c j a hi hj
  simp only[wo,h1,waa]
  exact h2
end Go.Ab
namespace Go.Ab
variable {P:Program} {S:Sh} {h:qab} {w:World}
theorem setBox [Tabs P] (k:WR P S h w) {b r:Nat} {cs cs':List AVal} {C C':Array Value} {T:TypeId} (hb:h[b]? =some (.box cs)) (hr:S.ρ b=some r)
 (hw:w.heap[r]? =some (.cells C T (0,0))) (hc:VRl S cs' C'.toList):Step P S w S (h.set b (.box cs')) (w.setRow r C'):=by
 have hlt:=(wa.1 hb).1
 have hM:∀o,S.M ⟨r,o,none⟩=none:=by
  obtain⟨r',_,_,h1,_,_,h4⟩:=k.box b cs hb
  rw[hr]at h1;cases h1;exact h4
 have hnew:=setRow_heap w r C C' T (0,0) hw
 refine⟨.refl S _,⟨rfl,rfl,rfl,by simp[World.setRow],fun i hi h1 _=>setRow_other w r i C' (fun e=>h1 b (e▸hr))⟩,?_⟩
 constructor
 ·intro a v ha
  refine⟨qnl (setRow_other w r a.block C' ?_) (k.imm a v ha).1,(k.imm a v ha).2⟩
  intro e
  have hs:=(k.imm a v ha).2
  have:a=⟨r,a.off,none⟩:=by cases a;simp_all
  rw[this,hM]at ha;cases ha
 ·intro b' cs2 hb'
  by_cases he:b'=b
  ·subst he
   rw[wf hlt]at hb'
   cases hb'
   exact⟨r,C',T,hr,hnew,hc,hM⟩
  ·rw[wc (fun e=>he e.symm)]at hb'
   obtain⟨r',C2,T2,h1,h2,h3,h4⟩:=k.box b' cs2 hb'
   exact⟨r',C2,T2,h1,(setRow_other w r r' C' (fun e=>he (k.injρ b' b r (e▸h1) hr))).trans h2,h3,h4⟩
 ·intro b' len e hb'
  have he:b'≠b:=by
   intro he;subst he
   rw[wf hlt]at hb';cases hb'
  rw[wc (fun e=>he e.symm)]at hb'
  obtain⟨r',cap,C2,i,h1,h2,h3⟩:=k.tok b' len e hb'
  exact⟨r',cap,C2,i,h1,(setRow_other w r r' C' (fun e=>by subst e;exact k.apart b b' r' cap len hr h1)).trans h2,h3⟩
 ·intro b' r' hb'
  obtain⟨cs2,h1⟩:=k.ρdom b' r' hb'
  by_cases he:b'=b
  ·subst he;exact⟨cs',wf hlt⟩
  ·exact⟨cs2,by rw[wc (fun e=>he e.symm)];exact h1⟩
 ·intro b' x hb'
  obtain⟨e,h1⟩:=k.τdom b' x hb'
  refine⟨e,?_⟩
  rw[wc]
  ·exact h1
  ·intro he;subst he;rw[hb]at h1;cases h1
 ·exact k.injρ
 ·exact k.injτ
 ·exact k.apart
 ·exact qjt k (.refl S _) ⟨rfl,rfl,rfl,by simp[World.setRow],fun i hi h1 _=>setRow_other w r i C' (fun e=>h1 b (e▸hr))⟩
 ·exact k.laid
theorem q0k [Tabs P] (k:WR P S h w) {t:TypeId} {p x:AVal} {vp vx:Value} {h':qab} {b:Nat} (hp:VR S p vp) (hx:VR S x vx) (e:qfu P h t p x=some (h',b)):
 ∃w',(Instr.storeAt t vp vx).run P w= .ok () w'∧Step P S w S h' w':=by
 unfold qfu at e
 split at e
 ·rename_i b0 off
  cases hp with
  |ptr _ _ r hr=>
  split at e
  ·rename_i cs n hb hs
   split at e
   ·rename_i hc
    simp only[ww,decide_eq_true_eq]at hc
    cases hset:qar cs off x.cells with
    |none=>simp[hset]at e
    |some cs'=>
     simp[hset]at e
     obtain⟨rfl,rfl⟩:=e
     obtain⟨h1,h2⟩:=qln hset
     obtain⟨r',C,T,g1,g2,g3,g4⟩:=k.box b0 cs hb
     rw[hr]at g1;cases g1
     have hv:=hx.cells
     have hlC:C.size=cs.length:=by rw[g3.1,wh]
     have hlv:vx.cells.size=x.cells.length:=by rw[hv.1,wh]
     have hone:∀v∈vx.cells.toList,v.oneCell'=true:=by
      intro v hm
      obtain⟨u,hu,hr⟩:=hv.mem hm
      exact hr.oneA (wha.1 hc.2 u hu)
     have hrun:=run_storeCells_at P r off T vx.cells.toList 0 C w g2 (by simp;omega) hone
     refine⟨_,?_,setBox k hb hr g2 (C':=(C.toList.take (off+0)++vx.cells.toList++C.toList.drop (off+0+vx.cells.toList.length)).toArray) ?_⟩
     ·have e3:vx.cells.size=n:=by rw[hlv,hc.1]
      simp only[Instr.storeAt,Instr.sureAddr,storeVar,Sem.run_bind,Sem.run_pure,Result.andThen_ok,qfk hs,e3,ne_eq,not_true,if_false]
      exact hrun
     ·rw[h2]
      have:=((g3.take off).append hv).append (g3.drop (off+x.cells.length))
      simpa[hlv]using this
   ·cases e
  ·cases e
 ·cases e
theorem qu1 {α:Type} (l:List α) (hl:0<l.length):∀(n k:Nat),k<n*l.length→(List.replicate n l).flatten[k]? =l[k % l.length]?
 |0,k,h=>by omega
 |n+1,k,h=>by
  rw[List.replicate_succ,List.flatten_cons]
  by_cases hk:k<l.length
  ·rw[wb hk,Nat.mod_eq_of_lt hk]
  ·rw[we (by omega),qu1 l hl n (k-l.length) (by rw[wg]at h;omega)]
   congr 1
   rw[Nat.mod_eq_sub_mod (by omega:l.length≤k)]
theorem qkh {c c':List AVal} (e:qeo c=some c'):c'.length=c.length∧(∀a∈c',qcu a=true)∧∀(j:Nat) (a':AVal),c'[j]? =some a'→∃a,c[j]? =some a∧a'=qbj a:=by
 unfold qeo at e
 simp only at e
 split at e
 ·rename_i hc
  cases e
  refine⟨by simp,fun a ha=>wha.1 hc a ha,fun j a' hj=> ?_⟩
  rw[wk]at hj
  cases hcj:c[j]? with
  |none=>simp[hcj]at hj
  |some a=>simp[hcj]at hj;exact⟨a,rfl,hj.symm⟩
 ·cases e
theorem qr4:∀{cs es:List (List AVal)},qe3 cs=some es→es.length=cs.length∧∀(i:Nat) (c':List AVal),es[i]? =some c'→∃c,cs[i]? =some c∧qeo c=some c'
 |[],es,e=>by cases e;exact⟨rfl,fun i c' hi=>by simp at hi⟩
 |c::r,es,e=>by
  unfold qe3 at e
  split at e
  ·rename_i c' r' h1 h2
   cases e
   have ih:=qr4 h2
   refine⟨by simp[ih.1],fun i d hi=> ?_⟩
   cases i with
   |zero=>simp at hi;subst hi;exact⟨c,rfl,h1⟩
   |succ i=>exact ih.2 i d (by simpa using hi)
  ·cases e
theorem q0l (s:Nat):∀(n:Nat) (cs:List AVal),n*s≤cs.length→(chop s n cs).length=n∧∀(i:Nat) (c:List AVal),(chop s n cs)[i]? =some c→i<n∧c=(cs.drop (i*s)).take s
 |0,cs,_=>⟨rfl,fun i c hi=>by simp[chop]at hi⟩
 |n+1,cs,hl=>by
  have ih:=q0l s n (cs.drop s) (by rw[wia,wg]at*;omega)
  refine⟨by simp[chop,ih.1],fun i c hi=> ?_⟩
  cases i with
  |zero=>simp[chop]at hi;exact⟨by omega,by simp[←hi]⟩
  |succ i=>
   have:=ih.2 i c (by simpa[chop]using hi)
   refine⟨by omega,?_⟩
   rw[this.2,List.drop_drop,wg]
   congr 2
   omega
theorem qvb [Tabs P] (k:WR P S h w) {t el:TypeId} {n s:Nat} {z:AVal} {ps:Array (Nat×Operand)} {us:List (Nat×AVal)} {ts:List AVal} {a:Act} {cs:List AVal} {es:List (List AVal)}
 (ht:VRl S ts a.tmps.toList) (hu:P.underlying t=some (.slice el)) (hs:qaq P el=some (s+1)) (hz:qat P el=some z) (hp:qb2 ts ps.toList=some us)
 (hn:n*(s+1)≤65536) (hzl:z.cells.length=s+1)
 (e:qc6 (fun i=>some (i*(s+1),s+1)) (List.replicate n z.cells).flatten us=some cs) (e2:qe3 (chop (s+1) n cs)=some es):
 ∃v w' S',(Instr.buildSlice t n (ps.map fun(i,x)=>(i,a.eval x))).run P w= .ok v w'∧Step P S w S' h w'∧VR S' (.slice es .full) v:=by
 obtain⟨vz,hvz,hrz⟩:=qj3 hz w S
 have hzc:=hrz.cells
 have hzs:vz.cells.size=s+1:=by rw[←hzl,hzc.1,wh]
 obtain⟨h1,h2⟩:=qkf ht hp
 let zero:Array Value:=if n*(s+1)=0 then #[]else vz.cells
 let init:Array Value:=(Array.range (n*(s+1))).map (fun x=>zero[x % zero.size]!)
 have hinit:VRl S (List.replicate n z.cells).flatten init.toList:=by
  refine⟨by simp[init,hzl],fun j u v hj hv=> ?_⟩
  have hlt:j<n*(s+1):=by
   have:=(wa.1 hj).1
   simpa[hzl]using this
  have hzero:zero=vz.cells:=by simp only[zero];rw[if_neg (by omega)]
  rw[qu1 z.cells (by omega) n j (by rw[hzl];exact hlt)]at hj
  have hv':init[j]? =some v:=by rw[←wj];exact hv
  simp only[init,Array.getElem?_map]at hv'
  rw[w9 (by simpa using hlt)]at hv'
  simp only[Array.getElem_range,Option.map_some,hzero,hzs]at hv'
  have hm:j % (s+1)<vz.cells.size:=by rw[hzs];exact wja _ (by omega)
  rw[getElem!_pos vz.cells (j % (s+1)) hm]at hv'
  cases hv'
  rw[hzl]at hj
  exact hzc.2 _ _ _ hj (by rw[wj];exact w9 hm)
 obtain⟨y,hy,hyr⟩:=qlo (S:=S) (pa:=fun i=>some (i*(s+1),s+1)) (pv:=fun i=>some (i*(s+1),s+1)) (fun i q hq=>hq) (vs:=(ps.map fun(i,x)=>(i,a.eval x)).toList) (x:=init) (by
  rw[h1];simp) (by rw[Array.toList_map,List.map_map];exact h2) hinit e
 have hlen:∀{us:List (Nat×AVal)} {cs r:List AVal},qc6 (fun i=>some (i*(s+1),s+1)) cs us=some r→r.length=cs.length:=by
  intro us
  induction us with
  |nil=>intro cs r e;cases e;rfl
  |cons p us ih=>
   intro cs r e
   obtain⟨i,u⟩:=p
   unfold qc6 at e
   simp only at e
   split at e
   ·split at e
    ·rename_i cs' hc
     obtain⟨g1,g2⟩:=qln hc
     rw[ih e,g2];simp;omega
    ·cases e
   ·cases e
 have hcl:cs.length=n*(s+1):=by rw[hlen e];simp[hzl]
 obtain⟨c1,c2⟩:=q0l (s+1) n cs (by omega)
 obtain⟨d1,d2⟩:=qr4 e2
 have hrow:RowOf S es (s+1) y.toList:=by
  refine⟨by rw[←hyr.1,hcl,d1,c1],fun c' hc'=> ?_,fun c' hc'=> ?_,fun i c' j a' hi hj=> ?_⟩
  ·obtain⟨i,hi,rfl⟩:=w7 hc'
   obtain⟨c,g1,g2⟩:=d2 i _ (wd hi)
   obtain⟨g3,g4⟩:=c2 i c g1
   rw[(qkh g2).1,g4,wz,wia,hcl]
   have:(i+1)*(s+1)≤n*(s+1):=wm _ g3
   rw[wg]at this
   omega
  ·obtain⟨i,hi,rfl⟩:=w7 hc'
   obtain⟨c,g1,g2⟩:=d2 i _ (wd hi)
   exact(qkh g2).2.1
  ·obtain⟨c,g1,g2⟩:=d2 i _ hi
   obtain⟨g3,g4⟩:=c2 i c g1
   obtain⟨b,g5,rfl⟩:=(qkh g2).2.2 j a' hj
   rw[g4,List.getElem?_take]at g5
   split at g5
   ·rw[List.getElem?_drop]at g5
    obtain⟨v,g6,g7⟩:=hyr.get g5
    exact⟨v,g6,qnj g7⟩
   ·cases g5
 have hst:=newImm k (C:=y) (T:=el) (X:=y.toList) (Y:=[]) (by simp)
 refine⟨.slice (some ⟨w.heap.size,0,none⟩) n n,w.alloc (.cells y el),_,?_,hst,?_⟩
 ·have hne:¬(n*(s+1)>2 ^ 24):=by omega
  simp only[Instr.buildSlice,Sem.run_bind,run_underlying hu,Result.andThen_ok,qfk hs]
  rw[if_neg hne]
  have hy':=hy
  simp only[init,zero]at hy'
  split
  ·rename_i h0
   rw[if_pos h0]at hy'
   simp only[Sem.run_bind,Sem.run_pure,Result.andThen_ok]
   rw[hy']
   simp[newRow]
  ·rename_i h0
   rw[if_neg h0]at hy'
   simp only[Sem.run_bind,Sem.run_pure,hvz,Result.andThen_ok]
   rw[hy']
   simp[newRow]
 ·refine VR.made (hrow.ext hst.ext) (fun j v hj=> ?_) (by rw[d1,c1]) (wq _) (by
   have:n≤n*(s+1):=Nat.le_mul_of_pos_right n (by omega)
   simp only[maxLen];omega) rfl
  simp only[Sh.withImm,and_self,if_true]
  exact hj
end Go.Ab
namespace Go.Ab
variable {P:Program} {S:Sh} {h:qab} {w:World}
def Sh.withTok (S:Sh) (b r cap len:Nat) (X:List Value):Sh:=
 { S with M:=fun a=>if a.block=r∧a.spot=none then X[a.off]? else S.M a,τ:=fun i=>if i=b then some (r,cap,len)else S.τ i }
theorem newTok [Tabs P] (k:WR P S h w) {C:Array Value} {e:TypeId} {i:TypeInfo} {X Y:List Value} {cap len:Nat} (hi:P.info? e=some i) (h0:0<i.size) (hC:C.toList=X++Y)
 (hsz:C.size=cap*i.size) (hX:X.length=len*i.size) (hlc:len≤cap) (hcm:cap≤maxLen)
 {b:Nat} {h':qab} (hb:(b=h.length∧h'=h++[.tok len e])∨(∃l0 r0 c0,h[b]? =some (.tok l0 e)∧S.τ b=some (r0,c0,l0)∧l0<len∧h'=h.set b (.tok len e))):
 Step P S w (S.withTok b w.heap.size cap len X) h' (w.alloc (.cells C e)):=by
 have hne:∀i r,S.ρ i=some r→i≠b:=fun i r hi e=>by
  subst e
  obtain⟨cs,h1⟩:=k.ρdom i r hi
  rcases hb with⟨rfl,_⟩|⟨l0,r0,c0,h2,_⟩
  ·simp at h1
  ·rw[h2]at h1;cases h1
 have hblt:b≤h.length:=by
  rcases hb with⟨rfl,_⟩|⟨l0,r0,c0,h2,_⟩
  ·exact wq _
  ·exact Nat.le_of_lt (wa.1 h2).1
 have hget:∀j,j≠b→∀x,h'[j]? =some x→h[j]? =some x:=by
  intro j hj x hx
  rcases hb with⟨rfl,rfl⟩|⟨l0,r0,c0,h2,_,_,rfl⟩
  ·have hl:=(wa.1 hx).1
   simp at hl
   rwa [wb (by omega)]at hx
  ·rwa [wc (fun e=>hj e.symm)]at hx
 have hget':∀j,j≠b→∀x,h[j]? =some x→h'[j]? =some x:=by
  intro j hj x hx
  rcases hb with⟨rfl,rfl⟩|⟨l0,r0,c0,h2,_,_,rfl⟩
  ·rw[wb (wa.1 hx).1];exact hx
  ·rw[wc (fun e=>hj e.symm)];exact hx
 have hself:h'[b]? =some (.tok len e):=by
  rcases hb with⟨rfl,rfl⟩|⟨l0,r0,c0,h2,_,_,rfl⟩
  ·simp
  ·exact wf (wa.1 h2).1
 have hx:Ex S w.heap.size (S.withTok b w.heap.size cap len X):=by
  refine⟨fun a v ha=> ?_,fun b r hb=>hb,fun t r c l ht=> ?_,fun b r hb=> .inl hb,fun t r c l ht=> ?_,fun a v ha=> ?_,rfl⟩
  ·simp only[Sh.withTok]
   have:=k.ltM ha
   rw[if_neg (by omega)];exact ha
  ·simp only[Sh.withTok]
   by_cases htb:t=b
   ·subst htb
    rw[if_pos rfl]
    refine⟨_,_,_,rfl,.inl ?_⟩
    rcases hb with⟨rfl,_⟩|⟨l0,r0,c0,h2,h3,h4,_⟩
    ·have:=(k.ltτ ht).1;omega
    ·rw[ht]at h3;cases h3;exact h4
   ·rw[if_neg htb];exact⟨r,c,l,ht,.inr ⟨rfl,rfl,rfl⟩⟩
  ·simp only[Sh.withTok]at ht
   split at ht
   ·cases ht;exact .inr (wq _)
   ·exact .inl ⟨c,l,ht⟩
  ·simp only[Sh.withTok]at ha
   split at ha
   ·rename_i hc;exact .inr (.inl (by omega))
   ·exact .inl ha
 have hold:∀r,r<w.heap.size→∀o,(S.withTok b w.heap.size cap len X).M ⟨r,o,none⟩=S.M ⟨r,o,none⟩:=fun r hr o=>by
  simp only[Sh.withTok];rw[if_neg (by simp;omega)]
 refine⟨hx,⟨rfl,rfl,rfl,by simp,fun i hi _ _=>qd1 hi⟩,?_⟩
 constructor
 ·intro a v ha
  simp only[Sh.withTok]at ha
  split at ha
  ·rename_i hc
   refine⟨?_,hc.2⟩
   have:C[a.off]? =some v:=by
    rw[←wj,hC,wb (wa.1 ha).1];exact ha
   simp only[World.cell?,hc.1,qn8,hc.2,wt,wu,if_false,this]
  ·exact⟨qnl (qd1 (k.ltM ha)) (k.imm a v ha).1,(k.imm a v ha).2⟩
 ·intro j cs' hj
  have hjb:j≠b:=by intro e;subst e;rw[hself]at hj;cases hj
  obtain⟨r,C',T',h1,h2,h3,h4⟩:=k.box j cs' (hget j hjb _ hj)
  exact⟨r,C',T',h1,(qd1 (k.lt h1).2).trans h2,h3.ext hx,fun o=>by rw[hold r (k.lt h1).2];exact h4 o⟩
 ·intro j len' e' hj
  by_cases hjb:j=b
  ·subst hjb
   rw[hself]at hj;cases hj
   refine⟨w.heap.size,cap,C,i,by simp[Sh.withTok],qn8,hi,h0,hsz,hlc,hcm,fun o ho=> ?_⟩
   simp only[Sh.withTok,and_self,if_true]
   exact wca (by omega)
  ·obtain⟨r,cap',C',i',h1,h2,h3,h4,h5,h6,h7,h8⟩:=k.tok j len' e' (hget j hjb _ hj)
   refine⟨r,cap',C',i',?_,(qd1 (k.ltτ h1).2).trans h2,h3,h4,h5,h6,h7,fun o ho=>by rw[hold r (k.ltτ h1).2];exact h8 o ho⟩
   simp only[Sh.withTok];rw[if_neg hjb];exact h1
 ·intro j r hj
  obtain⟨cs,h1⟩:=k.ρdom j r hj
  exact⟨cs,hget' j (hne j r hj) _ h1⟩
 ·intro j x hj
  simp only[Sh.withTok]at hj
  split at hj
  ·rename_i hjb;subst hjb;cases hj;exact⟨e,hself⟩
  ·rename_i hjb
   obtain⟨e',h1⟩:=k.τdom j x hj
   exact⟨e',hget' j hjb _ h1⟩
 ·exact k.injρ
 ·intro j j' r c c' l l' hj hj'
  simp only[Sh.withTok]at hj hj'
  split at hj
  ·cases hj
   split at hj'
   ·omega
   ·have:=(k.ltτ hj').2;omega
  ·split at hj'
   ·cases hj';have:=(k.ltτ hj).2;omega
   ·exact k.injτ j j' r c c' l l' hj hj'
 ·intro j j' r c l hj hj'
  simp only[Sh.withTok]at hj'
  split at hj'
  ·cases hj';have:=(k.lt hj).2;omega
  ·exact k.apart j j' r c l hj hj'
 ·exact qjt k hx ⟨rfl,rfl,rfl,by simp,fun i hi _ _=>qd1 hi⟩
 ·exact qmd k hx
def Sh.moreTok (S:Sh) (b r cap o1 len:Nat) (Y:List Value):Sh:=
 { S with M:=fun a=>if a.block=r∧a.spot=none∧o1≤a.off∧a.off<o1+Y.length then Y[a.off-o1]? else S.M a,τ:=fun i=>if i=b then some (r,cap,len)else S.τ i }
theorem moreTok [Tabs P] (k:WR P S h w) {C:Array Value} {e:TypeId} {i:TypeInfo} {Y:List Value} {b r cap len m:Nat} (hb:h[b]? =some (.tok len e)) (hτ:S.τ b=some (r,cap,len))
 (hw:w.heap[r]? =some (.cells C e (0,0))) (hi:P.info? e=some i) (hsz:C.size=cap*i.size) (hY:Y.length=m*i.size) (hm:0<m) (hlc:len+m≤cap):
 Step P S w (S.moreTok b r cap (len*i.size) (len+m) Y) (h.set b (.tok (len+m) e))
  (w.setRow r (C.toList.take (len*i.size)++Y++C.toList.drop (len*i.size+Y.length)).toArray):=by
 have hblt:=(wa.1 hb).1
 obtain⟨r0,cap0,C0,i0,t1,t2,t3,t4,t5,t6,t7,t8⟩:=k.tok b len e hb
 rw[hτ]at t1;cases t1
 rw[hi]at t3;cases t3
 have hfit:len*i.size+Y.length≤C.size:=by rw[hsz,hY,←wg];exact wm _ hlc
 have hclen:(C.toList.take (len*i.size)++Y++C.toList.drop (len*i.size+Y.length)).length=C.size:=by simp;omega
 have hnew:=setRow_heap w r C (C.toList.take (len*i.size)++Y++C.toList.drop (len*i.size+Y.length)).toArray e (0,0) hw
 have hoth:∀j,j≠r→(w.setRow r (C.toList.take (len*i.size)++Y++C.toList.drop (len*i.size+Y.length)).toArray).heap[j]? =w.heap[j]? :=fun j hj=>setRow_other w r j _ hj
 generalize hCn:(C.toList.take (len*i.size)++Y++C.toList.drop (len*i.size+Y.length))=Cn at*
 generalize hwn:w.setRow r Cn.toArray=wn at*
 have hfr:wn.os=w.os∧wn.tape=w.tape∧wn.output=w.output∧wn.heap.size=w.heap.size:=by subst hwn;exact⟨rfl,rfl,rfl,by simp[World.setRow]⟩
 have hfree:∀o v,S.M ⟨r,o,none⟩=some v→o<len*i.size:=fun o v hv=>by
  by_cases ho:len*i.size≤o
  ·rw[t8 o ho]at hv;cases hv
  ·omega
 have hx:Ex S w.heap.size (S.moreTok b r cap (len*i.size) (len+m) Y):=by
  refine⟨fun a v ha=> ?_,fun b r hb=>hb,fun t r' c l ht=> ?_,fun b r hb=> .inl hb,fun t r' c l ht=> ?_,fun a v ha=> ?_,rfl⟩
  ·simp only[Sh.moreTok]
   rw[if_neg]
   ·exact ha
   ·rintro⟨h1,h2,h3,_⟩
    have:a=⟨r,a.off,none⟩:=by cases a;simp_all
    rw[this]at ha
    have:=hfree _ _ ha
    omega
  ·simp only[Sh.moreTok]
   by_cases htb:t=b
   ·subst htb;rw[hτ]at ht;cases ht
    exact⟨r,cap,len+m,by simp,.inl (by omega)⟩
   ·exact⟨r',c,l,by rw[if_neg htb];exact ht,.inr ⟨rfl,rfl,rfl⟩⟩
  ·simp only[Sh.moreTok]at ht
   split at ht
   ·rename_i htb;subst htb;cases ht;exact .inl ⟨cap,len,hτ⟩
   ·exact .inl ⟨c,l,ht⟩
  ·simp only[Sh.moreTok]at ha
   split at ha
   ·rename_i hc;exact .inr (.inr ⟨b,cap,len,by rw[hc.1];exact hτ⟩)
   ·exact .inl ha
 have hρne:∀j r',S.ρ j=some r'→r'≠r:=fun j r' hj e=>by subst e;exact k.apart j b r' cap len hj hτ
 have hτne:∀j r' c l,S.τ j=some (r',c,l)→j≠b→r'≠r:=fun j r' c l hj hjb e=>by subst e;exact hjb (k.injτ j b r' c cap l len hj hτ)
 have hold:∀r',r'≠r→∀o,(S.moreTok b r cap (len*i.size) (len+m) Y).M ⟨r',o,none⟩=S.M ⟨r',o,none⟩:=fun r' hr o=>by
  simp only[Sh.moreTok];rw[if_neg (by simp[hr])]
 refine⟨hx,⟨hfr.1,hfr.2.1,hfr.2.2.1,by omega,fun j hj _ h2=>hoth j (fun e=>h2 b cap len (e▸hτ))⟩,?_⟩
 constructor
 ·intro a v ha
  simp only[Sh.moreTok]at ha
  split at ha
  ·rename_i hc
   refine⟨?_,hc.2.1⟩
   have:Cn[a.off]? =some v:=by
    rw[←hCn,wga,we (by rw[wz,wh];omega)]
    have e1:(C.toList.take (len*i.size)).length=len*i.size:=by rw[wz,wh];omega
    rw[e1,wb (wa.1 ha).1]
    exact ha
   simp only[World.cell?,hc.1,hnew,hc.2.1,wt,wu,if_false,wda,this]
  ·have:=k.imm a v ha
   refine⟨?_,this.2⟩
   by_cases hr:a.block=r
   ·have ha':a=⟨r,a.off,none⟩:=by have:=this.2;cases a;simp_all
    have hlt:=hfree a.off v (by rw[←ha'];exact ha)
    have hc:=this.1
    simp only[World.cell?,hr,hw,hnew,this.2,wt,wu,if_false,wda]at hc ⊢
    rw[←hCn,wga,wb (by rw[wz,wh];omega),List.getElem?_take_of_lt hlt,wj]
    exact hc
   ·exact qnl (hoth _ hr) this.1
 ·intro j cs' hj
  have hjb:j≠b:=by intro e;subst e;rw[wf hblt]at hj;cases hj
  rw[wc (fun e=>hjb e.symm)]at hj
  obtain⟨r',C',T',h1,h2,h3,h4⟩:=k.box j cs' hj
  exact⟨r',C',T',h1,(hoth r' (hρne j r' h1)).trans h2,h3.ext hx,fun o=>by rw[hold r' (hρne j r' h1)];exact h4 o⟩
 ·intro j len' e' hj
  by_cases hjb:j=b
  ·subst hjb
   rw[wf hblt]at hj;cases hj
   refine⟨r,cap,Cn.toArray,i,by simp[Sh.moreTok],hnew,hi,t4,by simp[hclen,hsz],hlc,t7,fun o ho=> ?_⟩
   simp only[Sh.moreTok]
   rw[if_neg]
   ·exact t8 o (by rw[wg]at ho;omega)
   ·rw[wg]at ho;simp;omega
  ·rw[wc (fun e=>hjb e.symm)]at hj
   obtain⟨r',cap',C',i',h1,h2,h3,h4,h5,h6,h7,h8⟩:=k.tok j len' e' hj
   have hr':=hτne j r' cap' len' h1 hjb
   refine⟨r',cap',C',i',?_,(hoth r' hr').trans h2,h3,h4,h5,h6,h7,fun o ho=>by rw[hold r' hr'];exact h8 o ho⟩
   simp only[Sh.moreTok];rw[if_neg hjb];exact h1
 ·intro j r' hj
  obtain⟨cs,h1⟩:=k.ρdom j r' hj
  refine⟨cs,?_⟩
  rw[wc]
  ·exact h1
  ·intro e;subst e;rw[hb]at h1;cases h1
 ·intro j x hj
  simp only[Sh.moreTok]at hj
  split at hj
  ·rename_i hjb;subst hjb;cases hj;exact⟨e,wf hblt⟩
  ·rename_i hjb
   obtain⟨e',h1⟩:=k.τdom j x hj
   exact⟨e',by rw[wc (fun e=>hjb e.symm)];exact h1⟩
 ·exact k.injρ
 ·intro j j' r' c c' l l' hj hj'
  simp only[Sh.moreTok]at hj hj'
  split at hj
  ·rename_i hjb
   cases hj
   split at hj'
   ·omega
   ·rename_i hjb';exact absurd rfl (hτne j' _ _ _ hj' hjb')
  ·rename_i hjb
   split at hj'
   ·cases hj';exact absurd rfl (hτne j _ _ _ hj hjb)
   ·exact k.injτ j j' r' c c' l l' hj hj'
 ·intro j j' r' c l hj hj'
  simp only[Sh.moreTok]at hj'
  split at hj'
  ·cases hj';exact absurd rfl (hρne j _ hj)
  ·exact k.apart j j' r' c l hj hj'
 ·exact qjt k hx ⟨hfr.1,hfr.2.1,hfr.2.2.1,by omega,fun j hj _ h2=>hoth j (fun e=>h2 b cap len (e▸hτ))⟩
 ·exact qmd k hx
end Go.Ab
namespace Go.Ab
variable {P:Program} {S:Sh} {h:qab} {w:World}
theorem qwo {t ty e:TypeId} {i:TypeInfo} (ht:P.underlying t=some (.slice e)) (hi:P.info? e=some i) (base:Option Addr) (n cap:Nat) (hn:n≤cap) (b:Option Addr) (c:Nat):
 (Builtin.append_ #[t,t] ty #[.slice base n cap,.slice b 0 c]).run P w= .ok (.slice base n cap) w:=by
 cases base<;>cases b<;>simp[Builtin.append_,run_underlying ht,sizeOf,typeInfo,hi,Builtin.lenOf,hn,Builtin.firstCells,loadCells,loadCellsFrom,storeCells]
theorem qz2 [Tabs P] (k:WR P S h w) {t ty:TypeId} {s x:AVal} {vs vx:Value} {r:AVal} {f:Eff} (hs:VR S s vs) (hx:VR S x vx)
 (e:qb1 P h t s x=some (r,f)):
 ∃v w' S',(Builtin.append_ #[t,t] ty #[vs,vx]).run P w= .ok v w'∧Step P S w S' (f.of h) w'∧VR S' r v:=by
 unfold qb1 at e
 split at e
 ·rename_i el es tk fs tk' hel
  have hu:P.underlying t=some (.slice el):=by
   unfold qg8 at hel
   split at hel
   ·rename_i e' he;cases hel;exact he
   ·cases hel
  split at e
  ·rename_i sz by_ z hsz hby hz
   obtain⟨i,hi,hisz⟩:=qqe hsz
   obtain⟨i2,zv,hi2,hzv,hzo⟩:=qwg hz
   rw[hi]at hi2;cases hi2
   have hib:i.bytes=by_:=by simpa[qa2,hi]using hby
   split at e
   ·rename_i hc
    simp only[ww,decide_eq_true_eq,beq_iff_eq]at hc
    obtain⟨⟨⟨⟨⟨hlen,hb0⟩,hb1⟩,hzl⟩,hhe⟩,hhf⟩:=hc
    have hzs:zv.cells.size=i.size:=by
     have:=(qr3 (S:=S) hzo).cells.1
     have h2:zv.cells.toList.length=zv.cells.size:=wh
     omega
    have hpos:0<i.size:=by omega
    have hlenm:es.length+fs.length≤1099511627776:=hlen
    have hbytes:(es.length+fs.length)*i.bytes≤140737488355328:=by
     rw[hib]
     calc (es.length+fs.length)*by_≤1099511627776*128:=Nat.mul_le_mul hlenm hb1
      _=140737488355328:=by decide
    split at e
    ·-- nothing appended
     cases e
     have hv0:∃b c,vx= .slice b 0 c:=by
      cases hx with
      |slice _ _ ad n cap _ _ hn=>exact⟨some ad,cap,by simp at hn;rw[hn]⟩
      |snil=>exact⟨none,0,rfl⟩
     obtain⟨b,c,rfl⟩:=hv0
     have hv1:∃b n c,vs= .slice b n c∧n≤c:=by
      cases hs with
      |slice _ _ ad n cap _ _ hn hcap=>exact⟨some ad,n,cap,rfl,hcap⟩
      |snil=>exact⟨none,0,0,rfl,wq _⟩
     obtain⟨b1,n1,c1,rfl,hn1⟩:=hv1
     exact⟨_,w,S,qwo hu hi b1 n1 c1 hn1 b c,.refl k,hs⟩
    ·rename_i hfs
     have hfl:0<fs.length:=by
      cases fs with
      |nil=>exact absurd rfl hfs
      |cons=>simp
     obtain⟨adx,cx,Y,rfl,hY,hYc⟩:∃adx cx Y,vx= .slice (some adx) fs.length cx∧RowOf S fs i.size Y∧∀(j:Nat) (v:Value),Y[j]? =some v→w.cell? (adx.add j)=some v:=by
      cases hx with
      |slice _ _ ad n cap esz vs' hn hcap hcm hsp hs' g1 hp g2 ht=>
       obtain⟨Y,h1,h2,_⟩:=VR.row k (.slice fs tk' ad n cap esz vs' hn hcap hcm hsp hs' g1 hp g2 ht) (hisz▸hhf) hpos
       exact⟨ad,cap,Y,by rw[hn],h1,h2⟩
      |snil=>simp at hfl
     have hYl:Y.length=fs.length*i.size:=hY.1
     have hY1:=hY.one hpos
     have grow:∀(X:List Value) (old:Nat),RowOf S es i.size X→old<es.length+fs.length→∀(b:Nat) (h'':qab),
      ((b=h.length∧h''=h++[.tok (es.length+fs.length) el])∨(∃l0 r0 c0,h[b]? =some (.tok l0 el)∧S.τ b=some (r0,c0,l0)∧l0<es.length+fs.length∧h''=h.set b (.tok (es.length+fs.length) el)))→
      ∃S',Step P S w S' h'' (w.drew.alloc (.cells (X.toArray++Y.toArray++Builtin.zeroCells zv.cells (grownCap w (es.length+fs.length) old el-(es.length+fs.length))) el))∧
       VR S' (.slice (es++fs) (.own b)) (.slice (some ⟨w.heap.size,0,none⟩) (es.length+fs.length) (grownCap w (es.length+fs.length) old el)):=by
      intro X old hX hold b h'' hb
      have hge:=grownCap_ge w (es.length+fs.length) old el
      have hcm:grownCap w (es.length+fs.length) old el≤maxLen:=grownCap_le_maxLen w _ old el (by simp only[maxLen];omega)
      have hrow:=hX.append hY
      have hst:=newTok k.drew (C:=X.toArray++Y.toArray++Builtin.zeroCells zv.cells (grownCap w (es.length+fs.length) old el-(es.length+fs.length))) (e:=el) (i:=i)
       (X:=X++Y) (Y:=(Builtin.zeroCells zv.cells (grownCap w (es.length+fs.length) old el-(es.length+fs.length))).toList) (cap:=grownCap w (es.length+fs.length) old el) (len:=es.length+fs.length)
       hi hpos (by simp) (by
        simp only[Array.size_append,List.size_toArray,size_zeroCells,hzs,hX.1,hY.1,←wg]
        congr 1;omega) (by simp[hX.1,hY.1,wg]) hge hcm hb
      refine⟨_,(Step.drew k).trans hst,?_⟩
      refine VR.made (hrow.ext hst.ext) (fun j v hj=> ?_) (by simp) hge hcm ⟨_,_,_,by simp[Sh.withTok],wq _,by omega,fun _=>⟨rfl,rfl⟩⟩
      simp only[Sh.withTok,World.size_drew,and_self,if_true]
      exact hj
     split at e
     ·-- full
      cases e
      cases hs with
      |slice _ _ ad n cap esz vs' hn hcap hcm hsp hs' g1 hp g2 ht=>
       subst hn
       have hcl:cap=es.length:=ht
       subst hcl
       obtain⟨X,hX,hXc,_⟩:=VR.row k (.slice es .full ad es.length es.length esz vs' rfl hcap hcm hsp hs' g1 hp g2 ht) (hisz▸hhe) hpos
       obtain⟨S',hst,hvr⟩:=grow X es.length hX (by omega) h.length _ (.inl ⟨rfl,rfl⟩)
       refine⟨_,_,S',run_append_grow (P:=P) w t ty el i zv hu hi hzv ad es.length es.length X hX.1 hXc adx fs.length cx Y hYl hYc (by omega) (by omega) (growslice_fits (by omega) hbytes),hst,hvr⟩
      |snil _ _=>
       obtain⟨S',hst,hvr⟩:=grow [] 0 (.nil S _) (by simpa using hfl) h.length _ (.inl ⟨rfl,rfl⟩)
       simp only[List.length_nil,wma,List.nil_append]at hst hvr hbytes hlenm ⊢
       refine⟨_,_,S',run_append_nil (P:=P) w t ty el i zv hu hi hzv adx fs.length cx Y hYl hYc hfl (by omega) (by omega),?_,hvr⟩
       simpa[Eff.of]using hst
     ·-- owned
      rename_i b
      split at e
      ·rename_i n e' hb
       split at e
       ·rename_i hc2
        simp only[ww,decide_eq_true_eq]at hc2
        obtain⟨⟨rfl,rfl⟩,_⟩:=hc2
        cases e
        obtain⟨r0,cap0,C0,i0,t1,t2,t3,t4,t5,t6,t7,t8⟩:=k.tok b es.length e' hb
        rw[hi]at t3;cases t3
        cases hs with
        |snil _ htk=>rcases htk with h|h<;>cases h
        |slice _ _ ad n cap esz vs' hn hcap hcm hsp hs' g1 hp g2 ht=>
         obtain⟨r1,c1,l1,u1,u2,u0,u3⟩:=ht
         rw[t1]at u1;cases u1
         subst hn
         obtain⟨rfl,rfl⟩:=u3 rfl
         obtain⟨X,hX,hXc,hXM⟩:=VR.row k (.slice es (.own b) ⟨r0,0,none⟩ es.length cap esz vs' rfl hcap hcm hsp hs' g1 hp g2 ⟨r0,cap,es.length,t1,u2,u0,fun _=>⟨rfl,rfl⟩⟩) (hisz▸hhe) hpos
         have hes:es≠[]:=by intro e;subst e;simp at u0
         by_cases hroom:es.length+fs.length≤cap
         ·have hfit:es.length*i.size+Y.length≤C0.size:=by rw[t5,hYl,←wg];exact wm _ hroom
          have hst:=moreTok k (Y:=Y) (m:=fs.length) hb t1 t2 hi t5 hYl hfl hroom
          refine⟨_,_,_,run_append_room (P:=P) w t ty e' i hu hi r0 es.length cap C0 t2 adx fs.length cx Y hYl hYc hY1 hroom hfit,hst,?_⟩
          refine VR.made ((hX.append hY).ext hst.ext) (fun j v hj=> ?_) (by simp) hroom hcm ⟨_,_,_,by simp[Sh.moreTok],wq _,by omega,fun _=>⟨rfl,rfl⟩⟩
          by_cases hjx:j<X.length
          ·rw[wb hjx]at hj
           have:=hst.ext.M _ _ (hXM hes j v hj)
           simpa using this
          ·rw[we (by omega)]at hj
           have hjl:=(wa.1 hj).1
           simp only[Sh.moreTok]
           rw[hX.1]at hjx hj hjl
           simp only[true_and]
           rw[if_pos ⟨by omega,by omega⟩]
           exact hj
         ·obtain⟨S',hst,hvr⟩:=grow X cap hX (by omega) b _ (.inr ⟨es.length,r0,cap,hb,t1,by omega,rfl⟩)
          exact⟨_,_,S',run_append_grow (P:=P) w t ty e' i zv hu hi hzv ⟨r0,0,none⟩ es.length cap X hX.1 hXc adx fs.length cx Y hYl hYc (by omega) (by omega) (growslice_fits (by omega) hbytes),hst,hvr⟩
       ·cases e
      ·cases e
     ·cases e
   ·cases e
  ·cases e
 ·cases e
end Go.Ab
namespace Go.Ab
variable {P:Program}
theorem qg6 (σ:Nat→Nat):∀(l:List AVal) (j:Nat),(renL σ l)[j]? =(l[j]?).map (ren σ)
 |[],j=>by simp[renL]
 |v::r,j=>by
  cases j with
  |zero=>simp[renL]
  |succ j=>simpa[renL]using qg6 σ r j
theorem qd4 (σ:Nat→Nat):∀l:List AVal,(renL σ l).length=l.length
 |[]=>rfl
 |v::r=>by simp[renL,qd4 σ r]
theorem qn9 {l:List AVal} {b:Nat}:b∈qad l↔∃a∈l,b∈refs a:=by
 induction l with
 |nil=>simp[qad]
 |cons v r ih=>simp[qad,ih]
theorem qme {l:List AVal} {j:Nat} {a:AVal} (h:l[j]? =some a) {b:Nat} (hb:b∈refs a):b∈qad l:=qn9.2 ⟨a,wi h,hb⟩
mutual
theorem qfc {σ:Nat→Nat}:∀(a:AVal),(∀b∈refs a,σ b=b)→ren σ a=a
 | .ptr b o,h=>by simp only[ren,h b (by simp[refs])]
 | .slice es .free,h=>rfl
 | .slice es .full,h=>rfl
 | .slice es (.own t),h=>by simp only[ren,h t (by simp[refs])]
 | .func f a b,h=>by
  simp only[ren]
  rw[qco a (fun x hx=>h x (by simp[refs,hx])),qco b (fun x hx=>h x (by simp[refs,hx]))]
 | .iface t v,h=>by simp only[ren];rw[qfc v (fun x hx=>h x (by simpa[refs]using hx))]
 | .agg cs,h=>by simp only[ren];rw[qco cs (fun x hx=>h x (by simpa[refs]using hx))]
 | .tuple cs,h=>by simp only[ren];rw[qco cs (fun x hx=>h x (by simpa[refs]using hx))]
 | .undef,_=>rfl
 | .bool _,_=>rfl
 | .int _ _,_=>rfl
 | .str _,_=>rfl
 | .nilp,_=>rfl
 | .eptr _ _,_=>rfl
 | .nilf,_=>rfl
 | .nili,_=>rfl
theorem qco {σ:Nat→Nat}:∀(l:List AVal),(∀b∈qad l,σ b=b)→renL σ l=l
 |[],_=>rfl
 |v::r,h=>by
  simp only[renL]
  rw[qfc v (fun x hx=>h x (by simp[qad,hx])),qco r (fun x hx=>h x (by simp[qad,hx]))]
end
mutual
theorem qr5 {σ τ:Nat→Nat}:∀(a:AVal),(∀b∈refs a,σ b=τ b)→ren σ a=ren τ a
 | .ptr b o,h=>by simp only[ren,h b (by simp[refs])]
 | .slice es .free,h=>rfl
 | .slice es .full,h=>rfl
 | .slice es (.own t),h=>by simp only[ren,h t (by simp[refs])]
 | .func f a b,h=>by
  simp only[ren]
  rw[qgl a (fun x hx=>h x (by simp[refs,hx])),qgl b (fun x hx=>h x (by simp[refs,hx]))]
 | .iface t v,h=>by simp only[ren];rw[qr5 v (fun x hx=>h x (by simpa[refs]using hx))]
 | .agg cs,h=>by simp only[ren];rw[qgl cs (fun x hx=>h x (by simpa[refs]using hx))]
 | .tuple cs,h=>by simp only[ren];rw[qgl cs (fun x hx=>h x (by simpa[refs]using hx))]
 | .undef,_=>rfl
 | .bool _,_=>rfl
 | .int _ _,_=>rfl
 | .str _,_=>rfl
 | .nilp,_=>rfl
 | .eptr _ _,_=>rfl
 | .nilf,_=>rfl
 | .nili,_=>rfl
theorem qgl {σ τ:Nat→Nat}:∀(l:List AVal),(∀b∈qad l,σ b=τ b)→renL σ l=renL τ l
 |[],_=>rfl
 |v::r,h=>by
  simp only[renL]
  rw[qr5 v (fun x hx=>h x (by simp[qad,hx])),qgl r (fun x hx=>h x (by simp[qad,hx]))]
end
mutual
theorem ren_ren {σ τ:Nat→Nat}:∀(a:AVal),ren τ (ren σ a)=ren (fun x=>τ (σ x)) a
 | .ptr b o=>rfl
 | .slice es .free=>rfl
 | .slice es .full=>rfl
 | .slice es (.own t)=>rfl
 | .func f a b=>by simp only[ren];rw[qgm a,qgm b]
 | .iface t v=>by simp only[ren];rw[ren_ren v]
 | .agg cs=>by simp only[ren];rw[qgm cs]
 | .tuple cs=>by simp only[ren];rw[qgm cs]
 | .undef=>rfl
 | .bool _=>rfl
 | .int _ _=>rfl
 | .str _=>rfl
 | .nilp=>rfl
 | .eptr _ _=>rfl
 | .nilf=>rfl
 | .nili=>rfl
theorem qgm {σ τ:Nat→Nat}:∀(l:List AVal),renL τ (renL σ l)=renL (fun x=>τ (σ x)) l
 |[]=>rfl
 |v::r=>by simp only[renL];rw[ren_ren v,qgm r]
end
theorem VR.ren {S S':Sh} (σ:Nat→Nat) (hM:∀a v,S.M a=some v→S'.M a=some v) {a:AVal} {v:Value} (k:VR S a v):
 (∀b∈refs a,(∀r,S.ρ b=some r→S'.ρ (σ b)=some r)∧∀x,S.τ b=some x→S'.τ (σ b)=some x)→VR S' (Go.Ab.ren σ a) v:=by
 have pure0:∀a:AVal,qcu a=true→refs a=[]:=fun a h=>by
  unfold qcu at h;simp only[ww]at h;simpa using h.2
 have pure1:∀a:AVal,qcu a=true→Go.Ab.ren σ a=a:=fun a h=>qfc a (by rw[pure0 a h];simp)
 induction k with
 |undef=>intro _;exact .undef
 |bool b=>intro _;exact .bool b
 |int k n=>intro _;exact .int k n
 |str s l e=>intro _;exact .str s l e
 |nilp=>intro _;exact .nilp
 |ptr b o r e=>intro h;exact .ptr _ o r ((h b (by simp[refs])).1 r e)
 |eptr cs o r o0 vs h1 hp _ ih=>
  intro _
  refine .eptr cs o r o0 vs (fun j a hj=>hM _ _ (h1 j a hj)) hp (fun j a hj=> ?_)
  have hpa:=hp a (wi hj)
  have:=ih j a hj (by rw[pure0 a hpa];simp)
  rwa [pure1 a hpa]at this
 |slice es tk ad m cap esz vs hn hc hcm hsp hsz h1 hp _ ht ih=>
  intro h
  have h2:∀(i:Nat) (c:List AVal) (j:Nat) (a:AVal),es[i]? =some c→c[j]? =some a→VR S' a (vs (i*esz+j)):=by
   intro i c j a hi hj
   have hpa:=hp c (wi hi) a (wi hj)
   have:=ih i c j a hi hj (by rw[pure0 a hpa];simp)
   rwa [pure1 a hpa]at this
  cases tk with
  |free=>exact .slice es _ ad m cap esz vs hn hc hcm hsp hsz (fun i c j a hi hj=>hM _ _ (h1 i c j a hi hj)) hp h2 trivial
  |full=>exact .slice es _ ad m cap esz vs hn hc hcm hsp hsz (fun i c j a hi hj=>hM _ _ (h1 i c j a hi hj)) hp h2 ht
  |own t=>
   obtain⟨r,c,l,t1,t2⟩:=ht
   exact .slice es _ ad m cap esz vs hn hc hcm hsp hsz (fun i c j a hi hj=>hM _ _ (h1 i c j a hi hj)) hp h2 ⟨r,c,l,(h t (by simp[refs])).2 _ t1,t2⟩
 |snil tk e=>intro h;rcases e with rfl|rfl<;>exact .snil _ (by simp)
 |func f x y p q hx hy _ _ i1 i2=>
  intro h
  simp only[Go.Ab.ren]
  refine .func f _ _ p q (by rw[qd4];exact hx) (by rw[qd4];exact hy) (fun j u v hu hv=> ?_) (fun j u v hu hv=> ?_)
  ·rw[qg6]at hu
   cases ha:x[j]? with
   |none=>simp[ha]at hu
   |some a=>simp[ha]at hu;subst hu;exact i1 j a v ha hv (fun b hb=>h b (by simp only[refs,w6];exact .inl (qme ha hb)))
  ·rw[qg6]at hu
   cases ha:y[j]? with
   |none=>simp[ha]at hu
   |some a=>simp[ha]at hu;subst hu;exact i2 j a v ha hv (fun b hb=>h b (by simp only[refs,w6];exact .inr (qme ha hb)))
 |nilf=>intro _;exact .nilf
 |iface t a v _ ih=>intro h;exact .iface t _ v (ih (fun b hb=>h b (by simpa[refs]using hb)))
 |nili=>intro _;exact .nili
 |agg x p hx _ ih=>
  intro h
  simp only[Go.Ab.ren]
  refine .agg _ p (by rw[qd4];exact hx) (fun j u v hu hv=> ?_)
  rw[qg6]at hu
  cases ha:x[j]? with
  |none=>simp[ha]at hu
  |some a=>simp[ha]at hu;subst hu;exact ih j a v ha hv (fun b hb=>h b (by simp only[refs];exact qme ha hb))
 |tuple x p hx _ ih=>
  intro h
  simp only[Go.Ab.ren]
  refine .tuple _ p (by rw[qd4];exact hx) (fun j u v hu hv=> ?_)
  rw[qg6]at hu
  cases ha:x[j]? with
  |none=>simp[ha]at hu
  |some a=>simp[ha]at hu;subst hu;exact ih j a v ha hv (fun b hb=>h b (by simp only[refs];exact qme ha hb))
theorem VRl.ren {S S':Sh} (σ:Nat→Nat) (hM:∀a v,S.M a=some v→S'.M a=some v) {l:List AVal} {x:List Value} (k:VRl S l x)
 (h:∀b∈qad l,(∀r,S.ρ b=some r→S'.ρ (σ b)=some r)∧∀x,S.τ b=some x→S'.τ (σ b)=some x):VRl S' (renL σ l) x:=by
 refine⟨by rw[qd4];exact k.1,fun j u v hu hv=> ?_⟩
 rw[qg6]at hu
 cases ha:l[j]? with
 |none=>simp[ha]at hu
 |some a=>simp[ha]at hu;subst hu;exact(k.2 j a v ha hv).ren σ hM (fun b hb=>h b (qme ha hb))
theorem qlp (h:qab):∀(n:Nat) (todo done:List Nat),done.Nodup→(qbv h n todo done).Nodup
 |0,_,done,hd=>hd
 |n+1,[],done,hd=>hd
 |n+1,b::r,done,hd=>by
  unfold qbv
  split
  ·exact qlp h n r done hd
  ·rename_i hc
   have hnd:(done++[b]).Nodup:=by
    rw[List.nodup_append]
    refine⟨hd,by simp,fun a ha c hc'=> ?_⟩
    simp at hc';subst hc'
    intro e;subst e
    rw[List.contains_eq_mem]at hc
    simp[ha]at hc
   split<;>exact qlp h n _ _ hnd
theorem qeq {idx:List Nat} {b:Nat} (h:b∈idx):idx[idx.idxOf b]? =some b:=by
 rw[wd (w8 h)]
 simp
theorem qgn {idx:List Nat} (hn:idx.Nodup) {i b:Nat} (h:idx[i]? =some b):idx.idxOf b=i:=by
 have hi:=(wa.1 h).1
 have:=qeq (wi h)
 have h2:=(List.getElem?_inj hi hn).1 (h.trans this.symm)
 exact h2.symm
theorem qk9 (idx:List Nat) (n:Nat) (h':qab):∀(d:List Nat) (h:qab),(qj2 idx n h' d h).length=h.length
 |[],h=>rfl
 |i::r,h=>by
  unfold qj2
  rw[qk9 idx n h' r]
  split<;>simp
theorem qhz (idx:List Nat) (n:Nat) (h':qab) {b:Nat}:∀(d:List Nat) (h:qab),(∀i∈d,idx[i]? ≠some b)→(qj2 idx n h' d h)[b]? =h[b]?
 |[],h,_=>rfl
 |i::r,h,hd=>by
  unfold qj2
  rw[qhz idx n h' r _ (fun j hj=>hd j (by simp[hj]))]
  split
  ·rename_i c x hc _
   rw[wc]
   intro e;subst e
   exact hd i (by simp) hc
  ·rfl
theorem qr6 (idx:List Nat) (hn:idx.Nodup) (n:Nat) (h':qab) {b i:Nat} {x:Blk} (hb:idx[i]? =some b) (hx:h'[i]? =some x):∀(d:List Nat) (h:qab),i∈d→b<h.length→
 (qj2 idx n h' d h)[b]? =some (renB (qe9 n idx) x)
 |[],h,hi,_=>by cases hi
 |j::r,h,hi,hl=>by
  unfold qj2
  by_cases hir:i∈r
  ·exact qr6 idx hn n h' hb hx r _ hir (by split<;>simpa using hl)
  ·have hij:i=j:=by
    rcases List.mem_cons.1 hi with h|h
    ·exact h
    ·exact absurd h hir
   subst hij
   rw[qhz]
   ·simp only[hb,hx]
    exact wf hl
   ·intro k hk e
    have e2:k=i:=(qgn hn e).symm.trans (qgn hn hb)
    exact hir (by rw[←e2];exact hk)
theorem renB_back {idx:List Nat} {x:Blk} (hx:∀c∈qdq x,c∈idx) (n:Nat):renB (qe9 n idx) (renB (fun y=>idx.idxOf y) x)=x:=by
 have key:∀b∈idx,qe9 n idx (idx.idxOf b)=b:=fun b hb=>by
  have h1:=qeq hb
  have h2:=w8 hb
  simp only[qe9,h2,if_true,wo,h1,waa]
 cases x with
 |box cs=>
  simp only[renB]
  rw[qgm,qco cs (fun b hb=>key b (hx b hb))]
 |tok l e=>rfl
end Go.Ab
