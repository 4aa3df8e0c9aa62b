/- Soundness of the single operations: rows that are written. -/
import Derived.Test.YtlfollkhlephmaaGreatDoorAbOp5
set_option linter.unusedSimpArgs false
set_option linter.unusedVariables false
set_option maxRecDepth 100000
set_option maxHeartbeats 4000000
open List renaming getElem?_take_of_lt→wa,getElem?_append_left→wb,getElem?_drop→we,append_assoc→wh,getElem?_append_right→wi,length_append→wj,getElem?_eq_none→wl,getElem?_eq_some_iff→wm,size_toArray→wq,length_take→ws,length_nil→wt
open Nat renaming mul_le_mul_right→wc,add_mul→wd,le_refl→wg,add_assoc→wu,zero_mul→ww,zero_add→wz
open Bool renaming and_eq_true→wk
open Array renaming length_toList→wo
namespace Go.Ab
variable {P:Program} {S:Sh} {h:qaa} {w:World}
theorem RowOf.flat {es:List (List AVal)} {sz:Nat}:∀{X:List Value},RowOf S es sz X→VRl S es.flatten X:=by
 induction es with
 |nil=>intro X k;have:=k.1;simp at this;subst this;exact .nil S
 |cons c es ih=>
  intro X k
  obtain⟨k1,k2,k3,k4⟩:=k
  have hc:=k2 c (by simp)
  have hl:X.length=sz+es.length*sz:=by rw[k1];simp[wd];omega
  have h1:VRl S c (X.take sz):=by
   refine⟨by rw[ws];omega,fun j u v hu hv=> ?_⟩
   obtain⟨v',g1,g2⟩:=k4 0 c j u rfl hu
   rw[ww,wz]at g1
   have hj:=(wm.1 hu).1
   rw[wa (by omega),g1]at hv
   cases hv;exact g2
  have h2:RowOf S es sz (X.drop sz):=by
   refine⟨by rw[List.length_drop];omega,fun c hc=>k2 c (by simp[hc]),fun c hc=>k3 c (by simp[hc]),fun i c j a hi hj=> ?_⟩
   obtain⟨v,g1,g2⟩:=k4 (i+1) c j a (by simpa using hi) hj
   refine⟨v,?_,g2⟩
   rw[we,←g1]
   congr 1
   rw[wd];omega
  have:=h1.append (ih h2)
  rw[List.take_append_drop]at this
  simpa using this
theorem newArr [Tabs P] (k:WR P S h w) {C:Array Value} {e:TypeId} {i:TypeInfo} {es:List (List AVal)} {cs:List AVal} {X Y Z:List Value} {cap len:Nat} (hi:P.info? e=some i) (h0:0<i.size)
 (hC:C.toList=X++Y++Z) (hsz:C.size=cap*i.size) (hX:RowOf S es i.size X) (hY:VRl S cs Y) (hl:X.length+Y.length=len*i.size) (hel:es.length≤len) (hlc:len≤cap) (hcm:cap≤maxLen) (hp:0<len)
 {b:Nat} {h':qaa} (hb:(b=h.length∧h'=h++[.arr (es.length*i.size) cs len e])∨(∃l0 r0 c0,S.τ b=some (r0,c0,l0)∧l0<len∧h'=h.set b (.arr (es.length*i.size) cs len e))):
 ∃S',Step P S w S' h' (w.alloc (.cells C e))∧VR S' (.ms es b len len) (.slice (some ⟨w.heap.size,0,none⟩) len cap):=by
 have hst:Step P S w (S.withTok b w.heap.size cap len X) h' (w.alloc (.cells C e)):=newT k (x':= .arr (es.length*i.size) cs len e) rfl (by rw[hC,wh]) hb (fun hx=>by
  refine⟨w.heap.size,cap,C,i,by simp[Sh.withTok],qd6,hi,h0,hsz,hlc,hcm,by rw[←hX.1,hY.1];exact hl,?_,fun o ho=> ?_⟩
  ·rw[hC,wh,←hX.1,List.drop_left,hY.1,List.take_left];exact⟨hY.1,fun j u v hu hv=>(hY.2 j u v hu hv).ext hx⟩
  ·simp only[Sh.withTok,and_self,if_true]
   exact wl (by rw[hX.1];exact ho))
 refine⟨_,hst,?_⟩
 refine .ms es b len len _ cap ?_ hel (wg _) hlc hcm ⟨w.heap.size,cap,len,by simp[Sh.withTok],wg _,hp,fun _=>⟨rfl,rfl⟩⟩ rfl
 refine VR.made (hX.ext hst.ext) (fun j v hj=> ?_) rfl (by omega) hcm trivial
 simp only[Sh.withTok,and_self,if_true]
 exact hj
theorem moreArr [Tabs P] (k:WR P S h w) {C:Array Value} {e:TypeId} {i:TypeInfo} {es:List (List AVal)} {cs fs:List AVal} {Y:List Value} {b r cap len m:Nat} {ad:Addr} (hτ:S.τ b=some (r,cap,len))
 (hw:w.heap[r]? =some (.cells C e (0,0))) (hi:P.info? e=some i) (h0:0<i.size) (hsz:C.size=cap*i.size) (hcm:cap≤maxLen) (had:ad=⟨r,0,none⟩)
 (he:VR S (.slice es .free) (.slice (some ad) es.length cap)) (hel:es.length≤len)
 (hcs:es.length*i.size+cs.length=len*i.size) (hcv:VRl S cs ((C.toList.drop (es.length*i.size)).take cs.length)) (hfree:∀o,es.length*i.size≤o→S.M ⟨r,o,none⟩=none)
 (hY:VRl S fs Y) (hYl:Y.length=m*i.size) (hm:0<m) (hlc:len+m≤cap):
 ∃S',Step P S w S' (h.set b (.arr (es.length*i.size) (cs++fs) (len+m) e)) (w.setRow r (C.toList.take (len*i.size)++Y++C.toList.drop (len*i.size+Y.length)).toArray)∧
  VR S' (.ms es b (len+m) (len+m)) (.slice (some ad) (len+m) cap):=by
 subst had
 have hfit:len*i.size+Y.length≤C.size:=by rw[hsz,hYl,←wd];exact wc _ hlc
 have hclen:(C.toList.take (len*i.size)++Y++C.toList.drop (len*i.size+Y.length)).length=C.size:=by simp;omega
 have hCl:C.toList.length=C.size:=wo
 have hst:=moreT k (x':= .arr (es.length*i.size) (cs++fs) (len+m) e) (Y:=[]) (Cn:=C.toList.take (len*i.size)++Y++C.toList.drop (len*i.size+Y.length)) (o1:=es.length*i.size) rfl hτ (by omega) hw
  (fun o v hv=>by
   by_cases ho:es.length*i.size≤o
   ·rw[hfree o ho]at hv;cases hv
   ·omega)
  (fun j hj=>by rw[wh,wb (by rw[ws];omega),wa (by omega)])
  (fun j v hj=>by simp at hj) (fun hx hnew=>by
   refine⟨r,cap,_,i,by simp[Sh.moreTok],hnew,hi,h0,by rw[wq,hclen,hsz],hlc,hcm,by rw[wj,←wu,hcs,hY.1,hYl,wd],?_,fun o ho=> ?_⟩
   ·have e1:((C.toList.take (len*i.size)++Y++C.toList.drop (len*i.size+Y.length)).drop (es.length*i.size)).take (cs++fs).length=(C.toList.drop (es.length*i.size)).take cs.length++Y:=by
     apply List.ext_getElem?
     intro q
     have hfl:=hY.1
     by_cases h1:q<cs.length
     ·rw[wa (by simp;omega),we,wh,wb (by simp;omega),wa (by omega),wb (by simp;omega),wa h1,we]
     ·by_cases h2:q<cs.length+Y.length
      ·rw[wa (by simp;omega),we,wh,wi (by simp;omega),wb (by simp;omega),wi (by simp;omega)]
       congr 1;simp;omega
      ·rw[wl (by simp;omega),wl (by simp;omega)]
    show VRl _ _ (((C.toList.take (len*i.size)++Y++C.toList.drop (len*i.size+Y.length)).toArray.toList.drop (es.length*i.size)).take (cs++fs).length)
    rw[List.toList_toArray,e1]
    exact(hcv.append hY).ext hx
   ·simp only[Sh.moreTok]
    rw[if_neg (by simp)]
    exact hfree o ho)
 refine⟨_,hst,?_⟩
 exact .ms es b (len+m) (len+m) _ cap (he.ext hst.ext) (by omega) (wg _) hlc hcm ⟨r,cap,len+m,by simp[Sh.moreTok],wg _,by omega,fun _=>⟨rfl,rfl⟩⟩ rfl
theorem qmq [Tabs P] (k:WR P S h w) {t ty:TypeId} {s x:AVal} {vs vx:Value} {r:AVal} {f:Eff} (hs:VR S s vs) (hx:VR S x vx)
 (e:qcg P h t s x=some (r,f)):
 ∃v w' S',(Builtin.append_ #[t,t] ty #[vs,vx]).run P w= .ok v w'∧Step P S w S' (f.of h) w'∧VR S' r v:=by
 unfold qcg at e
 split at e
 ·rename_i el fs tk' hel
  have hu:P.underlying t=some (.slice el):=by
   unfold qc2 at hel
   split at hel
   ·rename_i e' he;cases hel;exact he
   ·cases hel
  split at e
  ·rename_i sz by_ z hsz hby hz
   obtain⟨i,hi,hisz⟩:=qdr hsz
   obtain⟨i2,zv,hi2,hzv,hzo⟩:=qeg hz
   rw[hi]at hi2;cases hi2
   have hib:i.bytes=by_:=by simpa[qbj,hi]using hby
   split at e
   ·rename_i hc
    simp only[wk,decide_eq_true_eq,beq_iff_eq]at hc
    obtain⟨⟨⟨⟨hfl,hb0⟩,hb1⟩,hzl⟩,hhf⟩:=hc
    have hzs:zv.cells.size=i.size:=by
     have:=(qd5 (S:=S) hzo).cells.1
     have h2:zv.cells.toList.length=zv.cells.size:=wo
     omega
    have hpos:0<i.size:=by omega
    have hsi:sz+1=i.size:=by omega
    rw[hsi]at e
    have hbytes:∀n,n≤1099511627776→n*i.bytes≤140737488355328:=fun n hn=>by
     rw[hib]
     calc n*by_≤1099511627776*128:=Nat.mul_le_mul hn hb1
      _=140737488355328:=by decide
    obtain⟨adx,cx,Y,rfl,hY,hYc⟩:∃adx cx Y,vx= .slice (some adx) fs.length cx∧RowOf S fs i.size Y∧∀(j:Nat) (v:Value),Y[j]? =some v→w.cell? (adx.add j)=some v:=by
     cases hx with
     |slice _ _ ad n cap esz vs' hn hcap hcm hsp hs' g1 hp g2 ht=>
      obtain⟨Y,h1,h2,_⟩:=VR.row k (.slice fs tk' ad n cap esz vs' hn hcap hcm hsp hs' g1 hp g2 ht) (hsi▸hhf) hpos
      exact⟨ad,cap,Y,by rw[hn],h1,h2⟩
     |snil=>simp at hfl
    have hYl:Y.length=fs.length*i.size:=hY.1
    have hY1:=hY.one hpos
    have grow:∀(es:List (List AVal)) (cs:List AVal) (X Z:List Value) (n old:Nat),RowOf S es i.size X→VRl S cs Z→X.length+Z.length=n*i.size→es.length≤n→old<n+fs.length→n+fs.length≤1099511627776→∀(b:Nat) (h'':qaa),
     ((b=h.length∧h''=h++[.arr (es.length*i.size) (cs++fs.flatten) (n+fs.length) el])∨(∃l0 r0 c0,S.τ b=some (r0,c0,l0)∧l0<n+fs.length∧h''=h.set b (.arr (es.length*i.size) (cs++fs.flatten) (n+fs.length) el)))→
     ∃S',Step P S w S' h'' (w.drew.alloc (.cells ((X++Z).toArray++Y.toArray++Builtin.zeroCells zv.cells (grownCap w (n+fs.length) old el-(n+fs.length))) el))∧
      VR S' (.ms es b (n+fs.length) (n+fs.length)) (.slice (some ⟨w.heap.size,0,none⟩) (n+fs.length) (grownCap w (n+fs.length) old el)):=by
     intro es cs X Z n old hX hZ hXZ hen hold hmax b h'' hb
     have hge:=grownCap_ge w (n+fs.length) old el
     have hcm:grownCap w (n+fs.length) old el≤maxLen:=grownCap_le_maxLen w _ old el (by simp only[maxLen];omega)
     have hst:=newArr k.drew (C:=(X++Z).toArray++Y.toArray++Builtin.zeroCells zv.cells (grownCap w (n+fs.length) old el-(n+fs.length))) (e:=el) (i:=i)
      (X:=X) (Y:=Z++Y) (Z:=(Builtin.zeroCells zv.cells (grownCap w (n+fs.length) old el-(n+fs.length))).toList) (cap:=grownCap w (n+fs.length) old el) (len:=n+fs.length)
      hi hpos (by simp) (by
       simp only[Array.size_append,wq,size_zeroCells,hzs,wj,hXZ,hYl,←wd]
       congr 1;omega) hX (hZ.append hY.flat) (by rw[wj,←wu,hXZ,hYl,wd]) (by omega) hge hcm (by omega) hb
     obtain⟨S',h1,h2⟩:=hst
     exact⟨S',(Step.drew k).trans h1,by simpa using h2⟩
    split at e
    ·-- full
     rename_i es
     split at e
     ·rename_i hc2
      simp only[wk,decide_eq_true_eq]at hc2
      obtain⟨hlen,hhe⟩:=hc2
      have hlen:es.length+fs.length≤1099511627776:=hlen
      cases e
      cases hs with
      |slice _ _ ad n cap esz vs' hn hcap hcm hsp hs' g1 hp g2 ht=>
       subst hn
       have hcl:cap=es.length:=ht
       subst hcl
       obtain⟨X,hX,hXc,_⟩:=VR.row k (.slice es .full ad es.length es.length esz vs' rfl hcap hcm hsp hs' g1 hp g2 ht) hhe hpos
       obtain⟨S',hst,hvr⟩:=grow es [] X [] es.length es.length hX (.nil S) (by simp[hX.1]) (wg _) (by omega) hlen h.length _ (.inl ⟨rfl,rfl⟩)
       refine⟨_,_,S',run_append_grow (P:=P) w t ty el i zv hu hi hzv ad es.length es.length X hX.1 hXc adx fs.length cx Y hYl hYc (by omega) (by omega) (growslice_fits (by omega) (hbytes _ hlen)),?_,hvr⟩
       simpa[Eff.of]using hst
      |snil _ _=>
       obtain⟨S',hst,hvr⟩:=grow [] [] [] [] 0 0 (.nil S _) (.nil S) (by simp) (wg _) (by omega) (by simpa using hlen) h.length _ (.inl ⟨rfl,rfl⟩)
       have hb2:=hbytes _ hlen
       simp only[wt,wz,List.nil_append,ww]at hst hvr hb2 hlen ⊢
       refine⟨_,_,S',run_append_nil (P:=P) w t ty el i zv hu hi hzv adx fs.length cx Y hYl hYc hfl (by omega) (by omega),?_,hvr⟩
       simpa[Eff.of]using hst
     ·cases e
    ·-- owned
     rename_i es b
     split at e
     ·rename_i n e' hb
      split at e
      ·rename_i hc2
       simp only[wk,decide_eq_true_eq]at hc2
       obtain⟨⟨⟨rfl,rfl⟩,hlen⟩,hhe⟩:=hc2
       have hlen:es.length+fs.length≤1099511627776:=hlen
       cases e
       obtain⟨r0,cap0,C0,i0,t1,t2,t3,t4,t5,t6,t7,t8⟩:=k.tok b es.length e' hb
       rw[hi]at t3;cases t3
       cases hs with
       |snil _ htk=>rcases htk with h|h<;>cases h
       |slice _ _ ad n cap esz vs' hn hcap hcm hsp hs' g1 hp g2 ht=>
        obtain⟨r1,c1,l1,u1,u2,u0,u3⟩:=ht
        rw[t1]at u1;cases u1
        subst hn
        obtain⟨rfl,rfl⟩:=u3 rfl
        have hv0:VR S (.slice es .free) (.slice (some ⟨r0,0,none⟩) es.length cap):= .slice es .free ⟨r0,0,none⟩ es.length cap esz vs' rfl hcap hcm hsp hs' g1 hp g2 trivial
        obtain⟨X,hX,hXc,hXM⟩:=VR.row k hv0 hhe hpos
        by_cases hroom:es.length+fs.length≤cap
        ·have hfit:es.length*i.size+Y.length≤C0.size:=by rw[t5,hYl,←wd];exact wc _ hroom
         obtain⟨S',hst,hvr⟩:=moreArr k (cs:=[]) (fs:=fs.flatten) t1 t2 hi hpos t5 hcm rfl hv0 (wg _) (by simp) (by simpa using VRl.nil S) t8 hY.flat hYl hfl hroom
         exact⟨_,_,S',run_append_room (P:=P) w t ty e' i hu hi r0 es.length cap C0 t2 adx fs.length cx Y hYl hYc hY1 hroom hfit,by simpa[Eff.of]using hst,hvr⟩
        ·obtain⟨S',hst,hvr⟩:=grow es [] X [] es.length cap hX (.nil S) (by simp[hX.1]) (wg _) (by omega) hlen b _ (.inr ⟨es.length,r0,cap,t1,by omega,rfl⟩)
         exact⟨_,_,S',run_append_grow (P:=P) w t ty e' i zv hu hi hzv ⟨r0,0,none⟩ es.length cap X hX.1 hXc adx fs.length cx Y hYl hYc (by omega) (by omega) (growslice_fits (by omega) (hbytes _ hlen)),by simpa[Eff.of]using hst,hvr⟩
      ·cases e
     ·cases e
    ·-- written
     rename_i es b n m
     split at e
     ·rename_i p cs l e' hb
      split at e
      ·rename_i hc2
       simp only[wk,decide_eq_true_eq]at hc2
       obtain⟨⟨⟨⟨rfl,rfl⟩,hlen⟩,rfl⟩,hhe⟩:=hc2
       have hlen:n+fs.length≤1099511627776:=hlen
       obtain⟨r0,cap0,C0,i0,t1,t2,t3,t4,t5,t6,t7,t8,t9,t10⟩:=k.arr b _ cs n e' hb
       rw[hi]at t3;cases t3
       cases hs with
       |ms _ _ _ _ ad cap hv0 hn hm hcap hcm ht hsp0=>
        obtain⟨r1,c1,l1,u1,u2,u0,u3⟩:=ht
        rw[t1]at u1;cases u1
        obtain⟨rfl,rfl⟩:=u3 rfl
        obtain⟨X,hX,hXc,hXM⟩:=VR.row k hv0 hhe hpos
        have hns:n*i.size≤C0.size:=by rw[t5];exact wc _ t6
        split at e
        ·rename_i hmn
         subst hmn
         cases e
         by_cases hroom:m+fs.length≤cap
         ·have hfit:m*i.size+Y.length≤C0.size:=by rw[t5,hYl,←wd];exact wc _ hroom
          obtain⟨S',hst,hvr⟩:=moreArr k t1 t2 hi hpos t5 hcm rfl hv0 hn t8 t9 t10 hY.flat hYl hfl hroom
          exact⟨_,_,S',run_append_room (P:=P) w t ty e' i hu hi r0 m cap C0 t2 adx fs.length cx Y hYl hYc hY1 hroom hfit,hst,hvr⟩
         ·have hZl:((C0.toList.drop (es.length*i.size)).take cs.length).length=cs.length:=t9.1.symm
          obtain⟨S',hst,hvr⟩:=grow es cs X _ m cap hX t9 (by rw[hZl,hX.1];exact t8) hn (by omega) hlen b _ (.inr ⟨m,r0,cap,t1,by omega,rfl⟩)
          refine⟨_,_,S',run_append_grow (P:=P) w t ty e' i zv hu hi hzv ⟨r0,0,none⟩ m cap (X++(C0.toList.drop (es.length*i.size)).take cs.length) (by rw[wj,hZl,hX.1];exact t8) (fun j v hj=> ?_) adx fs.length cx Y hYl hYc (by omega) (by omega) (growslice_fits (by omega) (hbytes _ hlen)),hst,hvr⟩
          by_cases hjx:j<X.length
          ·rw[wb hjx]at hj
           exact hXc j v hj
          ·rw[wi (by omega)]at hj
           have hj2:=(wm.1 hj).1
           rw[hZl]at hj2
           rw[wa hj2,we,Array.getElem?_toList,hX.1]at hj
           rw[hX.1]at hjx
           rw[show es.length*i.size+(j-es.length*i.size)=j by omega]at hj
           rw[Addr.add_lit]
           simp[World.cell?,t2,hj]
        ·split at e
         ·rename_i hroom
          split at e
          ·rename_i cs' hset
           cases e
           obtain⟨g1,g2⟩:=qdf hset
           have hfitn:m*i.size+Y.length≤n*i.size:=by rw[hYl,←wd];exact wc _ hroom
           have hpm:es.length*i.size≤m*i.size:=wc _ hn
           have hYv:=hY.flat
           have hst:=setArr k hb t1 t2 (off:=m*i.size) (vs:=Y) hpm (by omega) hYv g2
           refine⟨_,_,S,run_append_room (P:=P) w t ty e' i hu hi r0 m cap C0 t2 adx fs.length cx Y hYl hYc hY1 (by omega) (by omega),hst,?_⟩
           exact .ms es b n (m+fs.length) _ cap hv0 (by omega) hroom hcap hcm ⟨r0,cap,n,t1,u2,u0,u3⟩ hsp0
          ·cases e
         ·cases e
      ·cases e
     ·cases e
    ·cases e
   ·unfold qgn at e
    split at e
    ·cases e
     cases hs with
     |ms _ _ _ _ ad cap hv0 hn hm hcap hcm ht hsp0=>
      have hv0':∃b c,vx= .slice b 0 c:=by
       cases hx with
       |slice _ _ ad n cap _ _ hn=>simp only[wt]at hn;exact⟨some ad,cap,by rw[←hn]⟩
       |snil=>exact⟨none,0,rfl⟩
      obtain⟨b9,c9,rfl⟩:=hv0'
      exact⟨_,w,S,qf9 hu hi (some ad) _ cap (by omega) b9 c9,.refl k,.ms _ _ _ _ ad cap hv0 hn hm hcap hcm ht hsp0⟩
    ·cases e
  ·cases e
 ·cases e
theorem qmr [Tabs P] (k:WR P S h w) {b:Bool} {t ty:TypeId} {s x:AVal} {vs vx:Value} {r:AVal} {f:Eff} (hs:VR S s vs) (hx:VR S x vx)
 (e:qbf P b h t s x=some (r,f)):
 ∃v w' S',(Builtin.append_ #[t,t] ty #[vs,vx]).run P w= .ok v w'∧Step P S w S' (f.of h) w'∧VR S' r v:=by
 unfold qbf at e
 split at e
 ·exact qmq k hs hx e
 ·exact qmp k hs hx e
end Go.Ab
