/- The scanner: contracts of what reads one token. -/
import Derived.Test.YtngklkmeknmloaaGreatDoorAbEffB
import Derived.Test.YtngklkmeknmloaaGreatDoorAbObj
import Derived.Test.YtngklkmeknmloaaGreatDoorAbScan
import Derived.Test.YtngklkmeknmloaaGreatDoorAbSl
import Derived.Test.YtngklkmeknmloaaGreatDoorAbTok
import Derived.Test.YtngklkmeknmloaaGreatDoorAbExtP
set_option linter.unusedSimpArgs false
set_option linter.unusedVariables false
set_option maxRecDepth 100000
set_option maxHeartbeats 4000000
open Go.Proofs
open Int renaming natCast_zero→wa
open List renaming append_assoc→wb,cons_append→wc,nil_append→wd,all_cons→wg,length_take→wh,append_nil→wj,drop_zero→wk,drop_succ_cons→wo,length_drop→wu,length_nil→ww
open Bool renaming and_eq_true→we
open UInt8 renaming toNat_inj→wi
open Nat renaming sub_lt_sub_left→wm,zero_le→wq,lt_succ_self→wt,min_eq_left→wv,lt_one_iff→wz,zero_add→w6
namespace Go.Ab
open Go Go.Ab.Tab
def adv (p:Nat×Nat) (c:UInt8):Nat×Nat:=if c=10 then(p.1+1,1)else(p.1,p.2+1)
def plc (s:Str):Nat×Nat:=s.foldl adv (1,1)
theorem plc_snoc (s:Str) (c:UInt8):plc (s++[c])=adv (plc s) c:=by simp[plc]
theorem plc_le (s:Str):(plc s).1≤s.length+1∧(plc s).2≤s.length+1:=by
 have key:∀(s:Str) (p:Nat×Nat),(s.foldl adv p).1≤p.1+s.length∧(s.foldl adv p).2≤max p.2 1+s.length:=by
  intro s
  induction s with
  |nil=>intro p;simp;omega
  |cons c r ih=>
   intro p
   have h:=ih (adv p c)
   simp only[List.foldl_cons,List.length_cons]
   unfold adv at h ⊢
   by_cases hc:c=10
   ·rw[if_pos hc]at h ⊢;simp only at h ⊢;omega
   ·rw[if_neg hc]at h ⊢;simp only at h ⊢;omega
 have:=key s (1,1)
 simp only at this
 unfold plc;omega
def qc8 (text:Str) (k:Nat):List AVal:=[.str text,.int .i64 k,.int .i64 (plc (text.take k)).1,.int .i64 (plc (text.take k)).2]
theorem qxh (n:Nat) (text:Str) (k:Nat) (h:qab) (b:Nat) (hb:h[b]? =some (.box (qc8 text k))):qib n h b:=
 qy8 n h b _ hb (fun v hv=>by
  simp only[qc8,List.mem_cons,List.not_mem_nil,or_false]at hv
  rcases hv with rfl|rfl|rfl|rfl
  ·exact .inr (.inl ⟨_,rfl⟩)
  ·exact .inl ⟨_,_,rfl⟩
  ·exact .inl ⟨_,_,rfl⟩
  ·exact .inl ⟨_,_,rfl⟩)
theorem byte10 (c:UInt8):((c.toNat:Int)==10)=decide (c=10):=by
 by_cases h:c=10
 ·subst h;rfl
 ·have:c.toNat≠10:=fun e=>h (wi.1 (by rw[e];rfl))
  simp only[h,decide_false,beq_eq_false_iff_ne,ne_eq];omega
theorem skip_c (text:Str) (hT:text.length≤65536) (k n:Nat) (hn:k+n≤text.length):qbk C 129 [.ptr 0 0,.int .i64 n] [.box (qc8 text k)] (.tuple []) [.box (qc8 text (k+n))]:=by
 refine qa9 rfl Tryz.func129 rfl (by kernel_rfl) (m:=41) rfl ?_;simp only[Z3,simprocAttr,Tryz.f129,qwy]
 generalize hb:qam PP cmp0 C lpC _=f;generalize hl:lpC f _=r
 obtain⟨ex,s',rfl,rfl,h2⟩:=qel (α:=Nat) hl [6,7,8,9,10,11,12,13,14,15,16,17,18,19,20,21,22,23,24,25,26,27,28,29,30,31,32,33,34,35,36,37,38,39,40,41,42] (fun i=>[(5,.int .i64 i)]) (fun i=>[.box (qc8 text (k+i))]) (fun i=>i≤n) (fun i=>n-i) (fun _=>())
  (fun ts _ ex s=>ex= .exit 0∧At [6,7,8,9,10,11,12,13,14,15,16,17,18,19,20,21,22,23,24,25,26,27,28,29,30,31,32,33,34,35,36,37,38,39,40,41,42] ts [.box (qc8 text (k+n))] [(5,.int .i64 n)] s) 0 (wq _) (At.of [] (by simp only[ats,wa]) (by simp only[wj,Nat.add_zero])) (by
   intro i j H d hi
   clear hl;subst hb
   by_cases hlt:i<n
   ·have e1:((i:Int)<(n:Int)):=by omega
    have hk:k+i<text.length:=by omega
    have e2:text[k+i]? =some text[k+i]:=List.getElem?_eq_getElem hk
    have hpl:=plc_le (text.take (k+i))
    have hln:(text.take (k+i)).length≤65536:=by rw[wh];omega
    have w1:=qav (show(plc (text.take (k+i))).2≤qac by unfold qac;omega)
    have w2:=qav (show(plc (text.take (k+i))).1≤qac by unfold qac;omega)
    have w3:=qav (show k+i≤qac by unfold qac;omega)
    have w4:=qav (show i≤qac by unfold qac;omega)
    have hst:plc (text.take (k+i+1))=adv (plc (text.take (k+i))) text[k+i]:=by
     rw[List.take_succ_eq_append_getElem hk,plc_snoc]
    have hcell:qc8 text (k+(i+1))=[.str text,.int .i64 ((k+i+1:Nat):Int),.int .i64 ((adv (plc (text.take (k+i))) text[k+i]).1:Nat),.int .i64 ((adv (plc (text.take (k+i))) text[k+i]).2:Nat)]:=by
     rw[←Nat.add_assoc];unfold qc8;rw[hst]
    cases hc:decide (text[k+i]=10)
    ·simp only[Z3,simprocAttr,effs,qwy,qc8,e1,e2,w1,w2,w3,w4,byte10,hc]
     refine .inl ⟨i+1,_,rfl,hlt,?_,wm hlt (wt i),trivial⟩
     have hc':¬text[k+i]=10:=by simpa using hc
     unfold adv qc8 at hcell
     rw[if_neg hc']at hcell
     rw[hcell]
     exact At.of _ (by simp only[ats,wa]) (by simp only[wc,wb,wd];rfl)
    ·simp only[Z3,simprocAttr,effs,qwy,qc8,e1,e2,w1,w2,w3,w4,byte10,hc]
     refine .inl ⟨i+1,_,rfl,hlt,?_,wm hlt (wt i),trivial⟩
     have hc':text[k+i]=10:=by simpa using hc
     unfold adv qc8 at hcell
     rw[if_pos hc']at hcell
     rw[hcell]
     exact At.of _ (by simp only[ats,wa]) (by simp only[wc,wb,wd];rfl)
   ·have e1:¬((i:Int)<(n:Int)):=by omega
    have hin:i=n:=by omega
    subst hin
    simp only[Z3,simprocAttr,qwy,e1]
    exact .inr ⟨_,_,rfl,by simp,rfl,At.of _ (by simp only[ats,wa]) (by simp only[wc,wb,wd];rfl)⟩)
 obtain⟨j,H,d,rfl⟩:=h2.elim
 clear hl
 exact qcv (.inr rfl) rfl rfl rfl (fun b hb=>by
  obtain rfl:b=0:=wz.1 hb
  exact qxh _ text (k+n) _ _ rfl) rfl
end Go.Ab
namespace Go.Ab
open Go Go.Ab.Tab
def qe5 (z:Int):Bool:=z==32||z==9||z==10||z==13
def qi1 (z:Int):Bool:= !(z==10)
theorem blank_c (z:Int):Ret C 188 [.int .u8 z] (.bool (qe5 z)):=by
 refine Ret.mk rfl rfl ?_
 rw[C_fn rfl Tryz.func188 rfl (by kernel_rfl) (m:=16) rfl];simp only[Z3,simprocAttr,Tryz.f188,qsh,qe5]
 cases h1:z==32
 ·cases h2:z==9
  ·cases h3:z==10
   ·simp only[Z3,simprocAttr,qsh,h1,h2,h3]
   ·simp only[Z3,simprocAttr,qsh,h1,h2,h3]
  ·simp only[Z3,simprocAttr,qsh,h1,h2]
 ·simp only[Z3,simprocAttr,qsh,h1]
theorem line_c (z:Int):Ret C 190 [.int .u8 z] (.bool (qi1 z)):=by
 refine Ret.mk rfl rfl ?_
 rw[C_fn rfl Tryz.func190 rfl (by kernel_rfl) (m:=4) rfl];simp only[Z3,simprocAttr,Tryz.f190,fx_190,qi1,bne]
def preB (s p:Str):Bool:=decide (p.length≤s.length) && (s.take p.length==p)
theorem hasPreA_c (s p:Str) (hs:s.length≤qac) (hp:p.length≤qac):Ret C 234 [.str s,.str p] (.bool (preB s p)):=by
 refine Ret.mk rfl rfl ?_
 by_cases h:p.length≤s.length
 ·have h1:((p.length:Int)≤(s.length:Int)):=by omega
  have h2:decide (p.length≤s.length)=true:=decide_eq_true h
  rw[C_fn rfl Tryz.func234 rfl (by kernel_rfl) (m:=16) rfl];simp only[Z3,simprocAttr,Tryz.f234,qw1,hs,hp,h1,preB,h2,qn6]
  done
 ·have h1:¬((p.length:Int)≤(s.length:Int)):=by omega
  have h2:decide (p.length≤s.length)=false:=decide_eq_false h
  rw[C_fn rfl Tryz.func234 rfl (by kernel_rfl) (m:=16) rfl];simp only[Z3,simprocAttr,Tryz.f234,qw1,hs,hp,h1,preB,h2]
  done
theorem qzf (s p:Str) (hs:s.length≤qac) (hp:p.length≤qac):Ret C 189 [.str s,.str p] (.bool (preB s p)):=by
 refine Ret.mk rfl rfl ?_
 have e1:=hasPreA_c s p hs hp
 rw[C_fn rfl Tryz.func189 rfl (by kernel_rfl) (m:=6) rfl];simp only[Z3,simprocAttr,Tryz.f189,fx_189,e1 _]
theorem rest_c (text:Str) (hT:text.length≤65536) (k:Nat) (hk:k≤text.length):C 186 [.ptr 0 0] [.box (qc8 text k)]=some (.ret (.str (text.drop k)) .same):=by
 have h1:((k:Int)≤(text.length:Int)):=by omega
 rw[C_fn rfl Tryz.func186 rfl (by kernel_rfl) (m:=11) rfl];simp only[Z3,simprocAttr,Tryz.f186,fx_186,qc8,h1,sl_lo]
 rw[qa3 1 (.str (text.drop k)) _ [] (by simp) rfl];rfl
def gapS:Bool→Str→Nat
 |_,[]=>0
 |true,c::r=>if c=10 then 1+gapS false r else 1+gapS true r
 |false,c::r=>if qe5 c.toNat=true then 1+gapS false r else if c=45∧r.head? =some 45 then 1+gapS true r else 0
def qin (s:Str):Nat:=if qa1 qe5 s=0∧preB s [45,45]=true then qa1 qi1 s else qa1 qe5 s
theorem qxi:∀s:Str,gapS false s=qa1 qe5 s+gapS false (s.drop (qa1 qe5 s))
 |[]=>rfl
 |c::r=>by
  by_cases h:qe5 c.toNat=true
  ·simp only[gapS,qa1,if_pos h,wo]
   rw[qxi r];omega
  ·simp only[qa1,if_neg h,wk,w6]
theorem qzg:∀s:Str,gapS true s=qa1 qi1 s+gapS false (s.drop (qa1 qi1 s))
 |[]=>rfl
 |c::r=>by
  by_cases h:c=10
  ·subst h
   have hl:qi1 ((10:UInt8).toNat:Nat)=false:=rfl
   have h0:qa1 qi1 (10::r)=0:=by simp only[qa1,hl];rfl
   rw[h0,wk,w6];simp only[gapS,if_true];rfl
  ·have hl:qi1 c.toNat=true:=by
    have:c.toNat≠10:=fun e=>h (wi.1 (by rw[e];rfl))
    unfold qi1;simp;omega
   simp only[gapS,qa1,if_neg h,if_pos hl,wo]
   rw[qzg r];omega
theorem qvq (s:Str):preB s [45,45]=true↔∃r,s=45::45::r:=by
 unfold preB
 match s with
 |[]=>simp
 |[a]=>simp
 |a::b::r=>simp
theorem gap_step (s:Str):gapS false s=qin s+gapS false (s.drop (qin s)):=by
 unfold qin
 split
 ·rename_i h
  obtain⟨r,rfl⟩:=(qvq s).1 h.2
  have h1:gapS false (45::45::r)=1+gapS true (45::r):=rfl
  have h2:gapS true (45::r)=1+gapS true r:=rfl
  have h3:gapS true (45::45::r)=1+gapS true (45::r):=rfl
  rw[h1,←h3];exact qzg _
 ·exact qxi s
theorem gap_zero {s:Str} (h:qin s=0):gapS false s=0:=by
 unfold qin at h
 split at h
 ·rename_i hp
  obtain⟨r,rfl⟩:=(qvq s).1 hp.2
  have:qa1 qi1 (45::45::r)=qa1 qi1 (45::r)+1:=rfl
  omega
 ·rename_i hp
  have hp':preB s [45,45]=false:=by
   cases hq:preB s [45,45]with
   |false=>rfl
   |true=>exact absurd ⟨h,hq⟩ hp
  cases s with
  |nil=>rfl
  |cons c r=>
   have hb:¬qe5 c.toNat=true:=by
    intro hb;simp only[qa1,if_pos hb]at h;omega
   simp only[gapS,if_neg hb]
   rw[if_neg]
   rintro⟨rfl,hr⟩
   cases r with
   |nil=>cases hr
   |cons d t=>
    have:d=45:=by simpa using hr
    subst this
    have:=(qvq (45::45::t)).2 ⟨t,rfl⟩
    rw[hp']at this;cases this
theorem blankN_le (s:Str):qin s≤s.length:=by
 unfold qin;split<;>exact qg4 _ _
theorem blanks_c (text:Str) (hT:text.length≤65536) (k:Nat) (hk:k≤text.length):qbk C 127 [.ptr 0 0] [.box (qc8 text k)] (.tuple []) [.box (qc8 text (k+gapS false (text.drop k)))]:=by
 refine qa9 rfl Tryz.func127 rfl (by kernel_rfl) (m:=20) rfl ?_;simp only[Z3,simprocAttr,Tryz.f127,qsg]
 generalize hb:qam PP cmp0 C lpC _=f;generalize hl:lpC f _=r
 obtain⟨ex,s',rfl,rfl,h2⟩:=qel (α:=Nat) hl [2,3,4,5,6,7,8,9,10,11,12,13,14,15,16,17,18,19,20] (fun _=>[]) (fun i=>[.box (qc8 text i)]) (fun i=>i≤text.length) (fun i=>text.length-i) (fun i=>i+gapS false (text.drop i))
  (fun ts r ex s=>ex= .ret∧At [2,3,4,5,6,7,8,9,10,11,12,13,14,15,16,17,18,19,20] ts [.box (qc8 text r)] [] s) k hk (At.of [] (by simp only[ats,wa]) (by simp only[wj])) (by
   intro i j H d hi
   clear hl;subst hb
   obtain⟨n,hn⟩:∃n,n=qin (text.drop i):=⟨_,rfl⟩
   have hnl:n≤text.length-i:=by rw[hn];have:=blankN_le (text.drop i);rwa [wu]at this
   have hs:(text.drop i).length≤qac:=by rw[wu];unfold qac;omega
   have c1:=qc7 (c:=C) (b:=0) (H:= .box (qc8 text i)::H) (rest:=[]) rfl rfl rfl (rest_c text hT i hi) rfl
   have c2:=qpq qe5 188 blank_c (text.drop i) hs
   have c3:=qzf (text.drop i) [45,45] hs (by decide)
   have c4:=qpq qi1 190 line_c (text.drop i) hs
   obtain⟨E,hE,hh⟩:=qd4 qay (b:=0) (H:= .box (qc8 text i)::H) (rest:=[.int .i64 n]) rfl rfl rfl rfl (skip_c text hT i n (by omega)) rfl
   have h9:(Eff.of (.box (qc8 text i)::H) E)= .box (qc8 text (i+n))::H:=hh
   have hgs:=gap_step (text.drop i)
   rw[←hn,List.drop_drop]at hgs
   have stop:n=0→i+gapS false (text.drop i)=i:=fun h=>by rw[gap_zero (by rw[←hn];exact h)];rfl
   have goes:i+n+gapS false (text.drop (i+n))=i+gapS false (text.drop i):=by rw[hgs];omega
   by_cases h0:qa1 qe5 (text.drop i)=0
   ·have h0':((qa1 qe5 (text.drop i):Int)==0)=true:=by rw[h0];rfl
    cases hp:preB (text.drop i) [45,45]
    ·have hn0:n=0:=by rw[hn];unfold qin;rw[hp];simp[h0]
     simp only[Z3,simprocAttr,effs,qsg,c1,c2 _,c3 _,h0',hp]
     exact .inr ⟨_,_,rfl,by simp,rfl,by rw[stop hn0];exact At.of _ (by simp only[ats,wa]) (by simp only[wc,wb,wd];rfl)⟩
    ·have hn1:qa1 qi1 (text.drop i)=n:=by rw[hn];unfold qin;rw[if_pos ⟨h0,hp⟩]
     by_cases hz:n=0
     ·have hz':((n:Int)==0)=true:=by rw[hz];rfl
      rw[hn1]at c4
      simp only[Z3,simprocAttr,effs,qsg,c1,c2 _,c3 _,c4 _,h0',hp,hz']
      exact .inr ⟨_,_,rfl,by simp,rfl,by rw[stop hz];exact At.of _ (by simp only[ats,wa]) (by simp only[wc,wb,wd];rfl)⟩
     ·have hz':((n:Int)==0)=false:=by simp;omega
      rw[hn1]at c4
      simp only[Z3,simprocAttr,effs,qsg,c1,c2 _,c3 _,c4 _,h0',hp,hz',hE,h9]
      exact .inl ⟨i+n,_,rfl,by omega,At.of _ (by simp only[ats,wa]) (by simp only[wc,wb,wd];rfl),by omega,goes⟩
   ·have h0':((qa1 qe5 (text.drop i):Int)==0)=false:=by simp;omega
    have hn2:qa1 qe5 (text.drop i)=n:=by rw[hn];unfold qin;rw[if_neg (fun h=>h0 h.1)]
    rw[hn2]at c2 h0 h0'
    simp only[Z3,simprocAttr,effs,qsg,c1,c2 _,h0',hE,h9]
    exact .inl ⟨i+n,_,rfl,by omega,At.of _ (by simp only[ats,wa]) (by simp only[wc,wb,wd];rfl),by omega,goes⟩)
 obtain⟨j,H,d,rfl⟩:=h2.elim
 clear hl
 exact qcv (.inl rfl) rfl rfl rfl (fun b hb=>by
  obtain rfl:b=0:=wz.1 hb
  exact qxh _ text _ _ _ rfl) rfl
end Go.Ab
namespace Go.Ab
open Go Go.Ab.Tab
def maxI:Nat:=9223372036854775807
def numD (s:Str):Str:=s.take (qa1 qby s)
def numT (s:Str):PTok:=⟨3,numD s,if valN 0 (numD s)≤maxI then(valN 0 (numD s):Int)else 9223372036854775807,0,0⟩
def notZ (d:Str):Bool:=d==[48]|| !(d.head? ==some 48)
def qq9 (s:Str):Bool:=decide (valN 0 (numD s)≤maxI) && notZ (numD s) && (qa1 qa5 s==(numD s).length)
def qco (s:Str):Str:=s.take (qa1 qa5 s)
def qkz (s:Str):PTok:=⟨if wordL.any (qco s== ·)then 5 else if qc4 ((qco s).headD 0).toNat then 2 else 1,qco s,0,0,0⟩
def signL':List Str:=[[45,62],[60,61],[60,62],[40],[41],[91],[93],[60],[61],[44],[59],[58],[124],[43],[45],[42],[47],[37]]
def noTok:PTok:=⟨0,[],0,0,0⟩
def qhu (s:Str):PTok×Bool:=match signL'.find? (preB s)with
 |some x=>(⟨4,x,0,0,0⟩,true)
 |none=>(noTok,false)
def lexT:Str→PTok×Bool
 |[]=>(noTok,false)
 |c::r=>if qby c.toNat then(numT (c::r),qq9 (c::r))else if qdm c.toNat||qc4 c.toNat then(qkz (c::r),decide ((qco (c::r)).length≤24))else qhu (c::r)
theorem valN_mono (t:Str):∀a:Nat,a≤valN a t:=by
 induction t with
 |nil=>intro a;exact Nat.le_refl _
 |cons d t iht=>intro a;have:=iht (stpN a d);rw[qsp];unfold stpN at this ⊢;omega
theorem q3g (M acc:Nat) (c:UInt8) (r:Str):Lib.parseUintM M acc (c::r)=if 48≤c.toNat∧c.toNat≤57 then(if 1844674407370955162≤acc then .range else if M<acc*10+(c.toNat-48)then .range else Lib.parseUintM M (acc*10+(c.toNat-48)) r)else .syntax:=by rw[Lib.parseUintM]
theorem qzh {c:UInt8} (h:qby c.toNat=true):48≤c.toNat∧c.toNat≤57:=by
 simp only[qby,we,decide_eq_true_eq]at h;omega
theorem parseM (M:Nat) (hM:M=18446744073709551615) (s:Str):∀acc:Nat,qd3 s=true→acc≤M→Lib.parseUintM M acc s=if valN acc s≤M then .ok (valN acc s)else .range:=by
 induction s with
 |nil=>
  intro acc _ h
  show Lib.NumEnd.ok acc=if acc≤M then _ else _
  rw[if_pos h];rfl
 |cons c r ih=>
  intro acc hd h
  have hd1:qby c.toNat=true∧qd3 r=true:=by
   unfold qd3 at hd ⊢
   rw[wg,we]at hd;exact hd
  have hc:=qzh hd1.1
  rw[q3g,if_pos hc,qsp]
  have e:acc*10+(c.toNat-48)=stpN acc c:=by unfold stpN;omega
  have hm:=valN_mono r (stpN acc c)
  have hst:10*acc≤stpN acc c:=by unfold stpN;omega
  rw[e]
  generalize stpN acc c=q at*
  by_cases h1:1844674407370955162≤acc
  ·rw[if_pos h1,if_neg (by omega)]
  ·rw[if_neg h1]
   by_cases h2:M<q
   ·rw[if_pos h2,if_neg (by omega)]
   ·rw[if_neg h2];exact ih _ hd1.2 (by omega)
theorem parse_num (s:Str) (hd:qd3 s=true) (hne:s≠[]):Lib.parseIntB 64 s=if valN 0 s≤maxI then .ok (valN 0 s:Int)else .range:=by
 cases s with
 |nil=>exact absurd rfl hne
 |cons c r=>
  have hd1:qby c.toNat=true:=by
   unfold qd3 at hd
   rw[wg,we]at hd;exact hd.1
  have hc:=qzh hd1
  have hp:(2:Nat) ^ 64-1=18446744073709551615:=by decide
  have hq:(2:Nat) ^ (64-1)=9223372036854775808:=by decide
  have hm:=parseM _ hp (c::r) 0 hd (wq _)
  have hu:Lib.parseUintB 64 (c::r)=Lib.parseUintM (2 ^ 64-1) 0 (c::r):=rfl
  obtain⟨v,hv⟩:∃v,v=valN 0 (c::r):=⟨_,rfl⟩
  rw[←hv]at hm ⊢
  unfold Lib.parseIntB
  simp only[hq]
  rw[if_neg (by omega:¬(c.toNat=43∨c.toNat=45)),hu,hm]
  unfold maxI
  by_cases h1:v≤2 ^ 64-1
  ·rw[if_pos h1]
   simp only
   by_cases h2:v≤9223372036854775807
   ·rw[if_pos h2,if_neg (by omega),if_neg (by omega),if_neg (by omega)]
   ·rw[if_neg h2,if_pos (by omega)]
  ·rw[if_neg h1,if_neg (by omega)]
theorem sat_num (s:Str) (hd:qd3 s=true):Lib.intSat 64 s=9223372036854775807:=by
 unfold Lib.intSat
 rw[if_neg]
 ·decide
 ·cases s with
  |nil=>simp
  |cons c r=>
   have hc:48≤c.toNat∧c.toNat≤57:=by
    simp only[qd3,wg,we]at hd
    have:=hd.1
    simp only[qby,we,decide_eq_true_eq]at this;omega
   simp;omega
theorem qvr (p:Int→Bool):∀s:Str,(s.take (qa1 p s)).all (fun c=>p c.toNat)=true
 |[]=>rfl
 |c::r=>by
  simp only[qa1]
  split
  ·rename_i h
   simp only[List.take_succ_cons,wg,h,qvr p r,Bool.and_self]
  ·rfl
end Go.Ab
namespace Go.Ab
open Go Go.Ab.Tab
def eqIf (d:Option TypeDesc) (b:Bool):Option AVal:=match d with
 |some (.interface _)=>some (.bool b)
 |_=>none
theorem qvs (ms:Array (String×TypeId)) (b:Bool):eqIf (some (.interface ms)) b=some (.bool b):=rfl
section
variable (P:Program) (cmp:List TypeId) (t:TypeId)
theorem bin_inn:binA P cmp .eql t true .nili .nili=eqIf (P.underlying t) true:=by
 simp only[binA,eqT,eqIf]
 cases P.underlying t with
 |none=>rfl
 |some d=>cases d<;>rfl
theorem bin_iin (n:Bool) (u:TypeId) (v:AVal):binA P cmp .eql t n (.iface u v) .nili=eqIf (P.underlying t) false:=by
 simp only[binA,eqT,eqIf]
 cases P.underlying t with
 |none=>rfl
 |some d=>cases d<;>rfl
end
theorem qs0 (v:Value):qeh (.const v)=true:=rfl
theorem qs1 (t:Tmp):qeh (.tmp t)=false:=rfl
theorem parse_c (d:Str) (hd:qd3 d=true) (hne:d≠[]) (hl:d.length≤65536):Ret C 236 [.str d,.int .i64 10,.int .i64 64]
 (.tuple [.int .i64 (if valN 0 d≤maxI then(valN 0 d:Int)else 9223372036854775807),if valN 0 d≤maxI then .nili else .iface errT (.eptr [] 0)]):=by
 have e:=parse_num d hd hne
 have hl':d.length≤qhx:=by unfold qhx;omega
 refine Ret.mk rfl (by by_cases h:valN 0 d≤maxI<;>simp[h,refs,qad]) ?_
 unfold C
 rw[qtb ext_parse]
 unfold qjt
 simp only
 rw[if_pos hl',e]
 by_cases h:valN 0 d≤maxI
 ·simp only[if_pos h]
 ·simp only[if_neg h,sat_num d hd]
theorem qvt (s:Str):(numD s).length=qa1 qby s:=by
 unfold numD
 rw[wh,wv (qg4 _ _)]
theorem numD_dig (s:Str):qd3 (numD s)=true:=qvr qby s
theorem hd48 (d:Str):((d==[48])=true→notZ d=true)∧((d==[48])=false→notZ d= !(d.head? ==some 48)):=by
 unfold notZ
 constructor<;>intro h<;>rw[h]<;>simp
theorem number_c (c:UInt8) (r:Str) (hc:qby c.toNat=true) (hs:(c::r).length≤65536):Ret C 193 [.str (c::r)] (.tuple [.agg (numT (c::r)).cells,.bool (qq9 (c::r))]):=by
 obtain⟨s,hsd⟩:∃s,s=c::r:=⟨_,rfl⟩
 rw[←hsd]at hs ⊢
 have hsl:s.length≤qac:=by unfold qac;omega
 have hne:numD s≠[]:=by
  intro e
  have:=qvt s
  rw[e,hsd]at this
  simp only[qa1,hc,if_true,ww]at this;omega
 have c1:=qpq qby 192 qx3 s hsl
 have c2:=qpq qa5 237 qx4 s hsl
 have hdl:(numD s).length≤65536:=by rw[qvt];have:=qg4 qby s;omega
 have c3:=parse_c (numD s) (numD_dig s) hne hdl
 have h1:((qa1 qby s:Int)≤(s.length:Int)):=by have:=qg4 qby s;omega
 have h2:(numD s).length≤qac:=by unfold qac;omega
 have hnd:s.take (qa1 qby s)=numD s:=rfl
 obtain⟨d0,dr,hd0⟩:∃a b,numD s=a::b:=by
  cases h:numD s with
  |nil=>exact absurd h hne
  |cons a b=>exact⟨a,b,rfl⟩
 refine Ret.mk rfl rfl ?_
 have i0:(numD s)[0]? =some d0:=by rw[hd0];rfl
 have hT:(numT s).cells=[.int .i64 3,.str (numD s),.int .i64 (if valN 0 (numD s)≤maxI then(valN 0 (numD s):Int)else 9223372036854775807),.int .i64 0,.int .i64 0]:=rfl
 have hO:qq9 s=(decide (valN 0 (numD s)≤maxI) && notZ (numD s) && (qa1 qa5 s==(numD s).length)):=rfl
 rw[hT,hO]
 obtain⟨k1,k2⟩:=hd48 (numD s)
 have k3:((numD s).head? ==some (48:UInt8))=((d0.toNat:Int)==48):=by
  rw[hd0]
  by_cases h:d0=48
  ·subst h;rfl
  ·have:d0.toNat≠48:=fun e=>h (wi.1 (by rw[e];rfl))
   have h1:((d0.toNat:Int)==48)=false:=by simp;omega
   rw[h1];simp[h]
 have k4:((qa1 qa5 s:Int)==((numD s).length:Int))=(qa1 qa5 s==(numD s).length):=qt6 _ _
 by_cases h:valN 0 (numD s)≤maxI
 ·have hdec:decide (valN 0 (numD s)≤maxI)=true:=decide_eq_true h
  simp only[if_pos h,hdec]at c3 ⊢
  cases hz:numD s==[48]
  ·rw[k2 hz,k3]
   rw[C_fn rfl Tryz.func193 rfl (by kernel_rfl) (m:=38) rfl];simp only[Z3,simprocAttr,Tryz.f193,qsi,ty,c1 _,h1,qn6,hnd,c3 _,bin_inn,qs0,qs1,qvs,hz,i0,bne]
   cases hq:((d0.toNat:Int)==48)
   ·simp only[Z3,simprocAttr,qsi,ty,hq,c2 _,h2,k4]
    rw[qd6 _ _ _ rfl,qd7 _ _ _ rfl];rfl
   ·simp only[Z3,simprocAttr,qsi,ty,hq]
    rw[qd6 _ _ _ rfl,qd7 _ _ _ rfl];rfl
  ·rw[k1 hz]
   rw[C_fn rfl Tryz.func193 rfl (by kernel_rfl) (m:=38) rfl];simp only[Z3,simprocAttr,Tryz.f193,qsi,ty,c1 _,h1,qn6,hnd,c3 _,bin_inn,qs0,qs1,qvs,hz,i0,bne,c2 _,h2,k4]
   rw[qd6 _ _ _ rfl,qd7 _ _ _ rfl];rfl
 ·have hdec:decide (valN 0 (numD s)≤maxI)=false:=decide_eq_false h
  simp only[if_neg h,hdec]at c3 ⊢
  rw[C_fn rfl Tryz.func193 rfl (by kernel_rfl) (m:=38) rfl];simp only[Z3,simprocAttr,Tryz.f193,qsi,ty,c1 _,h1,qn6,hnd,c3 _,bin_iin,qs0,qs1,qvs]
  rw[qd6 _ _ _ rfl,qd7 _ _ _ rfl];rfl
theorem qs2 (s:Str):(qco s).length=qa1 qa5 s:=by
 unfold qco
 rw[wh,wv (qg4 _ _)]
theorem qxj (c:UInt8) (r:Str) (hc:qa5 c.toNat=true) (hs:(c::r).length≤65536):Ret C 196 [.str (c::r)] (.tuple [.agg (qkz (c::r)).cells,.bool (decide ((qco (c::r)).length≤24))]):=by
 obtain⟨s,hsd⟩:∃s,s=c::r:=⟨_,rfl⟩
 rw[←hsd]at hs ⊢
 have hsl:s.length≤qac:=by unfold qac;omega
 have hwl:(qco s).length≤qac:=by rw[qs2];have:=qg4 qa5 s;omega
 obtain⟨d0,dr,hd0⟩:∃a b,qco s=a::b:=by
  cases h:qco s with
  |nil=>
   have:=qs2 s
   rw[h,hsd]at this
   simp only[qa1,hc,if_true,ww]at this;omega
  |cons a b=>exact⟨a,b,rfl⟩
 have c2:=qpq qa5 237 qx4 s hsl
 have c3:=q1b (qco s)
 have c4:=qt5 d0.toNat
 have h1:((qa1 qa5 s:Int)≤(s.length:Int)):=by have:=qg4 qa5 s;omega
 have hnd:s.take (qa1 qa5 s)=qco s:=rfl
 have i0:(qco s)[0]? =some d0:=by rw[hd0];rfl
 have h24:decide (((qco s).length:Int)≤24)=decide ((qco s).length≤24):=by
  by_cases h:(qco s).length≤24
  ·rw[decide_eq_true h,decide_eq_true (by omega)]
  ·rw[decide_eq_false h,decide_eq_false (by omega)]
 have hT:(qkz s).cells=[.int .i64 (if wordL.any (qco s== ·)then 5 else if qc4 d0.toNat then 2 else 1),.str (qco s),.int .i64 0,.int .i64 0,.int .i64 0]:=by
  unfold qkz;rw[hd0];rfl
 refine Ret.mk rfl rfl ?_
 rw[hT]
 cases hw:wordL.any (qco s== ·)
 ·cases hu:qc4 d0.toNat
  ·rw[C_fn rfl Tryz.func196 rfl (by kernel_rfl) (m:=24) rfl];simp only[Z3,simprocAttr,Tryz.f196,fx_196,ty,c2 _,h1,qn6,hnd,c3 _,c4 _,i0,hw,hu,hwl,h24]
   rw[qd6 _ _ _ rfl,qd7 _ _ _ rfl];rfl
  ·rw[C_fn rfl Tryz.func196 rfl (by kernel_rfl) (m:=24) rfl];simp only[Z3,simprocAttr,Tryz.f196,fx_196,ty,c2 _,h1,qn6,hnd,c3 _,c4 _,i0,hw,hu,hwl,h24]
   rw[qd6 _ _ _ rfl,qd7 _ _ _ rfl];rfl
 ·rw[C_fn rfl Tryz.func196 rfl (by kernel_rfl) (m:=24) rfl];simp only[Z3,simprocAttr,Tryz.f196,fx_196,ty,c2 _,h1,qn6,hnd,c3 _,i0,hw,hwl,h24]
  rw[qd6 _ _ _ rfl,qd7 _ _ _ rfl];rfl
theorem signs_c:Ret C 235 [] (.agg (signL'.map .str)):=Ret.mk rfl rfl (C_of (n:=4) (by kernel_rfl))
theorem sign_c (s:Str) (hs:s.length≤65536):Ret C 191 [.str s] (.tuple [.agg (qhu s).1.cells,.bool (qhu s).2]):=by
 refine Ret.mk rfl rfl ?_
 have e1:=signs_c
 have hsl:s.length≤qac:=by unfold qac;omega
 have c1:=fun(x:Str) hx=>qzf s x hsl hx
 rw[C_fn rfl Tryz.func191 rfl (by kernel_rfl) (m:=16) rfl];simp only[Z3,simprocAttr,Tryz.f191,qpi,ty,e1 _]
 generalize hb:qam PP cmp0 C lpC _=f;generalize hl:lpC f _=r
 obtain⟨ex,s',rfl,h2⟩:=qc3 (α:=Nat) hl [3,5,8,9,10,11,12,13,14,15] (fun i=>[(7,.int .i64 i)]) (fun i=>i≤18) (fun i=>18-i) (fun i=>(signL'.drop i).find? (preB s))
  (fun ts H r ex st=>(r=none∧ex= .exit 0∧At [3,5,7,8,9,10,11,12,13,14,15] ts H [] st)∨(∃x,r=some x∧ex= .ret∧At [5,7,8,9,10,11,12,13,14,15] ts [.box (PTok.cells ⟨4,x,0,0,0⟩)] [(3,.bool true)] st)) 0 (wq _) (At.of [] (by simp only[ats,wa]) (by simp only[wj])) (by
   intro i j H d hi
   clear hl;subst hb
   by_cases hlt:i<18
   ·have e1':((i:Int)<18):=by omega
    have hx:i<signL'.length:=hlt
    have e3:(signL'.map AVal.str)[i]? =some (.str signL'[i]):=by simp[hx]
    have hxl:signL'[i].length≤qac:=by
     have:∀x∈signL',x.length≤qac:=by decide
     exact this _ (List.getElem_mem hx)
    have hst:(signL'.drop i).find? (preB s)=if preB s signL'[i]=true then some signL'[i]else(signL'.drop (i+1)).find? (preB s):=by
     rw[List.drop_eq_getElem_cons hx,List.find?_cons]
     cases preB s signL'[i]<;>rfl
    have eI:qr5 PP (some (.array 18 9)) (.agg (signL'.map AVal.str)) (.int .i64 (i:Int))=some (.val (.str signL'[i]) .same):=by
     have k1:qao PP 9=some 1:=sz_9
     have k2:aggA PP 9=some false:=ag_9
     unfold qr5 qe8
     simp only[k1,k2,Int.toNat_natCast,Nat.mul_one,e3]
     rw[if_pos (by simp;omega)];rfl
    cases hp:preB s signL'[i]
    ·simp only[Z3,simprocAttr,effs,qpi,ty,e1',eI,c1 _ hxl _,hp,qav (show i≤qac by unfold qac;omega)]
     exact .inl ⟨i+1,_,rfl,hlt,At.of _ (by simp only[ats,wa]) (by simp only[wc,wb,wd];rfl),by simp only[];omega,by simp only[hst,hp];rfl⟩
    ·simp only[Z3,simprocAttr,effs,qpi,ty,e1',eI,c1 _ hxl _,hp]
     exact .inr ⟨_,_,rfl,by simp,.inr ⟨signL'[i],by simp only[hst,hp,if_true],rfl,At.of _ (by simp only[ats,wa]) (by simp only[wc,wb,wd];rfl)⟩⟩
   ·have e1':¬((i:Int)<18):=by omega
    have hi18:i=18:=by omega
    subst hi18
    simp only[Z3,simprocAttr,qpi,ty,e1']
    exact .inr ⟨_,_,rfl,by simp,.inl ⟨rfl,rfl,At.of _ (by simp only[ats,wa]) (by simp only[wc,wb,wd];rfl)⟩⟩)
 rw[wk]at h2
 unfold qhu
 rcases h2 with⟨hr,rfl,h2⟩|⟨x,hr,rfl,h2⟩
 ·obtain⟨j,H,d,rfl⟩:=h2.elim
  clear hl
  rw[hr]
  simp only[Z3,simprocAttr,effs,qpi,ty]
  rw[qd6 _ _ _ rfl,qd7 _ _ _ rfl];rfl
 ·obtain⟨j,H,d,rfl⟩:=h2.elim
  clear hl
  rw[hr]
  simp only[Z3,simprocAttr,effs,qpi,ty]
  rw[qd6 _ _ _ rfl,qd7 _ _ _ rfl];rfl
end Go.Ab
