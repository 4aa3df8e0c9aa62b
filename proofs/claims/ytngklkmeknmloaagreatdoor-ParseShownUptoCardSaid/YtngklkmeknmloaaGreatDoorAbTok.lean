/- The scanner: contracts of what reads one token. -/
import Derived.Test.YtngklkmeknmloaaGreatDoorAbScan
import Derived.Test.YtngklkmeknmloaaGreatDoorAbExt
import Derived.Test.YtngklkmeknmloaaGreatDoorAbTypes
import Derived.Test.YtngklkmeknmloaaGreatDoorAbSl
import Derived.Test.YtngklkmeknmloaaGreatDoorAbExtP
set_option linter.unusedSimpArgs false
set_option linter.unusedVariables false
set_option maxRecDepth 100000
set_option maxHeartbeats 4000000
open Go.Proofs
open Bool renaming and_eq_true→wa,and_eq_false_iff→we,false_eq_true→wi
open UInt8 renaming ofNat→wb
open List renaming all_cons→wc,append_assoc→wf,cons_append→wg,nil_append→wh,length_take→wj,length_nil→wm
open Int renaming natCast_zero→wd
open Nat renaming min_eq_left→wk,zero_le→wo
namespace Go.Ab
open Go Go.Ab.Tab
def qmx:Str→Int
 |[]=>4
 |c::r=>if qcg c.toNat then 3 else if qe5 c.toNat||qei c.toNat then(if wordL.any ((c::r)== ·)then 5 else if qei c.toNat then 2 else 1)else 4
def stpN (a:Nat) (c:UInt8):Nat:=10*a+(c.toNat-48)
def valN (a:Nat) (s:Str):Nat:=s.foldl stpN a
theorem q3j (a:Nat):valN a []=a:=rfl
theorem qt3 (a:Nat) (c:UInt8) (r:Str):valN a (c::r)=valN (stpN a c) r:=List.foldl_cons
def tokW (w:Str):PTok:=⟨qmx w,w,if qmx w=3 then(valN 0 w:Int)else 0,0,0⟩
def toks (l:List Str):List PTok:=l.map tokW
theorem toks_app (a b:List Str):toks (a++b)=toks a++toks b:=List.map_append
theorem qpz (z:Int) (h:qe5 z=true):qcg z=false:=by
 simp only[qe5,wa,decide_eq_true_eq]at h
 simp only[qcg,we,decide_eq_false_iff_not];omega
theorem qp0 (z:Int) (h:qe5 z=true):qei z=false:=by
 simp only[qe5,wa,decide_eq_true_eq]at h
 simp only[qei,we,decide_eq_false_iff_not];omega
theorem qv5 (z:Int) (h:qei z=true):qcg z=false:=by
 simp only[qei,wa,decide_eq_true_eq]at h
 simp only[qcg,we,decide_eq_false_iff_not];omega
def firstLow:Str→Bool
 |[]=>false
 |c::_=>qe5 c.toNat
theorem qt4:∀x∈wordL,firstLow x=true:=by decide
theorem qt5 (c:UInt8) (r:Str) (h:qei c.toNat=true):wordL.any ((c::r)== ·)=false:=by
 cases hh:wordL.any ((c::r)== ·)with
 |false=>rfl
 |true=>
  rw[List.any_eq_true]at hh
  obtain⟨x,hx,he⟩:=hh
  have:=qt4 x hx
  rw[←eq_of_beq he]at this
  have:=qp0 _ this
  rw[h]at this;cases this
theorem qgh {p:Int→Bool} {w:Str} (h:qk1 p w=true):∃c r,w=c::r∧p c.toNat=true∧(c::r).length≤24∧qbe qbz (c::r)=(c::r).length:=by
 cases w with
 |nil=>cases h
 |cons c r=>
  simp only[qk1,wa,decide_eq_true_eq,beq_iff_eq]at h
  exact⟨c,r,rfl,h.1.2,h.1.1,h.2⟩
theorem qfm {w:Str} (h:qc2 w=true):tokW w=⟨1,w,0,0,0⟩:=by
 simp only[qc2,wa,Bool.not_eq_true']at h
 obtain⟨h1,h2⟩:=h
 obtain⟨c,r,rfl,hc,_,_⟩:=qgh h1
 have:qmx (c::r)=1:=by
  simp only[qmx,qpz _ hc,hc,h2,qp0 _ hc,Bool.true_or,if_true,wi,if_false]
 simp only[tokW,this];rfl
theorem qk2 {w:Str} (h:qgb w=true):tokW w=⟨2,w,0,0,0⟩:=by
 obtain⟨c,r,rfl,hc,_,_⟩:=qgh h
 have:qmx (c::r)=2:=by
  simp only[qmx,qv5 _ hc,hc,qt5 c r hc,Bool.or_true,if_true,wi,if_false]
 simp only[tokW,this];rfl
def qej (s:Str):Bool:=s.all fun c=>qcg c.toNat
theorem qp1 (k:Nat) (h:k<10):(wb (48+k)).toNat=48+k:=by
 simp[UInt8.toNat_ofNat'];omega
theorem digitB_of (k:Nat) (h:k<10):qcg ((wb (48+k)).toNat:Nat)=true:=by
 rw[qp1 k h];simp only[qcg,wa,decide_eq_true_eq];omega
theorem valN_app (a:Nat) (l m:Str):valN a (l++m)=valN (valN a l) m:=List.foldl_append
theorem q0x (f n:Nat):decN (f+1) n=if n<10 then[wb (48+n)]else decN f (n/10)++[wb (48+n % 10)]:=rfl
theorem val_one (k:Nat) (h:k<10) (a:Nat):valN a [wb (48+k)]=10*a+k:=by
 rw[qt3,q3j]
 unfold stpN
 rw[qp1 k h];omega
theorem dig_one (k:Nat) (h:k<10):qej [wb (48+k)]=true:=by
 show(qcg ((wb (48+k)).toNat:Nat) && true)=true
 rw[digitB_of k h];rfl
theorem dig_app (a b:Str):qej (a++b)=(qej a && qej b):=List.all_append
theorem q3k (f:Nat):∀n:Nat,n<10 ^ f→qej (decN f n)=true∧valN 0 (decN f n)=n∧(0<f→decN f n≠[]):=by
 induction f with
 |zero=>intro n h;exact⟨rfl,by rw[Nat.pow_zero]at h;show valN 0 []=n;rw[q3j];omega,fun h=>absurd h (by omega)⟩
 |succ f ih=>
  intro n h
  rw[q0x]
  by_cases hn:n<10
  ·rw[if_pos hn]
   exact⟨dig_one n hn,by rw[val_one n hn];omega,fun _=>by simp⟩
  ·rw[if_neg hn]
   have h10:n/10<10 ^ f:=by
    rw[Nat.pow_succ]at h
    exact Nat.div_lt_of_lt_mul (by rw[Nat.mul_comm];exact h)
   obtain⟨h1,h2,_⟩:=ih (n/10) h10
   have hm:n % 10<10:=Nat.mod_lt _ (by omega)
   refine⟨by rw[dig_app,h1,dig_one _ hm];rfl,?_,fun _=>by simp⟩
   rw[valN_app,h2,val_one _ hm];omega
theorem qsg {n:Int} (h0:0≤n) (h1:n≤9223372036854775807):qej (decB n)=true∧(valN 0 (decB n):Int)=n∧decB n≠[]:=by
 unfold decB
 rw[if_neg (by omega)]
 have hp:(100000000000000000000:Nat)=10 ^ 20:=rfl
 obtain⟨a,b,c⟩:=q3k 20 n.toNat (by rw[←hp];omega)
 exact⟨a,by rw[b];omega,c (by omega)⟩
theorem qzo {n:Int} (h0:0≤n) (h1:n≤9223372036854775807):tokW (decB n)=⟨3,decB n,n,0,0⟩:=by
 obtain⟨a,b,c⟩:=qsg h0 h1
 have:qmx (decB n)=3:=by
  cases hh:decB n with
  |nil=>exact absurd hh c
  |cons x r=>
   rw[hh]at a
   simp only[qej,wc,wa]at a
   simp only[qmx,a.1,if_true]
 simp only[tokW,this,if_true,b]
theorem qq2 (s:Str) (h:qbe qbz s=s.length):∀c∈s,c≠32:=by
 induction s with
 |nil=>intro c hc;cases hc
 |cons d r ih=>
  simp only[qbe]at h
  split at h
  ·rename_i hd
   intro c hc
   rcases List.mem_cons.1 hc with rfl|hc
   ·intro e;subst e;revert hd;decide
   ·exact ih (by simpa using h) c hc
  ·simp at h
end Go.Ab
namespace Go.Ab
open Go Go.Ab.Tab
def maxI:Nat:=9223372036854775807
def numD (s:Str):Str:=s.take (qbe qcg s)
def numT (s:Str):PTok:=⟨3,numD s,if valN 0 (numD s)≤maxI then(valN 0 (numD s):Int)else 9223372036854775807,0,0⟩
def notZ (d:Str):Bool:=d==[48]|| !(d.head? ==some 48)
def qsh (s:Str):Bool:=decide (valN 0 (numD s)≤maxI) && notZ (numD s) && (qbe qbz s==(numD s).length)
def qen (s:Str):Str:=s.take (qbe qbz s)
def qny (s:Str):PTok:=⟨if wordL.any (qen s== ·)then 5 else if qei ((qen s).headD 0).toNat then 2 else 1,qen s,0,0,0⟩
def signL':List Str:=[[45,62],[60,61],[60,62],[40],[41],[91],[93],[60],[61],[44],[59],[58],[124],[43],[45],[42],[47],[37]]
def noTok:PTok:=⟨0,[],0,0,0⟩
def qpo (s:Str):PTok×Bool:=match signL'.find? (preB s)with
 |some x=>(⟨4,x,0,0,0⟩,true)
 |none=>(noTok,false)
def lexT:Str→PTok×Bool
 |[]=>(noTok,false)
 |c::r=>if qcg c.toNat then(numT (c::r),qsh (c::r))else if qe5 c.toNat||qei c.toNat then(qny (c::r),decide ((qen (c::r)).length≤24))else qpo (c::r)
theorem valN_mono (t:Str):∀a:Nat,a≤valN a t:=by
 induction t with
 |nil=>intro a;exact Nat.le_refl _
 |cons d t iht=>intro a;have:=iht (stpN a d);rw[qt3];unfold stpN at this ⊢;omega
theorem q45 (M acc:Nat) (c:UInt8) (r:Str):Lib.parseUintM M acc (c::r)=if 48≤c.toNat∧c.toNat≤57 then(if 1844674407370955162≤acc then .range else if M<acc*10+(c.toNat-48)then .range else Lib.parseUintM M (acc*10+(c.toNat-48)) r)else .syntax:=by rw[Lib.parseUintM]
theorem q0y {c:UInt8} (h:qcg c.toNat=true):48≤c.toNat∧c.toNat≤57:=by
 simp only[qcg,wa,decide_eq_true_eq]at h;omega
theorem parseM (M:Nat) (hM:M=18446744073709551615) (s:Str):∀acc:Nat,qej s=true→acc≤M→Lib.parseUintM M acc s=if valN acc s≤M then .ok (valN acc s)else .range:=by
 induction s with
 |nil=>
  intro acc _ h
  show Lib.NumEnd.ok acc=if acc≤M then _ else _
  rw[if_pos h];rfl
 |cons c r ih=>
  intro acc hd h
  have hd1:qcg c.toNat=true∧qej r=true:=by
   unfold qej at hd ⊢
   rw[wc,wa]at hd;exact hd
  have hc:=q0y hd1.1
  rw[q45,if_pos hc,qt3]
  have e:acc*10+(c.toNat-48)=stpN acc c:=by unfold stpN;omega
  have hm:=valN_mono r (stpN acc c)
  have hst:10*acc≤stpN acc c:=by unfold stpN;omega
  rw[e]
  generalize stpN acc c=q at*
  by_cases h1:1844674407370955162≤acc
  ·rw[if_pos h1,if_neg (by omega)]
  ·rw[if_neg h1]
   by_cases h2:M<q
   ·rw[if_pos h2,if_neg (by omega)]
   ·rw[if_neg h2];exact ih _ hd1.2 (by omega)
theorem parse_num (s:Str) (hd:qej s=true) (hne:s≠[]):Lib.parseIntB 64 s=if valN 0 s≤maxI then .ok (valN 0 s:Int)else .range:=by
 cases s with
 |nil=>exact absurd rfl hne
 |cons c r=>
  have hd1:qcg c.toNat=true:=by
   unfold qej at hd
   rw[wc,wa]at hd;exact hd.1
  have hc:=q0y hd1
  have hp:(2:Nat) ^ 64-1=18446744073709551615:=by decide
  have hq:(2:Nat) ^ (64-1)=9223372036854775808:=by decide
  have hm:=parseM _ hp (c::r) 0 hd (wo _)
  have hu:Lib.parseUintB 64 (c::r)=Lib.parseUintM (2 ^ 64-1) 0 (c::r):=rfl
  obtain⟨v,hv⟩:∃v,v=valN 0 (c::r):=⟨_,rfl⟩
  rw[←hv]at hm ⊢
  unfold Lib.parseIntB
  simp only[hq]
  rw[if_neg (by omega:¬(c.toNat=43∨c.toNat=45)),hu,hm]
  unfold maxI
  by_cases h1:v≤2 ^ 64-1
  ·rw[if_pos h1]
   simp only
   by_cases h2:v≤9223372036854775807
   ·rw[if_pos h2,if_neg (by omega),if_neg (by omega),if_neg (by omega)]
   ·rw[if_neg h2,if_pos (by omega)]
  ·rw[if_neg h1,if_neg (by omega)]
theorem sat_num (s:Str) (hd:qej s=true):Lib.intSat 64 s=9223372036854775807:=by
 unfold Lib.intSat
 rw[if_neg]
 ·decide
 ·cases s with
  |nil=>simp
  |cons c r=>
   have hc:48≤c.toNat∧c.toNat≤57:=by
    simp only[qej,wc,wa]at hd
    have:=hd.1
    simp only[qcg,wa,decide_eq_true_eq]at this;omega
   simp;omega
theorem q3l (p:Int→Bool):∀s:Str,(s.take (qbe p s)).all (fun c=>p c.toNat)=true
 |[]=>rfl
 |c::r=>by
  simp only[qbe]
  split
  ·rename_i h
   simp only[List.take_succ_cons,wc,h,q3l p r,Bool.and_self]
  ·rfl
end Go.Ab
namespace Go.Ab
open Go Go.Ab.Tab
def eqIf (d:Option TypeDesc) (b:Bool):Option AVal:=match d with
 |some (.interface _)=>some (.bool b)
 |_=>none
theorem qw1 (ms:Array (String×TypeId)) (b:Bool):eqIf (some (.interface ms)) b=some (.bool b):=rfl
section
variable (P:Program) (cmp:List TypeId) (t:TypeId)
theorem bin_inn:binA P cmp .eql t true .nili .nili=eqIf (P.underlying t) true:=by
 simp only[binA,eqT,eqIf]
 cases P.underlying t with
 |none=>rfl
 |some d=>cases d<;>rfl
theorem bin_iin (n:Bool) (u:TypeId) (v:AVal):binA P cmp .eql t n (.iface u v) .nili=eqIf (P.underlying t) false:=by
 simp only[binA,eqT,eqIf]
 cases P.underlying t with
 |none=>rfl
 |some d=>cases d<;>rfl
end
theorem qt6 (v:Value):qey (.const v)=true:=rfl
theorem qt7 (t:Tmp):qey (.tmp t)=false:=rfl
theorem parse_c (d:Str) (hd:qej d=true) (hne:d≠[]) (hl:d.length≤65536):Ret C 236 [.str d,.int .i64 10,.int .i64 64]
 (.tuple [.int .i64 (if valN 0 d≤maxI then(valN 0 d:Int)else 9223372036854775807),if valN 0 d≤maxI then .nili else .iface errT (.eptr [] 0)]):=by
 have e:=parse_num d hd hne
 have hl':d.length≤qio:=by unfold qio;omega
 refine Ret.mk rfl (by by_cases h:valN 0 d≤maxI<;>simp[h,refs,qad]) ?_
 unfold C
 rw[quk ext_parse]
 unfold qkn
 simp only
 rw[if_pos hl',e]
 by_cases h:valN 0 d≤maxI
 ·simp only[if_pos h]
 ·simp only[if_neg h,sat_num d hd]
theorem qw2 (s:Str):(numD s).length=qbe qcg s:=by
 unfold numD
 rw[wj,wk (qhq _ _)]
theorem numD_dig (s:Str):qej (numD s)=true:=q3l qcg s
theorem hd48 (d:Str):((d==[48])=true→notZ d=true)∧((d==[48])=false→notZ d= !(d.head? ==some 48)):=by
 unfold notZ
 constructor<;>intro h<;>rw[h]<;>simp
theorem number_c (c:UInt8) (r:Str) (hc:qcg c.toNat=true) (hs:(c::r).length≤65536):Ret C 193 [.str (c::r)] (.tuple [.agg (numT (c::r)).cells,.bool (qsh (c::r))]):=by
 obtain⟨s,hsd⟩:∃s,s=c::r:=⟨_,rfl⟩
 rw[←hsd]at hs ⊢
 have hsl:s.length≤qac:=by unfold qac;omega
 have hne:numD s≠[]:=by
  intro e
  have:=qw2 s
  rw[e,hsd]at this
  simp only[qbe,hc,if_true,wm]at this;omega
 have c1:=qq1 qcg 192 qzm s hsl
 have c2:=qq1 qbz 237 qzn s hsl
 have hdl:(numD s).length≤65536:=by rw[qw2];have:=qhq qcg s;omega
 have c3:=parse_c (numD s) (numD_dig s) hne hdl
 have h1:((qbe qcg s:Int)≤(s.length:Int)):=by have:=qhq qcg s;omega
 have h2:(numD s).length≤qac:=by unfold qac;omega
 have hnd:s.take (qbe qcg s)=numD s:=rfl
 obtain⟨d0,dr,hd0⟩:∃a b,numD s=a::b:=by
  cases h:numD s with
  |nil=>exact absurd h hne
  |cons a b=>exact⟨a,b,rfl⟩
 refine Ret.mk rfl rfl ?_
 have i0:(numD s)[0]? =some d0:=by rw[hd0];rfl
 have hT:(numT s).cells=[.int .i64 3,.str (numD s),.int .i64 (if valN 0 (numD s)≤maxI then(valN 0 (numD s):Int)else 9223372036854775807),.int .i64 0,.int .i64 0]:=rfl
 have hO:qsh s=(decide (valN 0 (numD s)≤maxI) && notZ (numD s) && (qbe qbz s==(numD s).length)):=rfl
 rw[hT,hO]
 obtain⟨k1,k2⟩:=hd48 (numD s)
 have k3:((numD s).head? ==some (48:UInt8))=((d0.toNat:Int)==48):=by
  rw[hd0]
  by_cases h:d0=48
  ·subst h;rfl
  ·have:d0.toNat≠48:=fun e=>h (UInt8.toNat_inj.1 (by rw[e];rfl))
   have h1:((d0.toNat:Int)==48)=false:=by simp;omega
   rw[h1];simp[h]
 have k4:((qbe qbz s:Int)==((numD s).length:Int))=(qbe qbz s==(numD s).length):=int_beq _ _
 by_cases h:valN 0 (numD s)≤maxI
 ·have hdec:decide (valN 0 (numD s)≤maxI)=true:=decide_eq_true h
  simp only[if_pos h,hdec]at c3 ⊢
  cases hz:numD s==[48]
  ·rw[k2 hz,k3]
   rw[C_fn rfl Tryz.func193 rfl (by kernel_rfl) (m:=38) rfl];simp only[Z3,simprocAttr,Tryz.f193,qtu,ty,c1 _,h1,qpn,hnd,c3 _,bin_inn,qt6,qt7,qw1,hz,i0,bne]
   cases hq:((d0.toNat:Int)==48)
   ·simp only[Z3,simprocAttr,qtu,ty,hq,c2 _,h2,k4]
    rw[qep _ _ _ rfl,qeq _ _ _ rfl];rfl
   ·simp only[Z3,simprocAttr,qtu,ty,hq]
    rw[qep _ _ _ rfl,qeq _ _ _ rfl];rfl
  ·rw[k1 hz]
   rw[C_fn rfl Tryz.func193 rfl (by kernel_rfl) (m:=38) rfl];simp only[Z3,simprocAttr,Tryz.f193,qtu,ty,c1 _,h1,qpn,hnd,c3 _,bin_inn,qt6,qt7,qw1,hz,i0,bne,c2 _,h2,k4]
   rw[qep _ _ _ rfl,qeq _ _ _ rfl];rfl
 ·have hdec:decide (valN 0 (numD s)≤maxI)=false:=decide_eq_false h
  simp only[if_neg h,hdec]at c3 ⊢
  rw[C_fn rfl Tryz.func193 rfl (by kernel_rfl) (m:=38) rfl];simp only[Z3,simprocAttr,Tryz.f193,qtu,ty,c1 _,h1,qpn,hnd,c3 _,bin_iin,qt6,qt7,qw1]
  rw[qep _ _ _ rfl,qeq _ _ _ rfl];rfl
theorem qt8 (s:Str):(qen s).length=qbe qbz s:=by
 unfold qen
 rw[wj,wk (qhq _ _)]
theorem qyr (c:UInt8) (r:Str) (hc:qbz c.toNat=true) (hs:(c::r).length≤65536):Ret C 196 [.str (c::r)] (.tuple [.agg (qny (c::r)).cells,.bool (decide ((qen (c::r)).length≤24))]):=by
 obtain⟨s,hsd⟩:∃s,s=c::r:=⟨_,rfl⟩
 rw[←hsd]at hs ⊢
 have hsl:s.length≤qac:=by unfold qac;omega
 have hwl:(qen s).length≤qac:=by rw[qt8];have:=qhq qbz s;omega
 obtain⟨d0,dr,hd0⟩:∃a b,qen s=a::b:=by
  cases h:qen s with
  |nil=>
   have:=qt8 s
   rw[h,hsd]at this
   simp only[qbe,hc,if_true,wm]at this;omega
  |cons a b=>exact⟨a,b,rfl⟩
 have c2:=qq1 qbz 237 qzn s hsl
 have c3:=q3h (qen s)
 have c4:=qvi d0.toNat
 have h1:((qbe qbz s:Int)≤(s.length:Int)):=by have:=qhq qbz s;omega
 have hnd:s.take (qbe qbz s)=qen s:=rfl
 have i0:(qen s)[0]? =some d0:=by rw[hd0];rfl
 have h24:decide (((qen s).length:Int)≤24)=decide ((qen s).length≤24):=by
  by_cases h:(qen s).length≤24
  ·rw[decide_eq_true h,decide_eq_true (by omega)]
  ·rw[decide_eq_false h,decide_eq_false (by omega)]
 have hT:(qny s).cells=[.int .i64 (if wordL.any (qen s== ·)then 5 else if qei d0.toNat then 2 else 1),.str (qen s),.int .i64 0,.int .i64 0,.int .i64 0]:=by
  unfold qny;rw[hd0];rfl
 refine Ret.mk rfl rfl ?_
 rw[hT]
 cases hw:wordL.any (qen s== ·)
 ·cases hu:qei d0.toNat
  ·rw[C_fn rfl Tryz.func196 rfl (by kernel_rfl) (m:=24) rfl];simp only[Z3,simprocAttr,Tryz.f196,fx_196,ty,c2 _,h1,qpn,hnd,c3 _,c4 _,i0,hw,hu,hwl,h24]
   rw[qep _ _ _ rfl,qeq _ _ _ rfl];rfl
  ·rw[C_fn rfl Tryz.func196 rfl (by kernel_rfl) (m:=24) rfl];simp only[Z3,simprocAttr,Tryz.f196,fx_196,ty,c2 _,h1,qpn,hnd,c3 _,c4 _,i0,hw,hu,hwl,h24]
   rw[qep _ _ _ rfl,qeq _ _ _ rfl];rfl
 ·rw[C_fn rfl Tryz.func196 rfl (by kernel_rfl) (m:=24) rfl];simp only[Z3,simprocAttr,Tryz.f196,fx_196,ty,c2 _,h1,qpn,hnd,c3 _,i0,hw,hwl,h24]
  rw[qep _ _ _ rfl,qeq _ _ _ rfl];rfl
theorem signs_c:Ret C 235 [] (.agg (signL'.map .str)):=Ret.mk rfl rfl (C_of (n:=4) (by kernel_rfl))
theorem sign_c (s:Str) (hs:s.length≤65536):Ret C 191 [.str s] (.tuple [.agg (qpo s).1.cells,.bool (qpo s).2]):=by
 refine Ret.mk rfl rfl ?_
 have e1:=signs_c
 have hsl:s.length≤qac:=by unfold qac;omega
 have c1:=fun(x:Str) hx=>q0v s x hsl hx
 rw[C_fn rfl Tryz.func191 rfl (by kernel_rfl) (m:=16) rfl];simp only[Z3,simprocAttr,Tryz.f191,qqr,ty,e1 _]
 generalize hb:qan PP cmp0 C lpC _=f;generalize hl:lpC f _=r
 obtain⟨ex,s',rfl,h2⟩:=qeo (α:=Nat) hl [3,5,8,9,10,11,12,13,14,15] (fun i=>[(7,.int .i64 i)]) (fun i=>i≤18) (fun i=>18-i) (fun i=>(signL'.drop i).find? (preB s))
  (fun ts H r ex st=>(r=none∧ex= .exit 0∧At [3,5,7,8,9,10,11,12,13,14,15] ts H [] st)∨(∃x,r=some x∧ex= .ret∧At [5,7,8,9,10,11,12,13,14,15] ts [.box (PTok.cells ⟨4,x,0,0,0⟩)] [(3,.bool true)] st)) 0 (wo _) (At.of [] (by simp only[ats,wd]) (by simp only[List.append_nil])) (by
   intro i j H d hi
   clear hl;subst hb
   by_cases hlt:i<18
   ·have e1':((i:Int)<18):=by omega
    have hx:i<signL'.length:=hlt
    have e3:(signL'.map AVal.str)[i]? =some (.str signL'[i]):=by simp[hx]
    have hxl:signL'[i].length≤qac:=by
     have:∀x∈signL',x.length≤qac:=by decide
     exact this _ (List.getElem_mem hx)
    have hst:(signL'.drop i).find? (preB s)=if preB s signL'[i]=true then some signL'[i]else(signL'.drop (i+1)).find? (preB s):=by
     rw[List.drop_eq_getElem_cons hx,List.find?_cons]
     cases preB s signL'[i]<;>rfl
    have eI:qtg PP (some (.array 18 9)) (.agg (signL'.map AVal.str)) (.int .i64 (i:Int))=some (.val (.str signL'[i]) .same):=by
     have k1:qas PP 9=some 1:=sz_9
     have k2:aggA PP 9=some false:=ag_9
     unfold qtg qfp
     simp only[k1,k2,Int.toNat_natCast,Nat.mul_one,e3]
     rw[if_pos (by simp;omega)];rfl
    cases hp:preB s signL'[i]
    ·simp only[Z3,simprocAttr,effs,qqr,ty,e1',eI,c1 _ hxl _,hp,qay (show i≤qac by unfold qac;omega)]
     exact .inl ⟨i+1,_,rfl,hlt,At.of _ (by simp only[ats,wd]) (by simp only[wg,wf,wh];rfl),by simp only[];omega,by simp only[hst,hp];rfl⟩
    ·simp only[Z3,simprocAttr,effs,qqr,ty,e1',eI,c1 _ hxl _,hp]
     exact .inr ⟨_,_,rfl,by simp,.inr ⟨signL'[i],by simp only[hst,hp,if_true],rfl,At.of _ (by simp only[ats,wd]) (by simp only[wg,wf,wh];rfl)⟩⟩
   ·have e1':¬((i:Int)<18):=by omega
    have hi18:i=18:=by omega
    subst hi18
    simp only[Z3,simprocAttr,qqr,ty,e1']
    exact .inr ⟨_,_,rfl,by simp,.inl ⟨rfl,rfl,At.of _ (by simp only[ats,wd]) (by simp only[wg,wf,wh];rfl)⟩⟩)
 rw[List.drop_zero]at h2
 unfold qpo
 rcases h2 with⟨hr,rfl,h2⟩|⟨x,hr,rfl,h2⟩
 ·obtain⟨j,H,d,rfl⟩:=h2.elim
  clear hl
  rw[hr]
  simp only[Z3,simprocAttr,effs,qqr,ty]
  rw[qep _ _ _ rfl,qeq _ _ _ rfl];rfl
 ·obtain⟨j,H,d,rfl⟩:=h2.elim
  clear hl
  rw[hr]
  simp only[Z3,simprocAttr,effs,qqr,ty]
  rw[qep _ _ _ rfl,qeq _ _ _ rfl];rfl
end Go.Ab
